/- Which instructions stay by themselves: the walks of ops.Pure, ops.Raw, dead.stays and of the document's Stays. -/
import Derived.Test.YtjlclkcmfokobaaGreatDoorRefRZ
import Derived.Test.YtjlclkcmfokobaaGreatDoorSlcZ
import Derived.Test.YtjlclkcmfokobaaGreatDoorZedZ
import Derived.Test.YtjlclkcmfokobaaGreatDoorMkRowsZ
import Derived.Test.YtjlclkcmfokobaaGreatDoorJoinQZ
import Derived.Test.YtjlclkcmfokobaaGreatDoorWaysZ
import Derived.Test.YtjlclkcmfokobaaGreatDoorSchZ
import Derived.Test.YtjlclkcmfokobaaGreatDoorTreePZ
import Derived.Great.BuildSlice
import Derived.Deep.MidRow
import Derived.Deep.DeepCutAuto
import Derived.Deep.CutBlock
import Derived.Maps.AppendAt
namespace Go.Proofs.YtjlclkcmfokobaaGreatDoor
open Go.RowKit
set_option maxRecDepth 100000
def Yht(o:Nat):Bool:=!([0,1,2,3,4,7,8,9,10,11,16,25,26].contains o)
def Yb2(o:Nat):Bool:=decide (18≤o)&&decide (o≤24)
def Ya9(o:Nat):Bool:=!Yb2 o&&!decide (o=14)&&!decide (o=17)&&!decide (o=15)
def YlN:List Int:=[5,6,12,13,14,15]
def YlO(o:Nat):Bool:=(List.range 6).any fun i=>YlN.getD i 0==(o:Int)
theorem Yp3:∀o,o<27→(!Ya9 o||YlO o)=Yht o:=by decide +kernel
theorem YlP{w:World}(o:Nat):Calls Tryz.prog 147 #[.int .i64 (o:Int)] w fun e w'=>e=.returned (.bool (Yb2 o))∧w'=w:=by
 by_cases h1:18≤o
 · by_cases h2:o≤24
   · have HC:=Lh (show Yb2 o=true by simp[Yb2,h1,h2])
     have h3:decide ((18:Int)≤(o:Int))=true:=decide_eq_true ZO;have h4:decide ((o:Int)≤24)=true:=decide_eq_true ZO;go_enter Tryz.func147,Tryz.ntmps147;go_wp2;go_ret;exact⟨Yb HC.out.symm,rfl⟩
   · have HC:=Lh (show Yb2 o=false by simp[Yb2,h2])
     have h3:decide ((18:Int)≤(o:Int))=true:=decide_eq_true ZO;have h4:decide ((o:Int)≤24)=false:=decide_eq_false ZO;go_enter Tryz.func147,Tryz.ntmps147;go_wp2;go_ret;exact⟨Yb HC.out.symm,rfl⟩
 · have HC:=Lh (show Yb2 o=false by simp[Yb2,h1])
   have h3:decide ((18:Int)≤(o:Int))=false:=decide_eq_false ZO;go_enter Tryz.func147,Tryz.ntmps147;go_wp2;go_ret;exact⟨Yb HC.out.symm,rfl⟩
set_option maxHeartbeats 1000000 in
theorem YlQ{w:World}(o:Nat)(ho:o<27):Calls Tryz.prog 110 #[.int .i64 (o:Int)] w fun e w'=>e=.returned (.bool (Ya9 o))∧w'=w:=by
 have h1:=Ye7 (w:=w) (o:Int);have hi:Yaq (o:Int)=true:=by simp[Yaq,inB];omega
 rw[hi]at h1;have h2:=YlP (w:=w) o;clear hi ho;cases hc:Yb2 o
 · rw[hc]at h2
   by_cases e1:o=14
   · have HC:=Lh (show Ya9 o=false by simp[Ya9,e1])
     have d1:((o:Int) !=14)=false:=by simp[e1]
     clear hc e1;go_enter Tryz.func110,Tryz.ntmps110;go_wp2_with(first|(go_at_call 146;refine h1.mono ?_;rintro e w1 ⟨rfl,rfl⟩)|(go_at_call 147;refine h2.mono ?_;rintro e w2 ⟨rfl,rfl⟩));go_ret;exact⟨Yb HC.out.symm,rfl⟩
   · have d1:((o:Int) !=14)=true:=by simp;omega
     by_cases e2:o=17
     · have HC:=Lh (show Ya9 o=false by simp[Ya9,e2])
       have d2:((o:Int) !=17)=false:=by simp[e2]
       clear hc e1 e2;go_enter Tryz.func110,Tryz.ntmps110;go_wp2_with(first|(go_at_call 146;refine h1.mono ?_;rintro e w1 ⟨rfl,rfl⟩)|(go_at_call 147;refine h2.mono ?_;rintro e w2 ⟨rfl,rfl⟩));go_ret;exact⟨Yb HC.out.symm,rfl⟩
     · have d2:((o:Int) !=17)=true:=by simp;omega
       by_cases e3:o=15
       · have HC:=Lh (show Ya9 o=false by simp[Ya9,e3])
         have d3:((o:Int) !=15)=false:=by simp[e3]
         clear hc e1 e2 e3;go_enter Tryz.func110,Tryz.ntmps110;go_wp2_with(first|(go_at_call 146;refine h1.mono ?_;rintro e w1 ⟨rfl,rfl⟩)|(go_at_call 147;refine h2.mono ?_;rintro e w2 ⟨rfl,rfl⟩));go_ret;exact⟨Yb HC.out.symm,rfl⟩
       · have HC:=Lh (show Ya9 o=true by simp[Ya9,hc,e1,e2,e3])
         have d3:((o:Int) !=15)=true:=by simp;omega
         clear hc e1 e2 e3;go_enter Tryz.func110,Tryz.ntmps110;go_wp2_with(first|(go_at_call 146;refine h1.mono ?_;rintro e w1 ⟨rfl,rfl⟩)|(go_at_call 147;refine h2.mono ?_;rintro e w2 ⟨rfl,rfl⟩));go_ret;exact⟨Yb HC.out.symm,rfl⟩
 · rw[hc]at h2
   have HC:=Lh (show Ya9 o=false by simp[Ya9,hc]);clear hc;go_enter Tryz.func110,Tryz.ntmps110;go_wp2_with(first|(go_at_call 146;refine h1.mono ?_;rintro e w1 ⟨rfl,rfl⟩)|(go_at_call 147;refine h2.mono ?_;rintro e w2 ⟨rfl,rfl⟩));go_ret;exact⟨Yb HC.out.symm,rfl⟩
theorem YlR:∀i,i<27→∀j,j<27→((kindAt i).1==(kindAt j).1)=decide (i=j):=by decide +kernel
theorem Yad(i:Nat)(hi:i<27)(j:Nat)(hj:j<27):((bs (kindAt i).1).toList==(kindAt j).1)=decide (i=j):=by
 rw[show(bs (kindAt i).1).toList=(kindAt i).1 by simp[bs,Lib.toList_data]];exact YlR i hi j hj
theorem Yp4(i:Nat)(hi:i<27){sW:ByteArray}(h:sW=bs (kindAt i).1):(sW.toList==[99,111,110,115,116])=decide (i=0)∧(sW.toList==[99,111,112,121])=decide (i=1)∧(sW.toList==[97,100,100])=decide (i=2)∧(sW.toList==[115,117,98])=decide (i=3)∧(sW.toList==[109,117,108])=decide (i=4)∧(sW.toList==[101,113])=decide (i=7)∧(sW.toList==[108,116])=decide (i=8)∧(sW.toList==[108,101])=decide (i=9)∧(sW.toList==[110,111,116])=decide (i=10)∧(sW.toList==[97,110,100])=decide (i=11)∧(sW.toList==[110,105,108])=decide (i=16)∧(sW.toList==[112,105])=decide (i=25)∧(sW.toList==[112,105,108,101,110])=decide (i=26):=by
 rw[h];exact⟨Yad i hi 0 ZD,Yad i hi 1 ZD,Yad i hi 2 ZD,Yad i hi 3 ZD,Yad i hi 4 ZD,Yad i hi 7 ZD,Yad i hi 8 ZD,Yad i hi 9 ZD,Yad i hi 10 ZD,Yad i hi 11 ZD,Yad i hi 16 ZD,Yad i hi 25 ZD,Yad i hi 26 ZD⟩
theorem Ymb{F:PFunc}{n i:Nat}(h:i<n){e:Ev}(he:e∈Yah F i):e∈evs F n:=by
 induction n with
 |zero=>omega
 |succ n ih=>
  rw[evs,List.mem_append]
  by_cases hi:i<n
  · exact .inl (ih hi)
  · obtain rfl:i=n:=by omega
    exact .inr he
section
variable {F:PFunc}
def Yas(F:PFunc)(v:Int)(i:Nat)(a:Int):Prop:=i<F.blocks.length∧((a=-1∧∃p∈(F.blk i).phis,p.dst=v)∨∃k:Nat,k<(F.blk i).insts.length∧a=k∧((F.blk i).inst k).dst=v)
theorem YfR{v:Int}{i:Nat}{a:Int}:Yas F v i a↔(⟨v,i,a⟩:Ev)∈evF F:=by
 constructor
 · rintro⟨hi,h⟩
   refine Ymb hi ?_;unfold Yah;rw[List.mem_append];rcases h with⟨rfl,p,hp,rfl⟩|⟨k,hk,rfl,rfl⟩
   · obtain⟨k,hk,rfl⟩:=List.getElem_of_mem hp
     exact .inl (List.mem_map.2 ⟨k,List.mem_range.2 hk,by simp[PBlock.phi,List.getD,hk]⟩)
   · exact .inr (List.mem_map.2 ⟨k,List.mem_range.2 hk,rfl⟩)
 · intro h
   have key:∀n,n≤F.blocks.length→(⟨v,i,a⟩:Ev)∈evs F n→i<n∧(⟨v,i,a⟩:Ev)∈Yah F i:=by
    intro n
    induction n with
    |zero=>intro _ h;cases h
    |succ n ih=>
     intro hn h;rw[evs,List.mem_append]at h;rcases h with h|h
     · have:=ih ZO h
       exact⟨ZO,this.2⟩
     · have hb:i=n:=by
        unfold Yah evPhi evIns at h;rw[List.mem_append,List.mem_map,List.mem_map]at h;rcases h with⟨k,-,h⟩|⟨k,-,h⟩
        · cases h;rfl
        · cases h;rfl
       rw[hb];rw[hb]at h;exact⟨ZO,h⟩
   obtain⟨h1,h2⟩:=key F.blocks.length (Nr _) h;refine⟨h1,?_⟩;unfold Yah evPhi evIns at h2;rw[List.mem_append,List.mem_map,List.mem_map]at h2;rcases h2 with⟨k,hk,h2⟩|⟨k,hk,h2⟩
   · cases h2
     exact .inl ⟨rfl,_,Ybo (List.mem_range.1 hk),rfl⟩
   · cases h2
     exact .inr ⟨k,List.mem_range.1 hk,rfl,rfl⟩
theorem Ymc{v:Int}{i:Nat}{a:Int}(h:Yas F v i a):((i:Int),a)∈mkOf (evF F) v:=List.mem_map.2 ⟨_,List.mem_filter.2 ⟨YfR.1 h,ZS⟩,rfl⟩
theorem Ycm{v:Int}{i:Nat}{a:Int}(h1:(mkOf (evF F) v).length≤1)(h:Yas F v i a):Yi F v=((i:Int),a):=by
 have hm:=Ymc h;unfold Yi
 match mkOf (evF F) v,h1,hm with
 |[p],_,hm=>
  rw[List.mem_singleton]at hm;rw[hm,Yl4]
 |p::q::r,h1,_=>simp at h1
theorem Ymd{v:Int}(h:∀i a,¬Yas F v i a):Yi F v=(-1,0):=by
 unfold Yi;have:mkOf (evF F) v=[]:=by
  unfold mkOf;rw[List.map_eq_nil_iff,List.filter_eq_nil_iff];intro e he hd;have hd:e.dst=v:=by simpa using hd
  exact h e.blk e.pos (YfR.2 (by rw[← hd];exact he))
 rw[this,Yl3]
theorem Yb6(h:Yr F=true){v:Int}(h0:0≤v)(h1:v<F.vars.length):(mkOf (evF F) v).length≤1:=by
 have:=List.all_eq_true.1 h v.toNat (List.mem_range.2 ZO);unfold onceAt at this;rw[Int.toNat_of_nonneg h0]at this;simp only[Bool.not_eq_true',Bool.or_eq_false_iff,decide_eq_false_iff_not]at this;omega
end
def YdK(x:PInst):Bool:=Yht x.op.toNat
inductive Nd (F:PFunc):Int→Prop
 |inst {b:PBlock} {x:PInst} {v:Int} (hb:b∈F.blocks) (hx:x∈b.insts) (hs:YdK x=true) (hv:v∈x.args):Nd F v
 |term {b:PBlock} (hb:b∈F.blocks) (hk:b.term.kind≠0):Nd F b.term.var
 |phi {b:PBlock} {p:PPhi} {v:Int} (hb:b∈F.blocks) (hp:p∈b.phis) (hd:Nd F p.dst) (hv:v∈p.args):Nd F v
 |arg {b:PBlock} {x:PInst} {v:Int} (hb:b∈F.blocks) (hx:x∈b.insts) (hs:YdK x=false) (hd:Nd F x.dst) (hv:v∈x.args):Nd F v
open Classical in
noncomputable def ndB (F:PFunc) (v:Nat):Bool:=decide (Nd F (v:Int))
noncomputable def ndL (F:PFunc):List Bool:=(List.range F.vars.length).map (ndB F)
def YfS(p:PPhi):Int×List Int:=(p.dst,p.args)
def YdL(l:List PInst):List (Int×List Int):=(l.filter fun x=>!YdK x).map fun x=>(x.dst,x.args)
def Yer(b:PBlock):List (Int×List Int):=b.phis.map YfS++YdL b.insts
def fnIt(l:List PBlock):List (Int×List Int):=l.flatMap Yer
def YfT(t:List (List Int))(e:Int×List Int):List (List Int):=t.set e.1.toNat e.2
def tkL(n:Nat)(l:List (Int×List Int)):List (List Int):=l.foldl YfT (List.replicate n [])
theorem YhF{α:Type}{p:List α→Prop}(h0:p [])(h1:∀l e,p l→p (l++[e]))(l:List α):p l:=by
 rw[← List.reverse_reverse l]
 induction l.reverse with
 |nil=>exact h0
 |cons e l ih=>rw[List.reverse_cons];exact h1 _ _ ih
theorem Yme{l:List (Int×List Int)}:∀{t:List (List Int)},(l.foldl YfT t).length=t.length:=by
 induction l with
 |nil=>intro t;rfl
 |cons e l ih=>intro t;rw[List.foldl_cons,ih,YfT,List.length_set]
theorem YfU{n:Nat}{l:List (Int×List Int)}:(tkL n l).length=n:=by rw[tkL,Yme,List.length_replicate]
theorem YhG{n:Nat}{l:List (Int×List Int)}{e:Int×List Int}:tkL n (l++[e])=(tkL n l).set e.1.toNat e.2:=by rw[tkL,List.foldl_append];rfl
theorem Ymf{n v:Nat}{u:Int}:∀{l:List (Int×List Int)},u∈(tkL n l).getD v []→∃e∈l,e.1.toNat=v∧u∈e.2:=by
 intro l;refine YhF (p:=fun l=>u∈(tkL n l).getD v []→∃e∈l,e.1.toNat=v∧u∈e.2) ?_ (fun l e ih=>?_) l
 · intro h
   have:(tkL n []).getD v []=[]:=by
    unfold tkL;simp only[List.foldl_nil,List.getD,List.getElem?_replicate];split<;>rfl
   rw[this]at h;cases h
 · intro h
   rw[YhG]at h
   by_cases he:e.1.toNat=v
   · subst he
     by_cases hl:e.1.toNat<n
     · have:((tkL n l).set e.1.toNat e.2).getD e.1.toNat []=e.2:=by simp[List.getD,YfU,hl]
       rw[this]at h;exact⟨e,ZS,rfl,h⟩
     · have:((tkL n l).set e.1.toNat e.2).getD e.1.toNat []=[]:=by
        rw[List.getD_eq_getElem?_getD,List.getElem?_eq_none (by rw[List.length_set,YfU];omega)];rfl
       rw[this]at h;cases h
   · have:((tkL n l).set e.1.toNat e.2).getD v []=(tkL n l).getD v []:=by
      rw[List.getD_eq_getElem?_getD,List.getD_eq_getElem?_getD,List.getElem?_set_ne he]
     rw[this]at h;obtain⟨e',h1,h2⟩:=ih h;exact⟨e',List.mem_append_left _ h1,h2⟩
theorem YhH{n:Nat}{e:Int×List Int}(hn:e.1.toNat<n):∀{l:List (Int×List Int)},e∈l→(∀e'∈l,e'.1.toNat=e.1.toNat→e'.2=e.2)→(tkL n l).getD e.1.toNat []=e.2:=by
 intro l;refine YhF (p:=fun l=>e∈l→(∀e'∈l,e'.1.toNat=e.1.toNat→e'.2=e.2)→(tkL n l).getD e.1.toNat []=e.2) (fun h=>by cases h) (fun l e' ih=>?_) l
 · intro hm hu
   rw[YhG]
   by_cases he:e'.1.toNat=e.1.toNat
   · rw[he,List.getD_eq_getElem?_getD,List.getElem?_set_self (by rw[YfU];exact hn),← hu e' ZS he]
     rfl
   · rw[List.getD_eq_getElem?_getD,List.getElem?_set_ne he,← List.getD_eq_getElem?_getD]
     refine ih ?_ fun e'' h=>hu e'' (List.mem_append_left _ h)
     rcases List.mem_append.1 hm with h|h
     · exact h
     · rw[List.mem_singleton]at h
       exact absurd (by rw[h]) he
def YhI(F:PFunc):Prop:=∀e∈fnIt F.blocks,∀e'∈fnIt F.blocks,e'.1.toNat=e.1.toNat→e'.2=e.2
theorem Ymg:∀{l:List PInst},((YdL l).map (·.1)).Sublist (l.map (·.dst)):=by
 intro l;have:(YdL l).map (·.1)=(l.filter fun x=>!YdK x).map (·.dst):=by unfold YdL;rw[List.map_map];rfl
 rw[this];exact List.Sublist.map _ List.filter_sublist
theorem Ymh{F:PFunc}{i:Nat}:((Yer (F.blk i)).map (·.1)).Sublist ((Yah F i).map (·.dst)):=by
 have h1:(Yah F i).map (·.dst)=(F.blk i).phis.map (·.dst)++(F.blk i).insts.map (·.dst):=by
  unfold Yah evPhi evIns;rw[List.map_append,List.map_map,List.map_map];congr 1
  · refine List.ext_getElem ZS fun k h1 h2=>?_
    simp at h1;simp[PBlock.phi,h1]
  · refine List.ext_getElem ZS fun k h1 h2=>?_
    simp at h1;simp[PBlock.inst,h1]
 have h2:(Yer (F.blk i)).map (·.1)=(F.blk i).phis.map (·.dst)++(YdL (F.blk i).insts).map (·.1):=by
  unfold Yer;rw[List.map_append,List.map_map];rfl
 rw[h1,h2];exact List.Sublist.append (List.Sublist.refl _) Ymg
theorem YhJ{F:PFunc}:∀n,n≤F.blocks.length→((fnIt (F.blocks.take n)).map (·.1)).Sublist ((evs F n).map (·.dst))
 |0,_=>by simp[fnIt,evs]
 |n+1,hn=>by
  have hb:F.blocks.take (n+1)=F.blocks.take n++[F.blk n]:=by
   rw[List.take_add_one,PFunc.blk_get ZO];rfl
  rw[hb,fnIt,List.flatMap_append,List.map_append,evs,List.map_append];refine List.Sublist.append (YhJ n ZO) ?_;simpa using Ymh (F:=F) (i:=n)
theorem Yp5{F:PFunc}(ho:Yr F=true)(hr:∀e∈fnIt F.blocks,0≤e.1∧e.1<F.vars.length):YhI F:=by
 intro e he e' he' hd;have hre:=hr e he;have hre':=hr e' he';have hd2:e'.1=e.1:=by omega
 have hs:=YhJ (F:=F) F.blocks.length (Nr _);rw[List.take_length]at hs;have hoa:=List.all_eq_true.1 ho e.1.toNat (List.mem_range.2 ZO);unfold onceAt mkOf at hoa;rw[Bool.not_eq_true',Bool.or_eq_false_iff]at hoa;have h1:=of_decide_eq_false hoa.1;rw[List.length_map,Int.toNat_of_nonneg hre.1]at h1;have h2:=(hs.filter (fun d=>d==e.1)).length_le;rw[List.filter_map,List.filter_map,List.length_map,List.length_map]at h2;have h3:((fnIt F.blocks).filter ((fun d=>d==e.1)∘(·.1))).length≤1:=Nat.le_trans h2 (Nat.le_of_not_lt h1);have m1:e∈(fnIt F.blocks).filter ((fun d=>d==e.1)∘(·.1)):=List.mem_filter.2 ⟨he,ZS⟩;have m2:e'∈(fnIt F.blocks).filter ((fun d=>d==e.1)∘(·.1)):=List.mem_filter.2 ⟨he',by simp[hd2]⟩;generalize (fnIt F.blocks).filter ((fun d=>d==e.1)∘(·.1))=L at *
 match L,h3,m1,m2 with
 |[a],_,m1,m2=>
  rw[List.mem_singleton]at m1 m2;rw[m1,m2]
 |_::_::_,h3,_,_=>simp at h3
theorem Yp6{F:PFunc}{is:List Bool}(hl:is.length=F.vars.length)(hok:YhI F)(hr:∀e∈fnIt F.blocks,0≤e.1∧e.1<F.vars.length)(h1:∀v,is.getD v false=true→Nd F (v:Int))
 (h2:∀b∈F.blocks,∀x∈b.insts,YdK x=true→∀v∈x.args,is.getD v.toNat false=true) (h3:∀b∈F.blocks,b.term.kind≠0→is.getD b.term.var.toNat false=true)
 (h4:∀v,is.getD v false=true→∀u∈(tkL F.vars.length (fnIt F.blocks)).getD v [],is.getD u.toNat false=true):is=ndL F:=by
 have key:∀v,Nd F v→is.getD v.toNat false=true:=by
  intro v h
  induction h with
  |inst hb hx hs hv=>exact h2 _ hb _ hx hs _ hv
  |term hb hk=>exact h3 _ hb hk
  |@phi b p v hb hp hd hv ih=>
   have hm:YfS p∈fnIt F.blocks:=List.mem_flatMap.2 ⟨b,hb,List.mem_append_left _ (List.mem_map.2 ⟨p,hp,rfl⟩)⟩;refine h4 _ ih v ?_;have:=YhH (n:=F.vars.length) (e:=YfS p) (by have:=hr _ hm;omega) hm (fun e' h' hd=>hok _ hm e' h' hd);have h5:(tkL F.vars.length (fnIt F.blocks)).getD p.dst.toNat []=p.args:=this;rw[h5];exact hv
  |@arg b x v hb hx hs hd hv ih=>
   have hm:(x.dst,x.args)∈fnIt F.blocks:=List.mem_flatMap.2 ⟨b,hb,List.mem_append_right _ (List.mem_map.2 ⟨x,List.mem_filter.2 ⟨hx,by simp[hs]⟩,rfl⟩)⟩;refine h4 _ ih v ?_;have:=YhH (n:=F.vars.length) (e:=(x.dst,x.args)) (by have:=hr _ hm;omega) hm (fun e' h' hd=>hok _ hm e' h' hd);have h5:(tkL F.vars.length (fnIt F.blocks)).getD x.dst.toNat []=x.args:=this;rw[h5];exact hv
 refine List.ext_getElem (by rw[hl];simp[ndL]) fun i hi1 hi2=>?_
 have hgi:is[i]=is.getD i false:=by simp[List.getD,hi1]
 have hri:(ndL F)[i]=ndB F i:=by simp[ndL]
 rw[hgi,hri,Bool.eq_iff_iff];have hnb:ndB F i=true↔Nd F (i:Int):=by unfold ndB;simp
 rw[hnb];exact⟨h1 i,fun h=>by have:=key _ h;simpa using this⟩
theorem Yp7{F:PFunc}(hr:∀e∈fnIt F.blocks,0≤e.1∧e.1<F.vars.length){v:Nat}{u:Int}(hv:Nd F (v:Int))(hu:u∈(tkL F.vars.length (fnIt F.blocks)).getD v []):Nd F u:=by
 obtain⟨e,he,h1,h2⟩:=Ymf hu;have h3:=hr e he;have h4:e.1=(v:Int):=by omega
 obtain⟨b,hb,hm⟩:=List.mem_flatMap.1 he;rcases List.mem_append.1 hm with hm|hm
 · obtain⟨p,hp,rfl⟩:=List.mem_map.1 hm
   exact .phi hb hp (by have h5:p.dst=(v:Int):=h4;rw[h5];exact hv) h2
 · obtain⟨x,hx,rfl⟩:=List.mem_map.1 hm
   obtain⟨hx,hs⟩:=List.mem_filter.1 hx;exact .arg hb hx (by simpa using hs) (by have h5:x.dst=(v:Int):=h4;rw[h5];exact hv) h2
def thB(F:PFunc)(i:Nat):Bool:=(YW F.blocks.length (postO F).reverse).getD i false
def YT(F:PFunc):Nat→Nat
 |0=>0
 |i+1=>if thB F i=true then YT F i+1 else YT F i
def Yb7(F:PFunc)(i:Nat)(a:Int):Bool:=leads (F.blk a.toNat).term (i:Int)&&thB F a.toNat
def prA(F:PFunc)(i:Nat)(x:PPhi):Nat→List Int
 |0=>[]
 |k+1=>if Yb7 F i (ith x.froms k)=true then prA F i x k++[ith x.args k] else prA F i x k
def prN(F:PFunc)(i:Nat)(x:PPhi):Nat→List Int
 |0=>[]
 |k+1=>if Yb7 F i (ith x.froms k)=true then prN F i x k++[(YT F (ith x.froms k).toNat:Int)] else prN F i x k
def YcF(F:PFunc)(i:Nat)(x:PPhi):PPhi:={ dst:=x.dst,args:=prA F i x x.froms.length,froms:=prN F i x x.froms.length }
def YaS(F:PFunc)(t:PTerm):PTerm:=
 if t.kind=0 then { t with t0:=(YT F t.t0.toNat:Int) } else if t.kind=1 then { t with t0:=(YT F t.t0.toNat:Int),t1:=(YT F t.t1.toNat:Int) } else t
def YcG(F:PFunc)(i:Nat):PBlock:={ name:=(F.blk i).name,phis:=(F.blk i).phis.map (YcF F i),insts:=(F.blk i).insts,term:=YaS F (F.blk i).term }
def Yat(F:PFunc):Nat→List PBlock
 |0=>[]
 |i+1=>if thB F i=true then Yat F i++[YcG F i] else Yat F i
def prF(F:PFunc):PFunc:={ vars:=F.vars,params:=F.params,blocks:=Yat F F.blocks.length }
section
variable {F:PFunc} {i k:Nat} {x:PPhi}
theorem YhV(h:thB F i=true):YT F (i+1)=YT F i+1:=by rw[YT,if_pos h]
theorem Yqf(h:thB F i=false):YT F (i+1)=YT F i:=by rw[YT,if_neg (by simp[h])]
theorem YhW:∀i,YT F i≤i
 |0=>Nr _
 |i+1=>by
  have:=YhW i;rw[YT];split<;>omega
theorem Yf3{i:Nat}:∀{j:Nat},i≤j→YT F i≤YT F j
 |0,h=>by rw[show i=0 from ZO];exact Nr _
 |j+1,h=>by
  by_cases e:i=j+1
  · rw[e];exact Nr _
  · have:=Yf3 (i:=i) (j:=j) ZO
    rw[YT];split<;>omega
theorem Yqg{j:Nat}(h:i<j)(ht:thB F i=true):YT F i<YT F j:=by
 have:=Yf3 (F:=F) (show i+1≤j from ZO);rw[YhV ht]at this;omega
theorem Yqh(h:Yb7 F i (ith x.froms k)=true):prA F i x (k+1)=prA F i x k++[ith x.args k]:=by rw[prA,if_pos h]
theorem Yqi(h:Yb7 F i (ith x.froms k)=false):prA F i x (k+1)=prA F i x k:=by rw[prA,if_neg (by simp[h])]
theorem Yqj(h:Yb7 F i (ith x.froms k)=true):prN F i x (k+1)=prN F i x k++[(YT F (ith x.froms k).toNat:Int)]:=by rw[prN,if_pos h]
theorem Yqk(h:Yb7 F i (ith x.froms k)=false):prN F i x (k+1)=prN F i x k:=by rw[prN,if_neg (by simp[h])]
theorem YhX:∀k,(prA F i x k).length=(prN F i x k).length
 |0=>rfl
 |k+1=>by
  have:=YhX k;rw[prA,prN];split
  · simp[this]
  · exact this
theorem Yf4:∀k,(prA F i x k).length≤k
 |0=>Nr _
 |k+1=>by
  have:=Yf4 k;rw[prA];split
  · exact ZX
  · exact ZO
theorem YmL(k:Nat):(prN F i x k).length≤k:=by rw[← YhX];exact Yf4 k
theorem Yf5{v:Int}:∀{k:Nat},v∈prA F i x k→∃j,j<k∧v=ith x.args j
 |0,h=>by simp[prA]at h
 |k+1,h=>by
  rw[prA]at h;split at h
  · rcases List.mem_append.1 h with h|h
    · obtain⟨j,h1,h2⟩:=Yf5 h
      exact⟨j,ZO,h2⟩
    · exact⟨k,ZO,by simpa using h⟩
  · obtain⟨j,h1,h2⟩:=Yf5 h
    exact⟨j,ZO,h2⟩
theorem YmM(h:thB F i=true):Yat F (i+1)=Yat F i++[YcG F i]:=by rw[Yat,if_pos h]
theorem YmN(h:thB F i=false):Yat F (i+1)=Yat F i:=by rw[Yat,if_neg (by simp[h])]
theorem YhY:∀i,(Yat F i).length=YT F i
 |0=>rfl
 |i+1=>by
  have:=YhY i;rw[Yat,YT];split
  · simp[this]
  · exact this
theorem Yew{b:PBlock}:∀{i:Nat},b∈Yat F i→∃j,j<i∧thB F j=true∧b=YcG F j
 |0,h=>by simp[Yat]at h
 |i+1,h=>by
  rw[Yat]at h;split at h
  · rename_i ht
    rcases List.mem_append.1 h with h|h
    · obtain⟨j,h1,h2⟩:=Yew h
      exact⟨j,ZO,h2⟩
    · exact⟨i,ZO,ht,by simpa using h⟩
  · obtain⟨j,h1,h2⟩:=Yew h
    exact⟨j,ZO,h2⟩
theorem YhZ(h:thB F i=true):i<F.blocks.length:=by
 have:=Yfs h
 rwa [YcD]at this
theorem Yf6(hi:i<F.blocks.length):thB F i=true↔i∈postO F:=by rw[thB,Yf0 hi,List.mem_reverse]
theorem YmO(h:Yd F=true):thB F 0=true:=by
 have n1:=(Y1 (Yx h)).1;exact(Yf6 ZO).2 (List.mem_of_getLast? (Ycn h).last)
theorem YmP(h:Yd F=true)(ht:thB F i=true){c:Nat}(hl:leads (F.blk i).term (c:Int)=true):thB F c=true:=by
 have hi:=YhZ ht;have hc:=(Ybg h hi).2 hl;exact(Yf6 (Yc1 h hi c hc)).2 ((Ycn h).clo i ((Yf6 hi).1 ht) c hc)
theorem Yql(h:Yd F=true)(ht:thB F i=true){c:Int}(hc:c∈endsOf (F.blk i).term):0≤c∧c<F.blocks.length∧thB F c.toNat=true:=by
 have hi:=YhZ ht;have hb:=YQ (Yeh h hi c hc);have hm:c.toNat∈EN F i:=List.mem_map.2 ⟨c,hc,rfl⟩;exact⟨hb.1,hb.2,YmP h ht ((Ybg h hi).1 hm)⟩
theorem Yf7(h:Yd F=true){c:Int}(h0:0≤c)(h1:(c !=0)=true):((YT F c.toNat:Int) !=0)=true:=by
 rw[bne_iff_ne]at *;have h2:YT F 1=1:=by rw[YhV (YmO h)];rfl
 have:=Yf3 (F:=F) (show 1≤c.toNat from ZO);omega
theorem YmQ(v:Int):Yh (prF F) v=Yh F v:=rfl
theorem Yh0:∀(l m:List Int),YV (prF F) l m=YV F l m
 |[],m=>by cases m<;>rfl
 |a::l,[]=>rfl
 |a::l,t::m=>by rw[YV,YV,Yh0 l m,YmQ]
theorem YmR(y:PInst):YE (prF F) y=YE F y:=by
 unfold YE;rw[Yh0];rfl
theorem Yh1(h:Yd F=true)(hi:i<F.blocks.length):YK F (F.blk i)=true:=by
 unfold Yd at h;rw[Bool.and_eq_true,List.all_eq_true]at h;exact h.2 _ (Y4 hi)
theorem YmS(h:Yd F=true)(hi:i<F.blocks.length):Yay (prF F) (YaS F (F.blk i).term)=true:=by
 have hb:=Yh1 h hi;have hs:=(Ybd (Yx h) hi).2.2;unfold YK at hb;rw[Bool.and_eq_true]at hb;have ht:=hb.2;clear hb;generalize (F.blk i).term=t at *;unfold Yay at ht ⊢;unfold YJ at hs;unfold YaS
 by_cases h0:t.kind=0
 · rw[if_pos h0]at ht hs
   rw[if_pos h0,if_pos h0];simp only[Bool.and_eq_true]at hs;exact Yf7 h (YQ hs.1.1).1 ht
 · rw[if_neg h0]at ht hs
   by_cases h1:t.kind=1
   · rw[if_pos h1]at ht hs
     rw[if_neg h0,if_pos h1,if_neg h0,if_pos h1];simp only[Bool.and_eq_true]at hs ht ⊢;exact⟨⟨ht.1.1,Yf7 h (YQ hs.1.2).1 ht.1.2⟩,Yf7 h (YQ hs.2).1 ht.2⟩
   · rw[if_neg h1]at ht
     rw[if_neg h0,if_neg h1,if_neg h0,if_neg h1];exact ht
theorem YmT(h:Yab F x=true)(hl:x.args.length=x.froms.length):Yab (prF F) (YcF F i x)=true:=by
 unfold Yab at *;rw[List.all_eq_true]at *;intro v hv;obtain⟨j,hj,rfl⟩:=Yf5 hv;exact h _ (List.mem_of_getElem? (Ybz ZO))
theorem YmU(h:Yd F=true)(hi:i<F.blocks.length):YK (prF F) (YcG F i)=true:=by
 have hb:=Yh1 h hi;have hs:=(Ybd (Yx h) hi).1;have hm:=YmS h hi;unfold YK at hb ⊢;rw[Bool.and_eq_true,Bool.and_eq_true,List.all_eq_true,List.all_eq_true]at hb;rw[Bool.and_eq_true,Bool.and_eq_true,List.all_eq_true,List.all_eq_true];refine⟨⟨fun y hy=>?_,fun y hy=>?_⟩,hm⟩
 · obtain⟨x,hx,rfl⟩:=List.mem_map.1 hy
   refine YmT (hb.1.1 x hx) ?_;have:=hs x hx;unfold YI at this;simp only[Bool.and_eq_true,decide_eq_true_eq]at this;exact this.1.1.1.2
 · rw[YmR]
   exact hb.1.2 y hy
theorem Yqm(h:Yd F=true):Yd (prF F)=Yj (prF F):=by
 have:(prF F).blocks.all (YK (prF F))=true:=by
  rw[List.all_eq_true];intro b hb;obtain⟨j,hj,-,rfl⟩:=Yew hb;exact YmU h hj
 rw[Yd,this,Bool.and_true]
theorem Yqn(h:Bnd F):Bnd (prF F):=by
 have hm:∀b∈(prF F).blocks,∃j,j<F.blocks.length∧b=YcG F j:=fun b hb=>by
  obtain⟨j,hj,-,e⟩:=Yew hb;exact⟨j,hj,e⟩
 refine⟨h.vars,h.params,?_,?_,?_,?_⟩
 · have h1:=YhW (F:=F) F.blocks.length
   have h2:=h.blocks;rw[prF,YhY];omega
 · intro b hb
   obtain⟨j,hj,rfl⟩:=hm b hb;simpa[YcG]using h.parts _ (Y4 hj)
 · intro b hb p hp
   obtain⟨j,hj,rfl⟩:=hm b hb;obtain⟨x,hx,rfl⟩:=List.mem_map.1 hp;have h1:=(h.pairs _ (Y4 hj) x hx).2;have h2:=Yf4 (F:=F) (i:=j) (x:=x) x.froms.length;have h3:=YmL (F:=F) (i:=j) (x:=x) x.froms.length;exact⟨Nat.le_trans h2 h1,Nat.le_trans h3 h1⟩
 · intro b hb y hy
   obtain⟨j,hj,rfl⟩:=hm b hb;exact h.args _ (Y4 hj) y hy
theorem Bnd.small{G:PFunc}(h:Bnd G):YU G:=by
 refine⟨by have:=h.vars;omega,by have:=h.blocks;omega,fun i hi=>?_⟩;have:=h.parts _ (Y4 hi);exact⟨ZO,ZO⟩
end
def Two(w:World)(B:Nat)(v1:Value)(xs:List Int)(v2:Value)(ys:List Int):Prop:=
 w.ownsRow B 3 1 v1 xs.length (xs.map (Value.int .i64))∧w.ownsRow B 3 1 v2 ys.length (ys.map (Value.int .i64))∧∀k,v1.ownBlock=some k→v2.ownBlock≠some k
section
variable {w w':World} {B:Nat} {v1 v2:Value} {xs ys:List Int} {x:Int} {N:Nat}
theorem Two.swap(h:Two w B v1 xs v2 ys):Two w B v2 ys v1 xs:=⟨h.2.1,h.1,fun k e2 e1=>h.2.2 k e1 e2⟩
theorem Two.alloc(h:Two w B v1 xs v2 ys)(o:Obj):Two (w.alloc o) B v1 xs v2 ys:=⟨h.1.alloc o,h.2.1.alloc o,h.2.2⟩
theorem Two.drew(h:Two w B v1 xs v2 ys):Two w.drew B v1 xs v2 ys:=h
theorem Two.set(h:Two w B v1 xs v2 ys){a:Addr}(ha:a.block<B)(u:Value):Two (w.setCell a u) B v1 xs v2 ys:=
 ⟨ownsRow_setCell_other h.1 (fun e=>by have:=(YG h.1 e).1;omega) _,ownsRow_setCell_other h.2.1 (fun e=>by have:=(YG h.2.1 e).1;omega) _,h.2.2⟩
theorem Two.nil:Two w B (.slice none 0 0) [] (.slice none 0 0) []:=⟨World.ownsRow_nil _ _ _ _,World.ownsRow_nil _ _ _ _,fun k e=>by cases e⟩
theorem Two.app(h:Two w B v1 xs v2 ys)(hc:w.cell? ⟨N,0,none⟩=some (.int .i64 x))(hn:xs.length<1048576)(hB:B≤w.heap.size) :
 ∃v' w',(Builtin.append_ #[23,23] 23 #[v1,.slice (some ⟨N,0,none⟩) 1 1]).run Tryz.prog w=.ok v' w'∧Two w' B v' (xs++[x]) v2 ys∧w.grownBy w' v1.ownBlock∧Below B w w':=by
 obtain⟨i,hi,hz,hsz,hb⟩:=info_parts Tryz.info3;have hbytes:(xs.length+1)*8≤140737488355328:=by omega
 obtain⟨v',w',hr,h2,h3,-,h4⟩:=run_append_own_at (P:=Tryz.prog) w B 23 23 3 i _ 1 8 Tryz.underlying23 hi hz hsz hb rfl ZD v1 xs.length _ h.1 ⟨N,0,none⟩ 1 1 [.int .i64 x] rfl
  (fun j u hj=>by
    match j,hj with
    |0,hj=>simp at hj;subst hj;exact hc) (by simp[Value.oneCell']) (by unfold maxLen;omega) hbytes hB
 refine⟨v',w',hr,⟨by simpa using h2,Yel h.2.1 (fun k hk=>h3.block k (YG h.2.1 hk).2 (fun e=>h.2.2 k e.symm hk)),fun k hk hk2=>?_⟩,h3,⟨h3.os,h3.tape,h3.output,h3.size,fun k hk=>h3.block k ZO (fun e=>by have:=(YG h.1 e.symm).1;omega)⟩⟩;rcases h4 with e|e
 · rw[e]at hk
   exact h.2.2 k hk hk2
 · rw[e]at hk
   cases hk;have:=(YG h.2.1 hk2).2;omega
theorem Yqo{o:Oper}{a:Act}{K:Act→World→Prop}{Q:Exit→Act→World→Prop}(s z:Operand)(ho:o.op=.call { callee:=.builtin .append,args:=#[s,z],argTypes:=#[23,23] })(hty:o.type=23)
 (hs:a.eval s=v1) (hz:a.eval z=.slice (some ⟨N,0,none⟩) 1 1) (h:Two w B v1 xs v2 ys) (hc:w.cell? ⟨N,0,none⟩=some (.int .i64 x)) (hn:xs.length<1048576) (hB:B≤w.heap.size)
 (hK:∀A c w',Two w' B (.slice A (xs.length+1) c) (xs++[x]) v2 ys→w.grownBy w' v1.ownBlock→Below B w w'→K (a.put o.dst (.slice A (xs.length+1) c)) w'):o.wp Tryz.prog a w K Q:=by
 obtain⟨v',w',hr,h1,h2,h3⟩:=h.app hc hn hB;obtain⟨A,c,hv⟩:=Yp h1.1;rw[List.length_append]at hv;subst hv;exact Yc5 s z 23 ho hs hz (by rw[hty];exact hr) (hK A c w' h1 h2 h3)
theorem Yqp{r:Option Nat}{u:Value}(hg:w.grownBy w' r)(h:w.cell? ⟨N,0,none⟩=some u)(hr:r≠some N):w'.cell? ⟨N,0,none⟩=some u:=hg.cell h (fun e=>hr e.symm)
end
theorem BoxAt.put21{w:World}{g:Nat}{t:TypeId}{x a b a' b':Value}(h:BoxAt w g #[x,a,b] t):BoxAt ((w.setCell ⟨g,2,none⟩ b').setCell ⟨g,1,none⟩ a') g #[x,a',b'] t:=by
 simpa using(h.set 2 b').set 1 a'
theorem Yqq{W w:World}{A:Option Addr}{c:Nat}{xs:List Int}(h:Rd W.heap.size A xs 1 (Yk W))(hW:Below W.heap.size W w)(hn:xs.length≤1048576)(z:Int) :
 Calls Tryz.prog 125 #[.slice A xs.length c,.int .i64 z] w fun e w'=>e=.returned (.bool (xs.contains z))∧w'=w:=by
 cases xs with
 |nil=>
  refine(Tryz.slices_Contains_int_empty A c z w).mono ?_;rintro e w' ⟨rfl,rfl⟩;exact⟨ZS,rfl⟩
 |cons y ys=>
  obtain⟨b,off,rfl,hb,-⟩:=h.int hW (i:=0) ZS;refine(Tryz.slices_Contains_int b off (y::ys).length c (y::ys) z w ZO ZO (fun j hj=>?_)).mono ?_
  · obtain⟨b2,o2,e,-,hc⟩:=h.int hW (i:=j) hj
    cases e;rw[hc,ith]
  · rintro e w' ⟨rfl,rfl⟩
    rw[List.take_length];exact⟨rfl,rfl⟩
theorem Yqr{w w':World}{A:Option Addr}{xss:List (List Int)}(h:Rd w.heap.size A xss 1 (RowC w w.heap.size))(hb:Below w.heap.size w w'):Rd w'.heap.size A xss 1 (RowC w' w'.heap.size):=
 h.keep hb.size fun _ _ _ hl hx=>by
  obtain⟨v,h1,h2⟩:=hx;exact⟨v,by rw[(Kept.of_below hb) _ _ hl];exact h1,h2.keep (Kept.of_below hb) hb.size⟩
theorem Tryz.info50:(Tryz.prog.info? 50).map (fun i=>(i.zero,i.size,i.bytes))=some (some (.agg #[.string ByteArray.empty,.int .i64 0]),2,24):=by kernel_rfl
def cellsV(x:YaE):List Value:=[.string x.name,.int .i64 x.ty]
theorem Yh2{xs:List YaE}:(xs.map cellsV).flatten.length=xs.length*2:=by
 rw[List.length_flatten,List.map_map]
 induction xs with
 |nil=>rfl
 |cons x xs ih=>simp only[List.map_cons,List.sum_cons,List.length_cons,ih,Function.comp];simp[cellsV];omega
set_option maxHeartbeats 2000000 in
theorem Yex{B:Nat}{w:World}{A:Option Addr}{c:Nat}{xs:List YaE}(hr:Rd B A xs 2 (Ycd w))(hl:xs.length≤1048576) :
 Calls Tryz.prog 78 #[.slice A xs.length c] w fun e w'=>∃v',e=.returned v'∧RRow w' w.heap.size 50 2 Ybr v' xs∧Below w.heap.size w w':=by
 have q22:∀(w:World) (a:Option Addr) (n c n' c':Nat),(binOp .eql 22 (.slice a n c) (.slice none n' c')).run Tryz.prog w=.ok (.bool a.isNone) w:=fun w a n c n' c'=>Lib.run_eql_slice_nil w _ _ a n c n' c' Tryz.underlying22
 cases A with
 |none=>
  have hx:xs=[]:=by
   cases xs with
   |nil=>rfl
   |cons x xs=>
    obtain⟨b,off,h,-⟩:=hr 0 x rfl;cases h
  subst hx;clear hr;go_enter Tryz.func78,Tryz.ntmps78;go_wp2;go_ret;exact⟨_,rfl,RRow.nil,Br _ _⟩
 |some a=>
  obtain⟨i0,hi,hz0,hz1,hz2⟩:=info_parts Tryz.info50;have hc:∀j u,(xs.map cellsV).flatten[j]?=some u→w.cell? (a.add j)=some u:=by
   intro j u hj;have hjl:=(List.getElem?_eq_some_iff.1 hj).1;rw[Yh2]at hjl;obtain⟨i,k,hk,rfl⟩:∃i k,k<2∧j=i*2+k:=⟨j / 2,j%2,Nat.mod_lt _ ZD,ZO⟩;have hix:xs[i]?=some (xs[i]'(ZO)):=by simp
   obtain⟨b,off,ha,hb,hn,h0,h1⟩:=hr i _ hix;cases ha;rw[Yc7 (sz:=2) (i:=i) (j:=k) (cs:=cellsV (xs[i]'(ZO))) (fun c hc=>by simp at hc;obtain⟨x,-,rfl⟩:=hc;rfl) (by rw[List.getElem?_map,hix];rfl) hk]at hj;rw[Addr.add_lit];rcases(show k=0∨k=1 from ZO)with rfl|rfl
   · rw[Nat.add_zero,h0];simpa[cellsV]using hj
   · rw[show off+(i*2+1)=off+i*2+1 from ZO,h1];simpa[cellsV]using hj
  have h1:∀u∈(xs.map cellsV).flatten,u.oneCell'=true:=by
   intro u hu;obtain⟨c,hc,hu⟩:=List.mem_flatten.1 hu;obtain⟨x,-,rfl⟩:=List.mem_map.1 hc;simp[cellsV]at hu;rcases hu with rfl|rfl<;>rfl
  have hlen:=Yh2 (xs:=xs);have hbv:∀(i:Nat) cs x,(xs.map cellsV)[i]?=some cs→xs[i]?=some x→cs.length=2∧Ybr cs x:=by
   intro i cs x h1 h2;obtain⟨b,off,ha,hb,hn,-⟩:=hr i x h2;simp[h2]at h1;subst h1;exact⟨rfl,hn,rfl⟩
  replace hbv:=Lh hbv;have HC:=Lh hc;clear hr hc;have HLC:=Lh (show(xs.map cellsV).length=xs.length from ZS);generalize (xs.map cellsV)=ch at *;generalize hcells:ch.flatten=cells at *;have HCL:=Lh hcells;clear hcells;go_enter Tryz.func78,Tryz.ntmps78;go_wp2_with(at_builtin;refine wpList_append_own _ rfl _ _ 22 rfl w.heap.size 50 i0 _ 2 24 Tryz.underlying22 hi hz0 hz1 hz2 rfl ZD _ _ _ rfl (World.ownsRow_made w #[] 0 (Nr _) (Nz _) ZS) a xs.length c cells rfl hlen ?qc2 h1 (by unfold maxLen;omega) ZO ZS ?_)
  case qc2=>
   intro j u hj;exact Lib.cell?_alloc_some _ (HC.out j u hj)
  intro v' w1 hown hgrow hnil;go_wp2;go_ret;refine⟨v',rfl,⟨ch,HLC.out,hbv.out,?_⟩,?_⟩
  · rw[HCL.out];simpa using hown
  · exact((Br _ w).alloc (Nr _) _).grown hgrow ZS (by intro k hk;simp[Value.ownBlock]at hk;omega)
theorem Rd.moveV{W w:World}{A:Option Addr}{xs:List YaE}(h:Rd W.heap.size A xs 2 (Ycd W))(hw:Below W.heap.size W w):Rd w.heap.size A xs 2 (Ycd w):=by
 intro i x hx;obtain⟨b,off,ha,hb,hn,h0,h1⟩:=h i x hx;exact⟨b,off,ha,Nt hb hw.size,hn,(hw.cell (p:=⟨b,off+i*2,none⟩) hb).trans h0,(hw.cell (p:=⟨b,off+i*2+1,none⟩) hb).trans h1⟩
theorem Rd.moveB{W w:World}{A:Option Addr}{xs:List Int}(h:Rd W.heap.size A xs 1 (Yk W))(hw:Below W.heap.size W w):Rd W.heap.size A xs 1 (Yk w):=by
 intro i x hx;obtain⟨b,off,ha,hb,hr⟩:=h i x hx;refine⟨b,off,ha,hb,?_⟩;unfold Yk at *;rw[hw.cell (p:=⟨b,off+i*1,none⟩) hb];exact hr
def NT(ts:List TypeId)(w:World)(b:Nat):Prop:=∃cs t,w.heap[b]?=some (.cells cs t (0,0))∧t∈ts
theorem Ydb{w:World}{base e sz n:Nat}{v:Value}{xs:List Value}{ts:List TypeId}(h:w.ownsRow base e sz v n xs)(he:e∈ts):∀b,base≤b→v.ownBlock=some b→NT ts w b:=by
 intro b _ hb;rcases h.2 with⟨rfl,-⟩|⟨g,cap,cur,rfl,-,hh,-⟩
 · cases hb
 · cases hb
   exact⟨cur,e,hh,he⟩
structure KT (ts:List TypeId) (w w':World):Prop where
 size:w.heap.size≤w'.heap.size
 blk:∀b,NT ts w b→w'.heap[b]?=w.heap[b]?
section
variable {ts ts':List TypeId} {a w w':World}
theorem NT.lt{b:Nat}(h:NT ts w b):b<w.heap.size:=by
 obtain⟨cs,t,h,-⟩:=h;exact(Array.getElem?_eq_some_iff.1 h).1
theorem NT.mono{b:Nat}(h:NT ts w b)(hs:∀t∈ts,t∈ts'):NT ts' w b:=by
 obtain⟨cs,t,h,ht⟩:=h;exact⟨cs,t,h,hs t ht⟩
theorem NT.same{b:Nat}(h:NT ts w b)(hs:w'.heap[b]?=w.heap[b]?):NT ts w' b:=by
 obtain⟨cs,t,h,ht⟩:=h;exact⟨cs,t,hs.trans h,ht⟩
theorem KT.refl:KT ts w w:=⟨Nr _,fun _ _=>rfl⟩
theorem KT.trans(h:KT ts a w)(h':KT ts w w'):KT ts a w':=⟨Nat.le_trans h.size h'.size,fun b hb=>(h'.blk b (hb.same (h.blk b hb))).trans (h.blk b hb)⟩
theorem KT.of_below(h:Below w.heap.size w w'):KT ts w w':=⟨h.size,fun b hb=>h.block b hb.lt⟩
theorem KT.alloc(h:KT ts a w)(o:Obj):KT ts a (w.alloc o):=h.trans (KT.of_below ((Br _ _).alloc (Nr _) _))
theorem KT.drew(h:KT ts a w):KT ts a w.drew:=⟨h.size,h.blk⟩
theorem KT.setCell(h:KT ts a w){g j:Nat}{cs:Array Value}{t:TypeId}(hg:BoxAt w g cs t)(ht:t∉ts)(v:Value):KT ts a (w.setCell ⟨g,j,none⟩ v):=
 h.trans ⟨ZS,fun b hb=>Yci (by
  rintro rfl;obtain⟨cs',t',h1,h2⟩:=hb;unfold BoxAt at hg;rw[hg]at h1;cases h1
  exact ht h2)⟩
theorem KT.grown(h:KT ts a w){base e sz n:Nat}{v:Value}{xs:List Value}(ho:w.ownsRow base e sz v n xs)(he:e∉ts)(hg:w.grownBy w' v.ownBlock):KT ts a w':=
 h.trans ⟨hg.size,fun b hb=>hg.block b hb.lt (fun e2=>by
  obtain⟨cs',t',h1,h2⟩:=hb;rcases ho.2 with⟨rfl,-⟩|⟨g,cap,cur,rfl,-,hh,-⟩
  · cases e2
  · cases e2
    rw[hh]at h1;cases h1
    exact he h2)⟩
theorem KT.tr(h:KT ts w w')(hs:∀t∈ts',t∈ts):Tr (NT ts' w) (NT ts' w') w w':=⟨h.size,fun b hb _=>⟨h.blk b (hb.mono hs),hb.same (h.blk b (hb.mono hs))⟩⟩
theorem RRow.kt{α:Type}{base sz:Nat}{e:TypeId}{C C':List Value→α→Prop}{v:Value}{xs:List α}(h:RRow w base e sz C v xs)(hk:KT ts w w')(he:e∈ts)(hC:∀cs x,C cs x→C' cs x):RRow w' base e sz C' v xs:=by
 obtain⟨cells,ho⟩:=h.own;exact h.turn (fun k hv=>hk.blk k (Ydb ho he k (YG ho hv).1 hv)) hC
end
theorem YaT{ts:List TypeId}{w w':World}{base e sz n:Nat}{v:Value}{xs:List Value}(h:w.ownsRow base e sz v n xs)(hk:KT ts w w')(he:e∈ts):w'.ownsRow base e sz v n xs:=
 Yel h fun k hv=>hk.blk k (Ydb h he k (YG h hv).1 hv)
theorem YmV{b:PBlock}{k:Nat}(h:k<b.phis.length):b.phis.take (k+1)=b.phis.take k++[b.phi k]:=by
 rw[List.take_add_one,PBlock.phi_get h];rfl
theorem YmW{b:PBlock}{k:Nat}(h:k<b.insts.length):b.insts.take (k+1)=b.insts.take k++[b.inst k]:=by
 rw[List.take_add_one,PBlock.inst_get h];rfl
theorem Tryz.info76:(Tryz.prog.info? 76).map (fun i=>(i.zero,i.size,i.bytes))=some (some (.agg #[.int .i64 0,.slice none 0 0,.slice none 0 0]),3,56):=by kernel_rfl
theorem Tryz.info44:(Tryz.prog.info? 44).map (fun i=>(i.zero,i.size,i.bytes))=some (some (.agg #[.int .i64 0,.int .i64 0,.slice none 0 0,.int .i64 0]),4,48):=by kernel_rfl
theorem Tryz.info41:(Tryz.prog.info? 41).map (fun i=>(i.zero,i.size,i.bytes))=some (some (.agg #[.string ByteArray.empty,.slice none 0 0,.slice none 0 0,.int .i64 0,.int .i64 0,.int .i64 0,.int .i64 0]),7,96):=by kernel_rfl
def CPh(w:World):List Value→PPhi→Prop:=CPhi w (NT [3] w)
def CIn(w:World):List Value→PInst→Prop:=CInst w (NT [3] w)
def CBO(w:World)(base:Nat)(cs:List Value)(x:PBlock×Value×Value):Prop:=
 cs=[.string x.1.name,x.2.1,x.2.2,.int .i64 x.1.term.kind,.int .i64 x.1.term.var,.int .i64 x.1.term.t0,.int .i64 x.1.term.t1]∧x.1.name.size≤maxLen∧
  RRow w base 76 3 (CPh w) x.2.1 x.1.phis∧RRow w base 44 4 (CIn w) x.2.2 x.1.insts
theorem CPh.kt{ts:List TypeId}{w w':World}(hk:KT ts w w')(hi:3∈ts){cs:List Value}{x:PPhi}(h:CPh w cs x):CPh w' cs x:=CPhi.turn h (hk.tr (by simpa using hi))
theorem CIn.kt{ts:List TypeId}{w w':World}(hk:KT ts w w')(hi:3∈ts){cs:List Value}{x:PInst}(h:CIn w cs x):CIn w' cs x:=CInst.turn h (hk.tr (by simpa using hi))
theorem CBO.kt{ts:List TypeId}{w w':World}{base:Nat}(hk:KT ts w w')(hi:3∈ts)(hp:76∈ts)(hn:44∈ts){cs:List Value}{x:PBlock×Value×Value}(h:CBO w base cs x):CBO w' base cs x:=
 ⟨h.1,h.2.1,h.2.2.1.kt hk hp fun _ _ h=>h.kt hk hi,h.2.2.2.kt hk hn fun _ _ h=>h.kt hk hi⟩
theorem CBO.rebase{w:World}{B base:Nat}{cs:List Value}{x:PBlock×Value×Value}(h:CBO w base cs x)(hB:B≤base):CBO w B cs x:=⟨h.1,h.2.1,h.2.2.1.rebase hB,h.2.2.2.rebase hB⟩
def YdR(x y:PBlock×Value×Value):Prop:=(∀k l,x.2.1.ownBlock=some k→y.2.1.ownBlock=some l→k<l)∧∀k l,x.2.2.ownBlock=some k→y.2.2.ownBlock=some l→k<l
def Yf8(F:PFunc)(n:Nat)(A3:Option Addr)(c3:Nat)(A4:Option Addr)(c4:Nat):Array Value:=#[.string (F.blk n).name,.slice A3 (F.blk n).phis.length c3,.slice A4 (F.blk n).insts.length c4,.int .i64 (F.blk n).term.kind,.int .i64 (F.blk n).term.var,.int .i64 (F.blk n).term.t0,.int .i64 (F.blk n).term.t1]
theorem RRow.all_{α:Type}{w:World}{base sz:Nat}{e:TypeId}{C:List Value→α→Prop}{v:Value}{xs:List α}(h:RRow w base e sz C v xs):∀x∈xs,∃cs,C cs x:=by
 obtain⟨ch,hl,hc,-⟩:=h;intro x hx;obtain⟨i,hi,rfl⟩:=List.getElem_of_mem hx;exact⟨ch[i]'(ZO),(hc i _ _ (by simp[hl,hi]) (by simp[hi])).2⟩
def Apart(v v':Value):Prop:=∀k,v.ownBlock=some k→v'.ownBlock≠some k
theorem Apart.symm{v v':Value}(h:Apart v v'):Apart v' v:=fun k h1 h2=>h k h2 h1
def OwnI(w:World)(base:Nat)(v:Value)(xs:List Int):Prop:=w.ownsRow base 3 1 v xs.length (xs.map (Value.int .i64))∧xs.length≤1048576
def CPhS(w:World)(base:Nat)(cs:List Value)(x:PPhi×Value×Value):Prop:=cs=[.int .i64 x.1.dst,x.2.1,x.2.2]∧OwnI w base x.2.1 x.1.args∧OwnI w base x.2.2 x.1.froms
def CInS(w:World)(base:Nat)(cs:List Value)(x:PInst×Value):Prop:=cs=[.int .i64 x.1.op,.int .i64 x.1.dst,x.2,.int .i64 x.1.num]∧OwnI w base x.2 x.1.args
structure XBlk where
 b:PBlock
 vp:Value
 vi:Value
 es:List (PPhi×Value×Value)
 is:List (PInst×Value)
def rowsP(es:List (PPhi×Value×Value)):List Value:=es.flatMap fun e=>[e.2.1,e.2.2]
def rowsI(is:List (PInst×Value)):List Value:=is.map Prod.snd
def XBlk.rows(x:XBlk):List Value:=rowsP x.es++rowsI x.is
def XBlk.old(x:XBlk):PBlock×Value×Value:=(x.b,x.vp,x.vi)
structure CBS (w:World) (base:Nat) (cs:List Value) (x:XBlk):Prop where
 cs:cs=[.string x.b.name,x.vp,x.vi,.int .i64 x.b.term.kind,.int .i64 x.b.term.var,.int .i64 x.b.term.t0,.int .i64 x.b.term.t1]
 nm:x.b.name.size≤maxLen
 me:x.es.map Prod.fst=x.b.phis
 mi:x.is.map Prod.fst=x.b.insts
 hp:RRow w base 76 3 (CPhS w base) x.vp x.es
 hi:RRow w base 44 4 (CInS w base) x.vi x.is
 ap:x.rows.Pairwise Apart
structure BeforeX (x y:XBlk):Prop where
 vp:∀k l,x.vp.ownBlock=some k→y.vp.ownBlock=some l→k<l
 vi:∀k l,x.vi.ownBlock=some k→y.vi.ownBlock=some l→k<l
 rw:∀v∈x.rows,∀u∈y.rows,∀k l,v.ownBlock=some k→u.ownBlock=some l→k<l
section
variable {w w':World} {base B:Nat} {ts:List TypeId} {v:Value} {cs:List Value}
theorem OwnI.kt{xs:List Int}(h:OwnI w base v xs)(hk:KT ts w w')(hi:3∈ts):OwnI w' base v xs:=⟨YaT h.1 hk hi,h.2⟩
theorem OwnI.rebase{xs:List Int}(h:OwnI w base v xs)(hB:B≤base):OwnI w B v xs:=⟨Ycj h.1 hB,h.2⟩
theorem OwnI.dints{xs:List Int}(h:OwnI w base v xs):DInts w (NT [3] w) v xs:=DInts.of_own h.1 h.2 (Ydb h.1 ZS)
theorem CPhS.kt{x:PPhi×Value×Value}(h:CPhS w base cs x)(hk:KT ts w w')(hi:3∈ts):CPhS w' base cs x:=⟨h.1,h.2.1.kt hk hi,h.2.2.kt hk hi⟩
theorem CInS.kt{x:PInst×Value}(h:CInS w base cs x)(hk:KT ts w w')(hi:3∈ts):CInS w' base cs x:=⟨h.1,h.2.kt hk hi⟩
theorem CPhS.rebase{x:PPhi×Value×Value}(h:CPhS w base cs x)(hB:B≤base):CPhS w B cs x:=⟨h.1,h.2.1.rebase hB,h.2.2.rebase hB⟩
theorem CInS.rebase{x:PInst×Value}(h:CInS w base cs x)(hB:B≤base):CInS w B cs x:=⟨h.1,h.2.rebase hB⟩
theorem RRow.map{α β:Type}{e sz:Nat}{C:List Value→α→Prop}{C':List Value→β→Prop}{xs:List α}(f:α→β)(h:RRow w base e sz C v xs)(hC:∀cs x,C cs x→C' cs (f x)):RRow w base e sz C' v (xs.map f):=by
 obtain⟨ch,hl,hc,hr⟩:=h;refine⟨ch,by rw[List.length_map];exact hl,fun i cs x h1 h2=>?_,by rw[List.length_map];exact hr⟩;rw[List.getElem?_map]at h2;obtain⟨y,hy,rfl⟩:=Option.map_eq_some_iff.1 h2;exact⟨(hc i cs y h1 hy).1,hC _ _ (hc i cs y h1 hy).2⟩
theorem RRow.imp{α:Type}{e sz:Nat}{C C':List Value→α→Prop}{xs:List α}(h:RRow w base e sz C v xs)(hC:∀cs x,C cs x→C' cs x):RRow w base e sz C' v xs:=h.turn (fun _ _=>rfl) hC
theorem CBS.kt{x:XBlk}(h:CBS w base cs x)(hk:KT ts w w')(hi:3∈ts)(hp:76∈ts)(hn:44∈ts):CBS w' base cs x:=
 ⟨h.cs,h.nm,h.me,h.mi,h.hp.kt hk hp fun _ _ h=>h.kt hk hi,h.hi.kt hk hn fun _ _ h=>h.kt hk hi,h.ap⟩
theorem CBS.rebase{x:XBlk}(h:CBS w base cs x)(hB:B≤base):CBS w B cs x:=
 ⟨h.cs,h.nm,h.me,h.mi,(h.hp.rebase hB).imp fun _ _ h=>h.rebase hB,(h.hi.rebase hB).imp fun _ _ h=>h.rebase hB,h.ap⟩
theorem CBS.old{x:XBlk}(h:CBS w base cs x):CBO w base cs x.old:=by
 refine⟨h.cs,h.nm,?_,?_⟩
 · show RRow w base 76 3 (CPh w) x.vp x.b.phis
   rw[← h.me];exact h.hp.map _ fun cs e h=>⟨_,_,h.1,h.2.1.dints,h.2.2.dints⟩
 · show RRow w base 44 4 (CIn w) x.vi x.b.insts
   rw[← h.mi];exact h.hi.map _ fun cs e h=>⟨_,h.1,h.2.dints⟩
theorem BeforeX.old{x y:XBlk}(h:BeforeX x y):YdR x.old y.old:=⟨h.vp,h.vi⟩
theorem Yey{es:List (PPhi×Value×Value)}(h:RRow w base 76 3 (CPhS w base) v es):∀u∈rowsP es,∀k,u.ownBlock=some k→base≤k∧k<w.heap.size:=fun u hu k hk=>by
 obtain⟨e,he,hu⟩:=List.mem_flatMap.1 hu;obtain⟨cs,-,h1,h2⟩:=h.all_ e he;simp only[List.mem_cons,List.not_mem_nil,or_false]at hu;rcases hu with rfl|rfl
 · exact YG h1.1 hk
 · exact YG h2.1 hk
theorem Yf9{is:List (PInst×Value)}(h:RRow w base 44 4 (CInS w base) v is):∀u∈rowsI is,∀k,u.ownBlock=some k→base≤k∧k<w.heap.size:=fun u hu k hk=>by
 obtain⟨e,he,rfl⟩:=List.mem_map.1 hu;obtain⟨cs,-,h1⟩:=h.all_ e he;exact YG h1.1 hk
theorem YmX{x:XBlk}(h:CBS w base cs x):∀u∈x.rows,∀k,u.ownBlock=some k→base≤k∧k<w.heap.size:=fun u hu k hk=>by
 rcases List.mem_append.1 hu with hu|hu
 · exact Yey h.hp u hu k hk
 · exact Yf9 h.hi u hu k hk
theorem YmY{es:List (PPhi×Value×Value)}{x:PPhi}{a f:Value}(h:(rowsP es).Pairwise Apart)(ha:∀u∈rowsP es,Apart u a)(hf:∀u∈rowsP es,Apart u f)(haf:Apart a f):(rowsP (es++[(x,a,f)])).Pairwise Apart:=by
 unfold rowsP at *;rw[List.flatMap_append];refine List.pairwise_append.2 ⟨h,by simpa using haf,fun u hu y hy=>?_⟩;simp at hy;rcases hy with rfl|rfl
 · exact ha u hu
 · exact hf u hu
theorem YmZ{es:List (PPhi×Value×Value)}{is:List (PInst×Value)}{x:PInst}{a:Value}(h:(rowsP es++rowsI is).Pairwise Apart)(ha:∀u∈rowsP es++rowsI is,Apart u a):(rowsP es++rowsI (is++[(x,a)])).Pairwise Apart:=by
 have e:rowsP es++rowsI (is++[(x,a)])=(rowsP es++rowsI is)++[a]:=by simp[rowsI]
 rw[e];exact List.pairwise_append.2 ⟨h,List.pairwise_singleton _ _,fun u hu y hy=>by rw[List.mem_singleton]at hy;subst hy;exact ha u hu⟩
end
theorem Ym0(z0 z1 z2 z3 z4 z5 z6 a0 a1 a2 a3 a4 a5 a6:Value):Instr.fill (fun i=>some (i*7,7)) ((Array.range (1*7)).map ((Value.agg #[z0,z1,z2,z3,z4,z5,z6]).cells[·%(Value.agg #[z0,z1,z2,z3,z4,z5,z6]).cells.size]!)) [(0,.agg #[a0,a1,a2,a3,a4,a5,a6])]=some #[a0,a1,a2,a3,a4,a5,a6]:=by
 kernel_rfl
theorem Yh3{P:Program}{ops:Array Oper}{rest:List Oper}{o:Oper}{a:Act}{w:World}{Q:Exit→Act→World→Prop}(hg:o.guard=none)(t e:TypeId)(x:Operand)(ho:o.op=.buildSlice t 1 #[(0,x)]){by_:Nat}{z0 z1 z2 z3 z4 z5 z6 a0 a1 a2 a3 a4 a5 a6:Value}
 (hu:P.underlying t=some (.slice e)) (hinf:(P.info? e).map (fun i=>(i.zero,i.size,i.bytes))=some (some (.agg #[z0,z1,z2,z3,z4,z5,z6]),7,by_)) (hx:a.eval x=.agg #[a0,a1,a2,a3,a4,a5,a6])
 (h:wpList P ops Q rest (a.put o.dst (.slice (some ⟨w.heap.size,0,none⟩) 1 1)) (w.alloc (.cells #[a0,a1,a2,a3,a4,a5,a6] e))):wpList P ops Q (o::rest) a w:=by
 obtain⟨i,hi,hz,hsz,-⟩:=info_parts hinf;refine Go.wpList_buildSlice hg t e 1 #[(0,x)] ho #[a0,a1,a2,a3,a4,a5,a6] i _ hu hi hz (by rw[hsz];decide) (by rw[hsz];decide) ?_ h;rw[hsz];simp only[List.map_toArray,List.map_cons,List.map_nil,hx];exact Ym0 z0 z1 z2 z3 z4 z5 z6 a0 a1 a2 a3 a4 a5 a6
theorem Yh4{w:World}{base:Nat}{v:Value}{xs:List PPhi}(h:RRow w base 76 3 (CPh w) v xs)(hn:xs.length≤1048576):SPhis w w.heap.size v xs:=
 DRow.rd (h.done (D:=fun _=>True) hn (fun _ _ _=>trivial)) (fun _ h _=>h) fun b o cs x _ _ hc e=>by
  obtain⟨v1,v2,rfl,h1,h2⟩:=e;exact⟨hc 0 _ rfl,⟨v1,hc 1 _ rfl,h1.rd fun _ h _=>h⟩,v2,hc 2 _ rfl,h2.rd fun _ h _=>h⟩
theorem Ym1{w:World}{base:Nat}{v:Value}{xs:List PInst}(h:RRow w base 44 4 (CIn w) v xs)(hn:xs.length≤1048576):SInsts w w.heap.size v xs:=
 DRow.rd (h.done (D:=fun _=>True) hn (fun _ _ _=>trivial)) (fun _ h _=>h) fun b o cs x _ _ hc e=>by
  obtain⟨v1,rfl,h1⟩:=e;exact⟨hc 0 _ rfl,hc 1 _ rfl,⟨v1,hc 2 _ rfl,h1.rd fun _ h _=>h⟩,hc 3 _ rfl⟩
theorem Ym2{w:World}{base:Nat}{v:Value}{ps:List (PBlock×Value×Value)}(h:RRow w base 41 7 (CBO w base) v ps)(hn:ps.length≤1048576)
 (hp:∀p∈ps,p.1.phis.length≤1048576∧p.1.insts.length≤1048576):SBlks w w.heap.size v (ps.map Prod.fst):=by
 obtain⟨A,c,rfl,hl,hc,hr⟩:=h.done (D:=fun _=>True) hn (fun _ _ _=>trivial);refine⟨A,c,by rw[List.length_map],by rw[List.length_map];exact hl,by rw[List.length_map];exact hc,fun i x hx=>?_⟩;rw[List.getElem?_map]at hx;obtain⟨p,hx2,rfl⟩:=Option.map_eq_some_iff.1 hx;obtain⟨b,off,cs,ha,-,hb,-,hcells,rfl,hz,h1,h2⟩:=hr i p hx2;have hm:=hp p (List.mem_of_getElem? hx2);exact⟨b,off,ha,hb,hz,hcells 0 _ rfl,⟨_,hcells 1 _ rfl,Yh4 h1 hm.1⟩,⟨_,hcells 2 _ rfl,Ym1 h2 hm.2⟩,hcells 3 _ rfl,hcells 4 _ rfl,hcells 5 _ rfl,hcells 6 _ rfl⟩
theorem Yqs{w:World}{base:Nat}{vv vp vb:Value}{F:PFunc}{ps:List (PBlock×Value×Value)}(hV:RRow w base 50 2 Ybr vv F.vars)(hP:w.ownsRow base 3 1 vp F.params.length (F.params.map (Value.int .i64)))
 (hR:RRow w base 41 7 (CBO w base) vb ps) (he:ps.map Prod.fst=F.blocks) (hB:Bnd F):FnV w w.heap.size (.agg #[vv,vp,vb]) F:=by
 refine⟨vv,vp,vb,rfl,DVars.rd (D:=fun _=>True) (hV.done (by have:=hB.vars;omega) (fun _ _ _=>trivial)) (fun _ h _=>h),DInts.rd (D:=fun _=>True) (DInts.of_own hP (by have:=hB.params;omega) (fun _ _ _=>trivial)) (fun _ h _=>h),?_⟩;rw[← he];refine Ym2 hR (by have:=hB.blocks;rw[← he,List.length_map]at this;omega) fun p hp=>?_
 have hm:p.1∈F.blocks:=by rw[← he];exact List.mem_map_of_mem hp
 have:=hB.parts _ hm;exact⟨ZO,ZO⟩
theorem RRow.cells{α:Type}{w:World}{base sz:Nat}{e:TypeId}{C:List Value→α→Prop}{v:Value}{xs:List α}(h:RRow w base e sz C v xs){i:Nat}(hi:i<xs.length) :
 ∃g cap cs,v=.slice (some ⟨g,0,none⟩) xs.length cap∧xs.length≤cap∧base≤g∧g<w.heap.size∧w.frozen? ⟨g,0,none⟩=false∧cs.length=sz∧(∀j u,cs[j]?=some u→w.cell? ⟨g,i*sz+j,none⟩=some u)∧C cs xs[i]:=by
 obtain⟨ch,hl,hc,hr⟩:=h;have hcs:∀c∈ch,c.length=sz:=fun cs hm=>by
  obtain⟨i,hi,rfl⟩:=List.getElem_of_mem hm;exact(hc i _ (xs[i]'(ZO)) (by simp[hi]) ZS).1
 have hch:ch[i]?=some (ch[i]'(ZO)):=by simp[hl,hi]
 have hcx:=hc i _ xs[i] hch (by simp[hi]);rcases hr.2 with⟨hv,h0⟩|⟨g,cap,cur,rfl,hb,hh,hnc,hcm,hsz,ht⟩
 · exact ZO
 · refine⟨g,cap,_,rfl,hnc,hb,(Array.getElem?_eq_some_iff.1 hh).1,World.ownsRow.frozenAt (hr) 0,hcx.1,fun j u hu=>?_,hcx.2⟩
   have hj:j<sz:=by rw[← hcx.1];exact(List.getElem?_eq_some_iff.1 hu).1
   rw[cell_of_row w g _ cur e (0,0) hh];have hf:=Yc7 hcs hch hj;rw[hu,← ht,List.getElem?_take]at hf;split at hf
   · simpa using hf
   · cases hf
theorem Yh5{a b c:Value}:∀{ch:List (List Value)} {k:Nat},(∀c∈ch,c.length=3)→k<ch.length→(ch.set k [a,b,c]).flatten=((ch.flatten.set (k*3) a).set (k*3+1) b).set (k*3+2) c
 |[],k,_,hk=>by simp at hk
 |c0::ch,k,hs,hk=>by
  have h0:=hs c0 ZS;obtain⟨x,y,z,rfl⟩:∃x y z,c0=[x,y,z]:=by
   match c0,h0 with
   |[x,y,z],_=>exact⟨x,y,z,rfl⟩
  cases k with
  |zero=>simp
  |succ k=>
   have ih:=Yh5 (a:=a) (b:=b) (c:=c) (ch:=ch) (k:=k) (fun c h=>hs c (by simp[h])) (by simpa using hk);rw[Lc,List.flatten_cons,ih,List.flatten_cons,show(k+1)*3=k*3+1+1+1 from ZO];simp only[List.cons_append,List.nil_append,Lc,show k*3+1+1+1+1=k*3+1+1+1+1 from rfl,show k*3+1+1+1+2=k*3+2+1+1+1 from rfl]
theorem RRow.put3{α:Type}{w:World}{base g n cap:Nat}{e:TypeId}{C C':List Value→α→Prop}{xs:List α}{a b c:Value}{k:Nat}{x':α}(h:RRow w base e 3 C (.slice (some ⟨g,0,none⟩) n cap) xs)(hk:k<xs.length)
 (hC:∀cs x,C cs x→C' cs x) (hx:C' [a,b,c] x') :
 RRow (((w.setCell ⟨g,k*3,none⟩ a).setCell ⟨g,k*3+1,none⟩ b).setCell ⟨g,k*3+2,none⟩ c) base e 3 C' (.slice (some ⟨g,0,none⟩) n cap) (xs.set k x'):=by
 obtain⟨A,c1,hv⟩:=h.form;simp only[Value.slice.injEq]at hv;obtain⟨-,rfl,-⟩:=hv;obtain⟨ch,hl,hc,hr⟩:=h;have hcs:∀c∈ch,c.length=3:=fun cs hm=>by
  obtain⟨i,hi,rfl⟩:=List.getElem_of_mem hm;exact(hc i _ (xs[i]'(ZO)) (by simp[hi]) ZS).1
 refine⟨ch.set k [a,b,c],by simp[hl],fun i cs x h1 h2=>?_,?_⟩
 · by_cases hi:k=i
   · subst hi
     simp[hl,hk]at h1 h2;subst h1 h2;exact⟨rfl,hx⟩
   · rw[List.getElem?_set_ne hi]at h1 h2
     exact⟨(hc i cs x h1 h2).1,hC _ _ (hc i cs x h1 h2).2⟩
 · rw[Yh5 hcs ZO,List.length_set]
   exact(((hr.stored (k*3) a).1.stored (k*3+1) b).1.stored (k*3+2) c).1
def CBw(cs:List Value)(x:PBlock×Value×Value):Prop:=
 cs=[.string x.1.name,x.2.1,x.2.2,.int .i64 x.1.term.kind,.int .i64 x.1.term.var,.int .i64 x.1.term.t0,.int .i64 x.1.term.t1]∧x.1.name.size≤maxLen
section
variable {w w':World} {base g:Nat} {v:Value} {ts:List TypeId}
theorem Ym3{e n sz:Nat}{xs:List Value}(ho:w.ownsRow base e sz v n xs)(he:e∉ts){b:Nat}(hb:NT ts w b):v.ownBlock≠some b:=by
 intro e2;obtain⟨cs',t',h1,h2⟩:=hb;rcases ho.2 with⟨rfl,-⟩|⟨g,cap,cur,rfl,-,hh,-⟩
 · cases e2
 · cases e2
   rw[hh]at h1;cases h1;exact he h2
theorem KT.of_kp{e n sz:Nat}{xs:List Value}(h:Kp (fun b=>v.ownBlock≠some b) w w')(ho:w.ownsRow base e sz v n xs)(he:e∉ts):KT ts w w':=
 ⟨h.size,fun b hb=>h.blk b (Ym3 ho he hb) hb.lt⟩
theorem CBO.kp{e n sz:Nat}{xs:List Value}{cs:List Value}{x:PBlock×Value×Value}(hx:CBO w base cs x)(h:Kp (fun b=>v.ownBlock≠some b) w w')(ho:w.ownsRow g e sz v n xs)(hi:e≠3)(hn:e≠44)(hd:∀k,x.2.1.ownBlock=some k→v.ownBlock≠some k):CBO w' base cs x:=by
 have hk:KT [3,44] w w':=KT.of_kp h ho (by simp[hi,hn]);exact⟨hx.1,hx.2.1,hx.2.2.1.turn (fun k e=>h.blk k (hd k e) (hx.2.2.1.lt e).2) (fun _ _ h=>h.kt hk ZS),hx.2.2.2.kt hk ZS (fun _ _ h=>h.kt hk ZS)⟩
theorem RRow.mem{α:Type}{sz e:Nat}{C C':List Value→α→Prop}{xs:List α}(h:RRow w base e sz C v xs)(hC:∀cs x,x∈xs→C cs x→C' cs x):RRow w base e sz C' v xs:=by
 obtain⟨ch,hl,hc,hr⟩:=h;exact⟨ch,hl,fun i cs x h1 h2=>⟨(hc i cs x h1 h2).1,hC _ _ (List.mem_of_getElem? h2) (hc i cs x h1 h2).2⟩,hr⟩
end
structure PrI (F:PFunc) (wN wr:World) (g9:Nat) (v0 v1 vbs:Value) (ps:List (PBlock×Value×Value)) (L:List PBlock) (i:Nat) (vb:Value) (qs:List (PBlock×Value×Value)):Prop where
 map:qs.map Prod.fst=L
 far:∀q∈qs,∀j p,i≤j→ps[j]?=some p→YdR q p
 box:BoxAt wr g9 #[v0,v1,vb] 26
 hV:RRow wr wN.heap.size 50 2 Ybr v0 F.vars
 hI:wr.ownsRow wN.heap.size 3 1 v1 F.params.length (F.params.map (Value.int .i64))
 hq:RRow wr wN.heap.size 41 7 (CBO wr wN.heap.size) vb qs
 hp:RRow wr wN.heap.size 41 7 CBw vbs ps
 el:∀j p,i≤j→ps[j]?=some p→RRow wr wN.heap.size 76 3 (CPh wr) p.2.1 p.1.phis∧RRow wr wN.heap.size 44 4 (CIn wr) p.2.2 p.1.insts
 bel:Below wN.heap.size wN wr
section
variable {F:PFunc} {wN wr w':World} {g9 i gb:Nat} {v0 v1 vbs vb:Value} {ps qs:List (PBlock×Value×Value)} {L:List PBlock}
theorem PrI.below(h:PrI F wN wr g9 v0 v1 vbs ps L i vb qs)(hb:Below wr.heap.size wr w'):PrI F wN w' g9 v0 v1 vbs ps L i vb qs:=by
 have hk:KT [3,76,44,41,50] wr w':=KT.of_below hb
 exact⟨h.map,h.far,h.box.below hb h.box.lt,h.hV.move hb (fun _ _ h=>h),Yu h.hI hb,h.hq.kt hk ZS (fun _ _ h=>CBO.kt hk ZS ZS ZS h),h.hp.move hb (fun _ _ h=>h),
  fun j p hj hp=>⟨(h.el j p hj hp).1.kt hk ZS (fun _ _ h=>h.kt hk ZS),(h.el j p hj hp).2.kt hk ZS (fun _ _ h=>h.kt hk ZS)⟩,h.bel.trans (hb.mono h.bel.size)⟩
theorem PrI.skip(h:PrI F wN wr g9 v0 v1 vbs ps (Yat F i) i vb qs)(ht:thB F i=false):PrI F wN wr g9 v0 v1 vbs ps (Yat F (i+1)) (i+1) vb qs:=
 ⟨by rw[YmN ht];exact h.map,fun q hq j p hj hp=>h.far q hq j p ZO hp,h.box,h.hV,h.hI,h.hq,h.hp,fun j p hj hp=>h.el j p ZO hp,h.bel⟩
theorem PrI.phis{C:List Value→PPhi→Prop}{ys:List PPhi}{p:PBlock×Value×Value}(h:PrI F wN wr g9 v0 v1 vbs ps L i vb qs)(hpi:ps[i]?=some p)(hpw:ps.Pairwise YdR)(hk:Kp (fun b=>p.2.1.ownBlock≠some b) wr w')
 (hr:RRow wr wN.heap.size 76 3 C p.2.1 ys):PrI F wN w' g9 v0 v1 vbs ps L (i+1) vb qs:=by
 obtain⟨cells,ho⟩:=hr.own;have hto:KT [3,44,41,50] wr w':=KT.of_kp hk ho ZS;have hil:i<ps.length:=(List.getElem?_eq_some_iff.1 hpi).1;have hip:ps[i]=p:=(List.getElem?_eq_some_iff.1 hpi).2;refine⟨h.map,fun q hq j p hj hp=>h.far q hq j p ZO hp,(hk.blk g9 (Yck ho h.box ZD) h.box.lt).trans h.box,h.hV.kt hto ZS (fun _ _ h=>h),YaT h.hI hto ZS,?_,h.hp.kt hto ZS (fun _ _ h=>h),fun j q hj hq=>⟨?_,(h.el j q ZO hq).2.kt hto ZS (fun _ _ h=>h.kt hto ZS)⟩,?_⟩
 · refine RRow.kt (C:=CBO w' wN.heap.size) (h.hq.mem fun cs x hx hc=>CBO.kp hc hk ho ZD ZD fun k e1 e2=>?_) hto ZS (fun _ _ h=>h)
   have:=(h.far x hx i p (Nr _) hpi).1 k k e1 e2;omega
 · have hjl:j<ps.length:=(List.getElem?_eq_some_iff.1 hq).1
   have hjp:ps[j]=q:=(List.getElem?_eq_some_iff.1 hq).2;have hbe:=List.pairwise_iff_getElem.1 hpw i j hil hjl ZO;rw[hip,hjp]at hbe;exact(h.el j q ZO hq).1.turn (fun k e=>hk.blk k (fun e2=>by have:=hbe.1 k k e2 e;omega) ((h.el j q ZO hq).1.lt e).2) (fun _ _ h=>h.kt hto ZS)
 · exact h.bel.trans (hk.to_below (fun k hlt e=>by have:=(YG ho e).1;omega) h.bel.size)
theorem PrI.kpb{cs:Array Value}(h:PrI F wN wr g9 v0 v1 vbs ps L i vb qs)(hk:Kp (fun b=>b≠gb) wr w')(hbx:BoxAt wr gb cs 41)(h1:∀k,vb.ownBlock=some k→k≠gb)(h2:∀k,vbs.ownBlock=some k→k≠gb)(h9:g9≠gb)(hB:wN.heap.size≤gb):PrI F wN w' g9 v0 v1 vbs ps L i vb qs:=by
 have hto:KT [3,44,76,50] wr w':=⟨hk.size,fun b hb=>hk.blk b (by
  rintro rfl;obtain⟨cs',t',e1,e2⟩:=hb;unfold BoxAt at hbx;rw[hbx]at e1;cases e1
  exact absurd e2 ZD) hb.lt⟩
 refine⟨h.map,h.far,(hk.blk g9 h9 h.box.lt).trans h.box,h.hV.kt hto ZS (fun _ _ h=>h),YaT h.hI hto ZS,?_,h.hp.turn (fun k e=>hk.blk k (h2 k e) (h.hp.lt e).2) (fun _ _ h=>h),fun j q hj hq=>⟨(h.el j q hj hq).1.kt hto ZS (fun _ _ h=>h.kt hto ZS),(h.el j q hj hq).2.kt hto ZS (fun _ _ h=>h.kt hto ZS)⟩,?_⟩
 · exact h.hq.turn (fun k e=>hk.blk k (h1 k e) (h.hq.lt e).2) (fun _ _ h=>⟨h.1,h.2.1,h.2.2.1.kt hto ZS (fun _ _ h=>h.kt hto ZS),h.2.2.2.kt hto ZS (fun _ _ h=>h.kt hto ZS)⟩)
 · exact h.bel.trans (hk.to_below (fun k hlt=>ZO) h.bel.size)
end
def trK(F:PFunc)(t:PTerm)(k:Nat):PTerm:={ t with t0:=if 0<k then(YT F (ith (endsOf t) 0).toNat:Int) else t.t0,t1:=if 1<k then(YT F (ith (endsOf t) 1).toNat:Int) else t.t1 }
theorem Yqt{F:PFunc}{t:PTerm}(h:¬(t.kind=1∧t.t0=t.t1)):trK F t (endsOf t).length=YaS F t:=by
 unfold trK YaS endsOf
 by_cases h0:t.kind=0
 · simp[h0,ith]
 · by_cases h1:t.kind=1
   · have h2:t.t0≠t.t1:=fun e=>h ⟨h1,e⟩
     simp[h1,h2,ith]
   · simp[h0,h1]
theorem Yqu{F:PFunc}{t:PTerm}(h1:t.kind=1)(h2:t.t0=t.t1):({ trK F t (endsOf t).length with t1:=(trK F t (endsOf t).length).t0 }:PTerm)=YaS F t:=by
 unfold trK YaS endsOf;simp[h1,h2,ith]
def YbU(F:PFunc)(i k:Nat)(l:List PPhi):List PPhi:=(l.take k).map (YcF F i)++l.drop k
section
variable {F:PFunc} {i k:Nat} {l:List PPhi}
theorem Yqv:YbU F i 0 l=l:=rfl
theorem Yqw:(YbU F i k l).length=l.length:=by
 unfold YbU;rw[List.length_append,List.length_map,List.length_take,List.length_drop];omega
theorem Yqx(h:k<l.length):(YbU F i k l)[k]?=some (l.getD k default):=by
 unfold YbU;rw[List.getElem?_append_right ZX];simp[List.length_take,Nat.min_eq_left (Nat.le_of_lt h),List.getD,h]
theorem Yqy(h:k<l.length):(YbU F i k l).set k (YcF F i (l.getD k default))=YbU F i (k+1) l:=by
 unfold YbU;have h1:((l.take k).map (YcF F i)).length=k:=by simp;omega
 rw[List.set_append_right _ _ ZO,h1,Nat.sub_self,List.drop_eq_getElem_cons h,Lz,List.take_add_one,List.getElem?_eq_getElem h,List.map_append];simp[List.getD,h]
theorem Yqz:YbU F i l.length l=l.map (YcF F i):=by simp[YbU]
theorem YqA(hT:Yd F=true)(hi:i<F.blocks.length){a:Int}(h0:0≤a)(h1:a<F.blocks.length){nums:List Int}(hn:ith nums a.toNat=if thB F a.toNat=true then(YT F a.toNat:Int) else -1):Yb7 F i a=(((YaO F).getD i []).contains a&&decide (0≤ith nums a.toNat)):=by
 have hr:(YaO F).getD i []=Yf (Yq F i F.blocks.length):=Yes hT hi _ (Nr _);rw[hr,hn,Bool.eq_iff_iff,show Yb7 F i a=true↔leads (F.blk a.toNat).term (i:Int)=true∧thB F a.toNat=true from(by unfold Yb7;rw[Bool.and_eq_true]),Bool.and_eq_true];have hm:(Yf (Yq F i F.blocks.length)).contains a=true↔leads (F.blk a.toNat).term (i:Int)=true:=by
  rw[List.contains_iff_mem];unfold Yf;rw[List.mem_map];constructor
  · rintro⟨b,hb,rfl⟩
    exact(YcE.1 hb).2
  · intro h
    exact⟨a.toNat,YcE.2 ⟨ZO,h⟩,ZX⟩
 rw[hm];cases thB F a.toNat<;>simp
end
theorem Yh6{w:World}{b o:Nat}{x y z:Value}:w.setCells b o [x,y,z]=((w.setCell ⟨b,o,none⟩ x).setCell ⟨b,o+1,none⟩ y).setCell ⟨b,o+2,none⟩ z:=rfl
theorem YqB{w:World}{base b9 g n cap k:Nat}{xs:List PPhi}{x':PPhi}{v9 v10:Value}(h:RRow w base 76 3 (CPh w) (.slice (some ⟨g,0,none⟩) n cap) xs)(hk:k<xs.length)(hT:Two w b9 v10 x'.froms v9 x'.args)(ha:x'.args.length≤1048576)(hf:x'.froms.length≤1048576) :
 RRow (w.setCells g (k*3) [.int .i64 x'.dst,v9,v10]) base 76 3 (CPh (w.setCells g (k*3) [.int .i64 x'.dst,v9,v10])) (.slice (some ⟨g,0,none⟩) n cap) (xs.set k x'):=by
 rw[Yh6];obtain⟨cells,hO⟩:=h.own;obtain⟨A,c1,hv⟩:=h.form;simp only[Value.slice.injEq]at hv;obtain⟨-,rfl,-⟩:=hv;obtain⟨cur,hbox⟩:=YfK hO;have hKT:=(((KT.refl (ts:=[3]) (w:=w)).setCell hbox ZS (j:=k*3) (.int .i64 x'.dst)).setCell (hbox.set (k*3) _) ZS (j:=k*3+1) v9).setCell ((hbox.set (k*3) _).set (k*3+1) _) ZS (j:=k*3+2) v10;have q1:=YaT hT.2.1 hKT ZS;have q2:=YaT hT.1 hKT ZS;exact RRow.put3 h hk (fun _ _ h=>CPh.kt hKT ZS h) ⟨v9,v10,rfl,DInts.of_own q1 ha (Ydb q1 ZS),DInts.of_own q2 hf (Ydb q2 ZS)⟩
theorem YqC{w a:World}{g o n cap:Nat}{x y z:Value}(h:Kp (fun b=>(Value.slice (some ⟨g,0,none⟩) n cap).ownBlock≠some b) a w):Kp (fun b=>(Value.slice (some ⟨g,0,none⟩) n cap).ownBlock≠some b) a (w.setCells g o [x,y,z]):=by
 rw[Yh6];have hg:¬(Value.slice (some ⟨g,0,none⟩) n cap).ownBlock≠some g:=fun h=>h rfl
 exact((h.setCell (p:=⟨g,o,none⟩) hg x).setCell (p:=⟨g,o+1,none⟩) hg y).setCell (p:=⟨g,o+2,none⟩) hg z
theorem KT.of_box{w w':World}{gb:Nat}{cs:Array Value}(hk:Kp (fun b=>b≠gb) w w')(hbx:BoxAt w gb cs 41):KT [3,44,76,50] w w':=⟨hk.size,fun b hb=>hk.blk b (by
 rintro rfl;obtain⟨cs',t',e1,e2⟩:=hb;unfold BoxAt at hbx;rw[hbx]at e1;cases e1
 exact absurd e2 ZD) hb.lt⟩
def Yez(F:PFunc)(i:Nat)(vx vy:Value):List Value:=[.string (F.blk i).name,vx,vy,.int .i64 (F.blk i).term.kind,.int .i64 (F.blk i).term.var,.int .i64 (YaS F (F.blk i).term).t0,.int .i64 (YaS F (F.blk i).term).t1]
theorem Yh7{F:PFunc}{t:PTerm}:(YaS F t).kind=t.kind∧(YaS F t).var=t.var:=by
 unfold YaS;split
 · exact⟨rfl,rfl⟩
 · split<;>exact⟨rfl,rfl⟩
theorem PrI.snoc{F:PFunc}{wN wz w3:World}{g9 i:Nat}{v0 v1 vbs vq v' vx vy:Value}{ps qs:List (PBlock×Value×Value)}{cellsq:List Value}(h:PrI F wN wz g9 v0 v1 vbs ps (Yat F i) (i+1) vq qs)(hth:thB F i=true)
 (hpi:ps[i]?=some (F.blk i,vx,vy)) (hpw:ps.Pairwise YdR) (hOq:wz.ownsRow wN.heap.size 41 7 vq qs.length cellsq) (hown3:w3.ownsRow wN.heap.size 41 7 v' (qs.length+1) (cellsq++Yez F i vx vy))
 (hgg:(wz.alloc (.cells (Yez F i vx vy).toArray 41)).grownBy w3 vq.ownBlock) (hR:RRow wz wN.heap.size 76 3 (CPh wz) vx ((F.blk i).phis.map (YcF F i))) (hI:RRow wz wN.heap.size 44 4 (CIn wz) vy (F.blk i).insts)
 (hnz:(F.blk i).name.size≤maxLen) (hvb:∀k,vbs.ownBlock=some k→vq.ownBlock≠some k) (hg9:wN.heap.size≤g9) :
 PrI F wN (w3.setCell ⟨g9,2,none⟩ v') g9 v0 v1 vbs ps (Yat F (i+1)) (i+1) v' (qs++[(YcG F i,vx,vy)]):=by
 have hgo3:BoxAt w3 g9 #[v0,v1,vq] 26:=(h.box.alloc _).grown hgg (Yck hOq h.box ZD);have hK:KT [3,76,44,50] wz (w3.setCell ⟨g9,2,none⟩ v'):=((KT.refl.alloc _).grown (hOq.alloc _) ZS hgg).setCell hgo3 ZS _;have hil:i<ps.length:=(List.getElem?_eq_some_iff.1 hpi).1;have hip:ps[i]=(F.blk i,vx,vy):=(List.getElem?_eq_some_iff.1 hpi).2;refine⟨by rw[List.map_append,h.map,YmM hth];rfl,fun q hq j p hj hp=>?_,by simpa using hgo3.set 2 v',h.hV.kt hK ZS (fun _ _ h=>h),YaT h.hI hK ZS,?_,?_,fun j q hj hq=>⟨(h.el j q hj hq).1.kt hK ZS (fun _ _ h=>h.kt hK ZS),(h.el j q hj hq).2.kt hK ZS (fun _ _ h=>h.kt hK ZS)⟩,?_⟩
 · rcases List.mem_append.1 hq with hq|hq
   · exact h.far q hq j p hj hp
   · rw[List.mem_singleton]at hq
     subst hq;have hjl:j<ps.length:=(List.getElem?_eq_some_iff.1 hp).1;have hjp:ps[j]=p:=(List.getElem?_eq_some_iff.1 hp).2;have hbe:=List.pairwise_iff_getElem.1 hpw i j hil hjl ZO;rw[hip,hjp]at hbe;exact⟨hbe.1,hbe.2⟩
 · refine RRow.snoc (cs:=Yez F i vx vy) h.hq hOq (ownsRow_setCell_other hown3 (fun e=>Yck hown3 hgo3 ZD e) _) rfl (fun _ _ hc=>CBO.kt hK ZS ZS ZS hc) ?_
   refine⟨?_,hnz,hR.kt hK ZS (fun _ _ h=>h.kt hK ZS),hI.kt hK ZS (fun _ _ h=>h.kt hK ZS)⟩;show Yez F i vx vy=[.string (F.blk i).name,vx,vy,.int .i64 (YaS F (F.blk i).term).kind,.int .i64 (YaS F (F.blk i).term).var,.int .i64 (YaS F (F.blk i).term).t0,.int .i64 (YaS F (F.blk i).term).t1];rw[Yh7.1,Yh7.2];rfl
 · obtain⟨cellsp,hOp⟩:=h.hp.own
   refine h.hp.turn (fun k e=>?_) (fun _ _ h=>h);have hkl:=(h.hp.lt e).2;exact(Yci (fun e2=>by subst e2;exact Yck hOp h.box ZD e)).trans ((hgg.block k ZX (fun e2=>hvb k e e2.symm)).trans (heap_alloc_old wz _ hkl))
 · exact((h.bel.alloc h.bel.size _).grown hgg (by have:=h.bel.size;simp;omega) (fun k e=>(YG hOq e).1)).setCell hg9 _
theorem BoxAt.put6{w:World}{g:Nat}{t:TypeId}{a0 a1 a2 a3 a4 a5 a6 z:Value}(h:BoxAt w g #[a0,a1,a2,a3,a4,a5,a6] t):BoxAt (w.setCell ⟨g,6,none⟩ z) g #[a0,a1,a2,a3,a4,a5,z] t:=by
 simpa using h.set 6 z
section
variable {α:Type} {p:α→Bool}
theorem Ym4:∀(l:List α) (i:Nat),(Yg p l i=-1∧l.filter (fun x=>!p x)=l)∨∃k,k<l.length∧Yg p l i=((i+k:Nat):Int)∧(l.take (k+1)).filter (fun x=>!p x)=l.take k
 |[],i=>.inl ⟨rfl,rfl⟩
 |x::r,i=>by
  unfold Yg;cases h:p x
  · rcases Ym4 r (i+1)with⟨h1,h2⟩|⟨k,h1,h2,h3⟩
    · exact .inl ⟨by simpa using h1,by simp[h,h2]⟩
    · refine .inr ⟨k+1,by simpa using h1,?_,by rw[List.take_succ_cons,List.filter_cons,h3];simp[h]⟩
      simp only[Bool.false_eq_true,if_false,h2];omega
  · exact .inr ⟨0,ZS,ZS,by simp[h]⟩
structure DelI (p:α→Bool) (xs ys:List α) (i j:Nat):Prop where
 len:ys.length=xs.length
 lt:i<j
 le:j≤xs.length
 tk:ys.take i=(xs.take j).filter fun x=>!p x
 dr:ys.drop j=xs.drop j
variable {xs ys:List α} {i j:Nat}
theorem DelI.start{k:Nat}(hk:k<xs.length)(h:(xs.take (k+1)).filter (fun x=>!p x)=xs.take k):DelI p xs xs k (k+1):=⟨rfl,ZO,ZO,h.symm,rfl⟩
theorem DelI.at_(h:DelI p xs ys i j){x:α}(hx:xs[j]?=some x):ys[j]?=some x:=by
 have h1:=congrArg (·[0]?) h.dr;simp only[List.getElem?_drop,Nat.add_zero]at h1;rw[h1,hx]
theorem DelI.skip(h:DelI p xs ys i j)(hj:j<xs.length){x:α}(hx:xs[j]?=some x)(hp:p x=true):DelI p xs ys i (j+1):=by
 refine⟨h.len,by have:=h.lt;omega,hj,?_,?_⟩
 · rw[h.tk,List.take_add_one,hx,List.filter_append]
   simp[hp]
 · have:=congrArg (List.drop 1) h.dr
   simpa[List.drop_drop,Nat.add_comm]using this
theorem DelI.keep(h:DelI p xs ys i j)(hj:j<xs.length){x:α}(hx:xs[j]?=some x)(hp:p x=false):DelI p xs (ys.set i x) (i+1) (j+1):=by
 have hl:=h.len;have hlt:=h.lt;refine⟨by rw[List.length_set];exact h.len,ZO,hj,?_,?_⟩
 · rw[List.take_add_one,List.getElem?_set_self ZO,List.take_set_of_le (Nr _),h.tk,List.take_add_one,hx,List.filter_append]
   simp[hp]
 · rw[List.drop_set_of_lt ZO]
   have:=congrArg (List.drop 1) h.dr;simpa[List.drop_drop,Nat.add_comm]using this
theorem DelI.fin(h:DelI p xs ys i xs.length):ys.take i=xs.filter (fun x=>!p x)∧i=(xs.filter fun x=>!p x).length:=by
 have h1:=h.tk;rw[List.take_length]at h1;have h2:=congrArg List.length h1;rw[List.length_take,h.len]at h2;have:=h.lt;exact⟨h1,ZO⟩
end
section
variable {w:World} {base e sz g n cap i:Nat} {xs:List Value}
theorem Ym5(h:w.ownsRow base e sz (.slice (some ⟨g,0,none⟩) n cap) n xs)(hi:i≤n):w.ownsRow base e sz (.slice (some ⟨g,0,none⟩) i cap) i (xs.take (i*sz)):=by
 obtain⟨h1,h2⟩:=h;have hm:=Nat.mul_le_mul_right sz hi;rcases h2 with⟨h0,_⟩|⟨g',cap',cur,hv,hg,hh,hn,hcap,hsz,htake⟩
 · cases h0
 · cases hv
   refine⟨by rw[List.length_take];omega,.inr ⟨g,cap,cur,rfl,hg,hh,ZO,hcap,hsz,?_⟩⟩;rw[← htake,List.take_take,Nat.min_eq_left hm]
theorem Yh8:∀(Z:List Value) {w:World} {o:Nat},w.ownsRow base e sz (.slice (some ⟨g,0,none⟩) n cap) n xs→xs.length≤o→(w.setCells g o Z).ownsRow base e sz (.slice (some ⟨g,0,none⟩) n cap) n xs
 |[],_,_,h,_=>h
 |z::Z,w,o,h,ho=>by
  have h1:=(h.stored o z).1;rw[List.set_eq_of_length_le ho]at h1;exact Yh8 Z h1 ZO
theorem RRow.cut{α:Type}{C:List Value→α→Prop}{ys:List α}(h:RRow w base e sz C (.slice (some ⟨g,0,none⟩) n cap) ys)(hi:i≤ys.length):RRow w base e sz C (.slice (some ⟨g,0,none⟩) i cap) (ys.take i):=by
 obtain⟨A,c,hv⟩:=h.form;simp only[Value.slice.injEq]at hv;obtain⟨-,rfl,-⟩:=hv;obtain⟨ch,hl,hc,hr⟩:=h;have hcs:∀c∈ch,c.length=sz:=fun cs hm=>by
  obtain⟨k,hk,rfl⟩:=List.getElem_of_mem hm;exact(hc k _ (ys[k]'(ZO)) (by simp[hk]) ZS).1
 refine⟨ch.take i,by rw[List.length_take,List.length_take,hl],fun k cs x h1 h2=>?_,?_⟩
 · rw[List.getElem?_take]at h1 h2
   split at h1
   · rename_i hk
     rw[if_pos hk]at h2;exact hc k cs x h1 h2
   · cases h1
 · have h1:=Ym5 hr hi
   have hf:ch.flatten.take (i*sz)=(ch.take i).flatten:=by
    have h2:((ch.take i).flatten).length=i*sz:=by
     have:∀l:List (List Value),(∀c∈l,c.length=sz)→l.flatten.length=l.length*sz:=fun l=>by
      induction l with
      |nil=>simp
      |cons a l ih=>
       intro hl;rw[List.flatten_cons,List.length_append,ih fun c hc=>hl c (List.mem_cons_of_mem _ hc),hl a (List.mem_cons_self ..),List.length_cons,Nat.succ_mul];omega
     rw[this _ fun c hc=>hcs c (List.mem_of_mem_take hc),List.length_take,hl,Nat.min_eq_left hi]
    have h3:ch.flatten=(ch.take i).flatten++(ch.drop i).flatten:=by rw[← List.flatten_append,List.take_append_drop]
    rw[h3,← h2];exact List.take_left
   rw[hf]at h1;rw[List.length_take,Nat.min_eq_left hi];exact h1
theorem RRow.behind{α:Type}{C C':List Value→α→Prop}{ys:List α}{Z:List Value}{o:Nat}(h:RRow w base e sz C (.slice (some ⟨g,0,none⟩) n cap) ys)(ho:ys.length*sz≤o)(hC:∀cs x,C cs x→C' cs x):RRow (w.setCells g o Z) base e sz C' (.slice (some ⟨g,0,none⟩) n cap) ys:=by
 obtain⟨A,c,hv⟩:=h.form;simp only[Value.slice.injEq]at hv;obtain⟨-,rfl,-⟩:=hv;obtain⟨ch,hl,hc,hr⟩:=h;exact⟨ch,hl,fun i cs x h1 h2=>⟨(hc i cs x h1 h2).1,hC _ _ (hc i cs x h1 h2).2⟩,Yh8 Z hr (by rw[hr.1];exact ho)⟩
theorem Kp.setCells{D:Nat→Prop}{a:World}(hg:¬D g):∀(Z:List Value) {w:World} {o:Nat},Kp D a w→Kp D a (w.setCells g o Z)
 |[],_,_,h=>h
 |_::Z,_,_,h=>Kp.setCells hg Z (h.setCell hg _)
theorem KT.setCells{ts:List TypeId}{a:World}{t:TypeId}(ht:t∉ts):∀(Z:List Value) {w:World} {o:Nat} {cs:Array Value},KT ts a w→BoxAt w g cs t→KT ts a (w.setCells g o Z)
 |[],_,_,_,h,_=>h
 |_::Z,_,_,_,h,hb=>KT.setCells ht Z (h.setCell hb ht _) (hb.set _ _)
theorem Yh9{a b c d:Value}:∀{ch:List (List Value)} {k:Nat},(∀c∈ch,c.length=4)→k<ch.length→(ch.set k [a,b,c,d]).flatten=(((ch.flatten.set (k*4) a).set (k*4+1) b).set (k*4+2) c).set (k*4+3) d
 |[],k,_,hk=>by simp at hk
 |c0::ch,k,hs,hk=>by
  have h0:=hs c0 ZS;obtain⟨x,y,z,u,rfl⟩:∃x y z u,c0=[x,y,z,u]:=by
   match c0,h0 with
   |[x,y,z,u],_=>exact⟨x,y,z,u,rfl⟩
  cases k with
  |zero=>simp
  |succ k=>
   have ih:=Yh9 (a:=a) (b:=b) (c:=c) (d:=d) (ch:=ch) (k:=k) (fun c h=>hs c (by simp[h])) (by simpa using hk);rw[Lc,List.flatten_cons,ih,List.flatten_cons,show(k+1)*4=k*4+1+1+1+1 from ZO];simp only[List.cons_append,List.nil_append,Lc,show k*4+1+1+1+1+1=k*4+1+1+1+1+1 from rfl,show k*4+1+1+1+1+2=k*4+2+1+1+1+1 from rfl,show k*4+1+1+1+1+3=k*4+3+1+1+1+1 from rfl]
theorem RRow.put4{α:Type}{C C':List Value→α→Prop}{ys:List α}{a b c d:Value}{k:Nat}{x':α}(h:RRow w base e 4 C (.slice (some ⟨g,0,none⟩) n cap) ys)(hk:k<ys.length)
 (hC:∀cs x,C cs x→C' cs x) (hx:C' [a,b,c,d] x') :
 RRow ((((w.setCell ⟨g,k*4,none⟩ a).setCell ⟨g,k*4+1,none⟩ b).setCell ⟨g,k*4+2,none⟩ c).setCell ⟨g,k*4+3,none⟩ d) base e 4 C' (.slice (some ⟨g,0,none⟩) n cap) (ys.set k x'):=by
 obtain⟨A,c1,hv⟩:=h.form;simp only[Value.slice.injEq]at hv;obtain⟨-,rfl,-⟩:=hv;obtain⟨ch,hl,hc,hr⟩:=h;have hcs:∀c∈ch,c.length=4:=fun cs hm=>by
  obtain⟨i,hi,rfl⟩:=List.getElem_of_mem hm;exact(hc i _ (ys[i]'(ZO)) (by simp[hi]) ZS).1
 refine⟨ch.set k [a,b,c,d],by simp[hl],fun i cs x h1 h2=>?_,?_⟩
 · by_cases hi:k=i
   · subst hi
     simp[hl,hk]at h1 h2;subst h1 h2;exact⟨rfl,hx⟩
   · rw[List.getElem?_set_ne hi]at h1 h2
     exact⟨(hc i cs x h1 h2).1,hC _ _ (hc i cs x h1 h2).2⟩
 · rw[Yh9 hcs ZO,List.length_set]
   exact((((hr.stored (k*4) a).1.stored (k*4+1) b).1.stored (k*4+2) c).1.stored (k*4+3) d).1
theorem Ym6{P:Program}(w:World)(t e ty:TypeId)(z:Value)(ht:P.underlying t=some (.slice e))(hv:∀w,(zeroValue e).run P w=.ok z w)(h1:∀v∈z.cells.toList,v.oneCell'=true)(b o n c:Nat)(hn:0<n)
 (hc:∀j,j<n*z.cells.size→(w.cell? ⟨b,o+j,none⟩).isSome=true) (hf:∀j,j<n*z.cells.size→w.frozen? ⟨b,o+j,none⟩=false) :
 (Builtin.clear_ #[t] ty #[.slice (some ⟨b,o,none⟩) n c]).run P w=.ok (.tuple #[]) (w.setCells b o (Builtin.zeroCells z.cells n).toList):=by
 have hl:(Builtin.zeroCells z.cells n).toList.length=n*z.cells.size:=by simp[Builtin.zeroCells]
 have hst:=run_storeCells_cells (P:=P) b o (Builtin.zeroCells z.cells n).toList 0 w (by rw[hl];simpa using hc) (by rw[hl];simpa using hf) (by
  intro v hv';simp only[Builtin.zeroCells,Array.toList_map,List.mem_map]at hv';obtain⟨i,hi,rfl⟩:=hv';have hi2:i<n*z.cells.size:=by simpa using hi
  have hp:0<z.cells.size:=Nat.pos_of_ne_zero fun h=>by rw[h]at hi2;omega
  have hm:=Nat.mod_lt i hp;rw[getElem!_pos z.cells _ hm]
  exact h1 _ ZS)
 simp only[Nat.add_zero]at hst;obtain⟨m,rfl⟩:∃m,n=m+1:=⟨n-1,ZO⟩;simp[Builtin.clear_,run_underlying ht,hv,hst]
end
section
variable {α:Type}
theorem DRow.chunks{w:World}{D:Nat→Prop}{sz:Nat}{C:List Value→α→Prop}{v:Value}{xs:List α}(h:DRow w D sz C v xs) :
 ∃A c,∃ch:List (List Value),v=.slice A xs.length c∧ch.length=xs.length∧(∀(i:Nat) cs x,ch[i]?=some cs→xs[i]?=some x→cs.length=sz∧C cs x)∧(xs≠[]→∃a,A=some a∧∀j u,ch.flatten[j]?=some u→w.cell? (a.add j)=some u):=by
 obtain⟨A,c,rfl,-,-,hr⟩:=h;have hx:∀i:Fin xs.length,∃cs,cs.length=sz∧(∃b off,A=some ⟨b,off,none⟩∧∀j u,cs[j]?=some u→w.cell? ⟨b,off+i*sz+j,none⟩=some u)∧C cs xs[i]:=fun i=>by
  obtain⟨b,off,cs,h1,-,-,h2,h3,h4⟩:=hr i xs[i] ZS;exact⟨cs,h2,⟨b,off,h1,h3⟩,h4⟩
 obtain⟨fc,hfc⟩:=Classical.skolem.1 hx;refine⟨A,c,List.ofFn fc,rfl,ZS,fun i cs x e1 e2=>?_,fun hne=>?_⟩
 · rw[List.getElem?_ofFn]at e1
   have hi:i<xs.length:=(List.getElem?_eq_some_iff.1 e2).1;rw[dif_pos hi]at e1;cases e1;have e3:xs[i]=x:=(List.getElem?_eq_some_iff.1 e2).2;subst e3;exact⟨(hfc ⟨i,hi⟩).1,(hfc ⟨i,hi⟩).2.2⟩
 · have hp:0<xs.length:=List.length_pos_iff.2 hne
   have hall:∀c∈List.ofFn fc,c.length=sz:=fun c hc=>by
    obtain⟨i,rfl⟩:=List.mem_ofFn.1 hc;exact(hfc i).1
   obtain⟨-,⟨b,off,rfl,-⟩,-⟩:=hfc ⟨0,hp⟩;refine⟨_,rfl,fun j u hj=>?_⟩;have hjl:=(List.getElem?_eq_some_iff.1 hj).1;have hfl:(List.ofFn fc).flatten.length=xs.length*sz:=by
    rw[List.length_flatten,List.eq_replicate_of_mem (l:=(List.ofFn fc).map List.length) (a:=sz) (fun y hy=>by
     obtain⟨c,hc,rfl⟩:=List.mem_map.1 hy
     exact hall c hc)]
    simp
   rw[hfl]at hjl;have hs0:0<sz:=by
    rcases Nat.eq_zero_or_pos sz with rfl|h
    · simp at hjl
    · exact h
   obtain⟨i,k,hk,rfl⟩:∃i k,k<sz∧j=i*sz+k:=⟨j / sz,j%sz,Nat.mod_lt _ hs0,by rw[Nat.mul_comm];exact(Nat.div_add_mod j sz).symm⟩;have hi:i<xs.length:=by
    rcases Nat.lt_or_ge i xs.length with h|h
    · exact h
    · have:=Nat.mul_le_mul_right sz h
      omega
   have hci:(List.ofFn fc)[i]?=some (fc ⟨i,hi⟩):=by rw[List.getElem?_ofFn,dif_pos hi]
   rw[Yc7 hall hci hk]at hj;obtain⟨-,⟨b',off',e1,e⟩,-⟩:=hfc ⟨i,hi⟩;cases e1;rw[Addr.add_lit,show off+(i*sz+k)=off+i*sz+k from ZO];exact e k u hj
theorem YqD{P:Program}{w:World}{base t ty:Nat}{e:TypeId}(sz bytes:Nat)(ht:P.underlying t=some (.slice e)){z:Value}(hinf:(P.info? e).map (fun i=>(i.zero,i.size,i.bytes))=some (some z,sz,bytes))(hz1:z.cells.size=sz)(hsz:0<sz)(hby:bytes≤64)
 {C:List Value→α→Prop} {D:Nat→Prop} {v u:Value} {xs ys:List α} (hR:RRow w base e sz C v xs) (hS:DRow w D sz C u ys) (hone:∀cs x,C cs x→∀y∈cs,y.oneCell'=true) (hn:xs.length+ys.length≤1048576) (hbase:base≤w.heap.size) :
 ∃A c w',(Builtin.append_ #[t,t] ty #[v,u]).run P w=.ok (.slice A (xs.length+ys.length) c) w'∧RRow w' base e sz C (.slice A (xs.length+ys.length) c) (xs++ys)∧w.grownBy w' v.ownBlock∧
  ((Value.slice A (xs.length+ys.length) c).ownBlock=v.ownBlock∨(Value.slice A (xs.length+ys.length) c).ownBlock=some w.heap.size):=by
 obtain⟨i,hi,hz,hisz,hb⟩:=info_parts hinf;obtain⟨B,cu,ch2,rfl,hl2,hc2,hrd⟩:=hS.chunks;obtain⟨ch,hl,hc,hr⟩:=hR
 by_cases h0:ys=[]
 · subst h0
   obtain⟨A,c,rfl⟩:=Yp hr;have hle:xs.length+0≤c:=by
    rcases hr.2 with⟨hv,h0⟩|⟨g,cap,cur,hv,-,-,hnc,-⟩
    · exact ZO
    · cases hv
      exact hnc
   refine⟨A,c,w,?_,⟨ch,by simpa using hl,by simpa using hc,by simpa using hr⟩,⟨rfl,rfl,rfl,Nr _,fun _ _ _=>rfl⟩,.inl rfl⟩;cases B with
   |none=>
    cases A with
    |none=>simp[Builtin.append_,run_underlying ht,sizeOf,typeInfo,hi,Builtin.lenOf,Builtin.firstCells]<;>(intro h;omega)
    |some b=>simp[Builtin.append_,run_underlying ht,sizeOf,typeInfo,hi,Builtin.lenOf,Builtin.firstCells,storeCells]<;>(intro h;omega)
   |some a=>
    have hf:=run_firstCells_some (P:=P) w i.size 0 a 0 cu [] ZS ZS;cases A with
    |none=>simp[Builtin.append_,run_underlying ht,sizeOf,typeInfo,hi,Builtin.lenOf,hf]<;>(intro h;omega)
    |some b=>simp[Builtin.append_,run_underlying ht,sizeOf,typeInfo,hi,Builtin.lenOf,hf,storeCells]<;>(intro h;omega)
 · obtain⟨a,rfl,hcell⟩:=hrd h0
   have hall:∀c∈ch2,c.length=sz:=fun cs hm=>by
    obtain⟨i,hi,rfl⟩:=List.getElem_of_mem hm;exact(hc2 i _ (ys[i]'(ZO)) (by simp[hi]) ZS).1
   have hfl:ch2.flatten.length=ys.length*sz:=by
    rw[List.length_flatten,List.eq_replicate_of_mem (l:=ch2.map List.length) (a:=sz) (fun y hy=>by
     obtain⟨c,hc,rfl⟩:=List.mem_map.1 hy
     exact hall c hc)]
    simp[hl2]
   have h1:∀u∈ch2.flatten,u.oneCell'=true:=fun u hu=>by
    obtain⟨cs,hcs,hu⟩:=List.mem_flatten.1 hu;obtain⟨i,hi,rfl⟩:=List.getElem_of_mem hcs;exact hone _ _ (hc2 i _ (ys[i]'(ZO)) (by simp[hi]) ZS).2 u hu
   have hbytes:(xs.length+ys.length)*bytes≤140737488355328:=by
    calc(xs.length+ys.length)*bytes≤1048576*64:=Nat.mul_le_mul hn hby
     _≤140737488355328:=by decide
   obtain⟨v',w',hr2,h2,h3,-,h4⟩:=run_append_own_at (P:=P) (w:=w) base t ty e i z sz bytes ht hi hz hisz hb hz1 hsz v xs.length ch.flatten hr a ys.length cu ch2.flatten hfl hcell h1 (by unfold maxLen;omega) hbytes hbase;obtain⟨A,c,rfl⟩:=Yp h2;refine⟨A,c,w',hr2,⟨ch++ch2,by simp[hl,hl2],fun i cs x e1 e2=>?_,by rw[List.length_append,List.flatten_append];exact h2⟩,h3,h4⟩
   by_cases hi:i<ch.length
   · rw[List.getElem?_append_left hi]at e1
     rw[List.getElem?_append_left ZO]at e2;exact hc i cs x e1 e2
   · rw[List.getElem?_append_right ZO]at e1 e2
     rw[hl]at e1;exact hc2 _ cs x e1 e2
end
theorem YO(w:World)(o:Obj):Below w.heap.size w (w.alloc o):=(Br _ _).alloc (Nr _) _
theorem Yia{P:Program}{ops:Array Oper}{rest:List Oper}{o:Oper}{a:Act}{w w':World}{Q:Exit→Act→World→Prop}(hgd:o.guard=none)(s x:Operand)(t:TypeId)(ho:o.op=.call { callee:=.builtin .append,args:=#[s,x],argTypes:=#[t,t] }){u y v:Value}(hs:a.eval s=u)(hx:a.eval x=y)
 (hrun:(Builtin.append_ #[t,t] o.type #[u,y]).run P w=.ok v w') (h:wpList P ops Q rest (a.put o.dst v) w'):wpList P ops Q (o::rest) a w:=
 wpList_plain hgd fun _ hK=>Yc5 s x t ho hs hx hrun (hK _ _ h)
theorem YqE{ops:Array Oper}{rest:List Oper}{w:World}{B N n:Nat}{v:Value}{xs:List Int}{x:Int}{o:Oper}{a:Act}{Q:Exit→Act→World→Prop}(hgd:o.guard=none)(s z:Operand)(ho:o.op=.call { callee:=.builtin .append,args:=#[s,z],argTypes:=#[23,23] })(hty:o.type=23)
 (hs:a.eval s=v) (hz:a.eval z=.slice (some ⟨N,0,none⟩) 1 1) (h:w.ownsRow B 3 1 v n (xs.map (Value.int .i64))) (hc:w.cell? ⟨N,0,none⟩=some (.int .i64 x)) (hn:n<1048576) (hB:B≤w.heap.size)
 (hK:∀A c w',w'.ownsRow B 3 1 (.slice A (n+1) c) (n+1) ((xs++[x]).map (Value.int .i64))→w.grownBy w' v.ownBlock→Below B w w'→wpList Tryz.prog ops Q rest (a.put o.dst (.slice A (n+1) c)) w'):wpList Tryz.prog ops Q (o::rest) a w:=by
 obtain⟨i,hi,hz2,hsz,hb⟩:=info_parts Tryz.info3;obtain⟨v',w',hr,h2,h3,-,h4⟩:=run_append_own_at (P:=Tryz.prog) w B 23 23 3 i _ 1 8 Tryz.underlying23 hi hz2 hsz hb rfl ZD v n _ h ⟨N,0,none⟩ 1 1 [.int .i64 x] rfl
  (fun j u hj=>by
    match j,hj with
    |0,hj=>simp at hj;subst hj;exact hc) (by simp[Value.oneCell']) (by unfold maxLen;omega) ZO hB
 obtain⟨A,c,rfl⟩:=Yp h2;refine Yia hgd s z 23 ho hs hz (by rw[hty];exact hr) (hK A c w' (by rw[List.map_append];exact h2) h3 ⟨h3.os,h3.tape,h3.output,h3.size,fun k hk=>h3.block k ZO (fun e=>by have:=(YG h e.symm).1;omega)⟩)
section
variable {w w':World} {base g n cap:Nat} {e:TypeId}
theorem Yib{sz:Nat}{u:Value}:∀{ch:List (List Value)} {k j:Nat},(∀c∈ch,c.length=sz)→k<ch.length→j<sz→(ch.set k ((ch.getD k []).set j u)).flatten=ch.flatten.set (k*sz+j) u
 |[],k,j,_,hk,_=>by simp at hk
 |c0::ch,0,j,hs,_,hj=>by
  have h0:=hs c0 (List.mem_cons_self ..);simp only[Le,Lz,List.flatten_cons,Nat.zero_mul,Nat.zero_add];rw[List.set_append_left _ _ ZO]
 |c0::ch,k+1,j,hs,hk,hj=>by
  have h0:=hs c0 (List.mem_cons_self ..);have ih:=Yib (u:=u) (ch:=ch) (k:=k) (j:=j) (fun c h=>hs c (List.mem_cons_of_mem _ h)) (by simpa using hk) hj;simp only[Ld,Lc,List.flatten_cons];have he:(k+1)*sz+j=c0.length+(k*sz+j):=by rw[Nat.succ_mul,h0];omega
  rw[ih,he,List.set_append_right _ _ ZO,Nat.add_sub_cancel_left]
theorem RRow.putJ{α:Type}{sz:Nat}{C C':List Value→α→Prop}{xs:List α}{i j:Nat}{u:Value}{x':α}(h:RRow w base e sz C (.slice (some ⟨g,0,none⟩) n cap) xs)(hi:i<xs.length)(hj:j<sz)
 (hC:∀(k:Nat) cs x,k≠i→xs[k]?=some x→C cs x→C' cs x) (hx:∀cs,C cs xs[i]→C' (cs.set j u) x'):RRow (w.setCell ⟨g,i*sz+j,none⟩ u) base e sz C' (.slice (some ⟨g,0,none⟩) n cap) (xs.set i x'):=by
 obtain⟨A,c1,hv⟩:=h.form;simp only[Value.slice.injEq]at hv;obtain⟨-,rfl,-⟩:=hv;obtain⟨ch,hl,hc,hr⟩:=h;have hcs:∀c∈ch,c.length=sz:=fun cs hm=>by
  obtain⟨i,hi,rfl⟩:=List.getElem_of_mem hm;exact(hc i _ (xs[i]'(ZO)) (by simp[hi]) ZS).1
 have hci:ch[i]?=some (ch.getD i []):=by simp[List.getD,hl,hi]
 have hci2:=hc i _ xs[i] hci (List.getElem?_eq_getElem hi);refine⟨ch.set i ((ch.getD i []).set j u),by simp[hl],fun k cs x h1 h2=>?_,?_⟩
 · by_cases hk:i=k
   · subst hk
     rw[List.getElem?_set_self ZO]at h1 h2;cases h1;cases h2;exact⟨by rw[List.length_set];exact hci2.1,hx _ hci2.2⟩
   · rw[List.getElem?_set_ne hk]at h1 h2
     exact⟨(hc k cs x h1 h2).1,hC k _ _ (fun e=>hk e.symm) h2 (hc k cs x h1 h2).2⟩
 · rw[Yib hcs ZO hj,List.length_set]
   exact(hr.stored (i*sz+j) u).1
end
end Go.Proofs.YtjlclkcmfokobaaGreatDoor
