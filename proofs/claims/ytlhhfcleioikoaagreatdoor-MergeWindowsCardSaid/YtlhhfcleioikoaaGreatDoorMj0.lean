/- Which instructions stay by themselves: the walks of ops.Pure, ops.Raw, dead.stays and of the document's Stays. -/
import Derived.Test.YtlhhfcleioikoaaGreatDoorRefR
import Derived.Test.YtlhhfcleioikoaaGreatDoorSlc
import Derived.Test.YtlhhfcleioikoaaGreatDoorZed
import Derived.Test.YtlhhfcleioikoaaGreatDoorMkRows
import Derived.Test.YtlhhfcleioikoaaGreatDoorMkAt
import Derived.Test.YtlhhfcleioikoaaGreatDoorPhi
import Derived.Test.YtlhhfcleioikoaaGreatDoorFnOf
import Derived.Test.YtlhhfcleioikoaaGreatDoorTreeP
import Derived.Maps.AppendAt
import Derived.Test.YtlhhfcleioikoaaGreatDoorNewP
namespace Go.Proofs.YtlhhfcleioikoaaGreatDoor
open Go.RowKit
set_option maxRecDepth 100000
def staysB(o:Nat):Bool:=!([0,1,2,3,4,7,8,9,10,11,16,25,26].contains o)
def checkO(o:Nat):Bool:=decide (18≤o)&&decide (o≤24)
def pureO(o:Nat):Bool:=!checkO o&&!decide (o=14)&&!decide (o=17)&&!decide (o=15)
def rawL:List Int:=[5,6,12,13,14,15]
def rawO(o:Nat):Bool:=(List.range 6).any fun i=>rawL.getD i 0==(o:Int)
theorem stays_eq:∀o,o<27→(!pureO o||rawO o)=staysB o:=by decide +kernel
theorem checkO_calls{w:World}(o:Nat):Calls Tryz.prog 112 #[.int .i64 (o:Int)] w fun e w'=>e=.returned (.bool (checkO o))∧w'=w:=by
 by_cases h1:18≤o
 · by_cases h2:o≤24
   · have HC:=Lib.hid (show checkO o=true by simp[checkO,h1,h2])
     have h3:decide ((18:Int)≤(o:Int))=true:=decide_eq_true ZO;have h4:decide ((o:Int)≤24)=true:=decide_eq_true ZO;go_enter Tryz.func112,Tryz.ntmps112;go_wp2;go_ret;exact⟨ret_bool HC.out.symm,rfl⟩
   · have HC:=Lib.hid (show checkO o=false by simp[checkO,h2])
     have h3:decide ((18:Int)≤(o:Int))=true:=decide_eq_true ZO;have h4:decide ((o:Int)≤24)=false:=decide_eq_false ZO;go_enter Tryz.func112,Tryz.ntmps112;go_wp2;go_ret;exact⟨ret_bool HC.out.symm,rfl⟩
 · have HC:=Lib.hid (show checkO o=false by simp[checkO,h1])
   have h3:decide ((18:Int)≤(o:Int))=false:=decide_eq_false ZO;go_enter Tryz.func112,Tryz.ntmps112;go_wp2;go_ret;exact⟨ret_bool HC.out.symm,rfl⟩
set_option maxHeartbeats 1000000 in
theorem pureO_calls{w:World}(o:Nat)(ho:o<27):Calls Tryz.prog 78 #[.int .i64 (o:Int)] w fun e w'=>e=.returned (.bool (pureO o))∧w'=w:=by
 have h1:=is_calls (w:=w) (o:Int);have hi:isOp (o:Int)=true:=by simp[isOp,inB];omega
 rw[hi]at h1;have h2:=checkO_calls (w:=w) o;clear hi ho;cases hc:checkO o
 · rw[hc]at h2
   by_cases e1:o=14
   · have HC:=Lib.hid (show pureO o=false by simp[pureO,e1])
     have d1:((o:Int) !=14)=false:=by simp[e1]
     clear hc e1;go_enter Tryz.func78,Tryz.ntmps78;go_wp2_with(first|(go_at_call 111;refine h1.mono ?_;rintro e w1 ⟨rfl,rfl⟩)|(go_at_call 112;refine h2.mono ?_;rintro e w2 ⟨rfl,rfl⟩));go_ret;exact⟨ret_bool HC.out.symm,rfl⟩
   · have d1:((o:Int) !=14)=true:=by simp;omega
     by_cases e2:o=17
     · have HC:=Lib.hid (show pureO o=false by simp[pureO,e2])
       have d2:((o:Int) !=17)=false:=by simp[e2]
       clear hc e1 e2;go_enter Tryz.func78,Tryz.ntmps78;go_wp2_with(first|(go_at_call 111;refine h1.mono ?_;rintro e w1 ⟨rfl,rfl⟩)|(go_at_call 112;refine h2.mono ?_;rintro e w2 ⟨rfl,rfl⟩));go_ret;exact⟨ret_bool HC.out.symm,rfl⟩
     · have d2:((o:Int) !=17)=true:=by simp;omega
       by_cases e3:o=15
       · have HC:=Lib.hid (show pureO o=false by simp[pureO,e3])
         have d3:((o:Int) !=15)=false:=by simp[e3]
         clear hc e1 e2 e3;go_enter Tryz.func78,Tryz.ntmps78;go_wp2_with(first|(go_at_call 111;refine h1.mono ?_;rintro e w1 ⟨rfl,rfl⟩)|(go_at_call 112;refine h2.mono ?_;rintro e w2 ⟨rfl,rfl⟩));go_ret;exact⟨ret_bool HC.out.symm,rfl⟩
       · have HC:=Lib.hid (show pureO o=true by simp[pureO,hc,e1,e2,e3])
         have d3:((o:Int) !=15)=true:=by simp;omega
         clear hc e1 e2 e3;go_enter Tryz.func78,Tryz.ntmps78;go_wp2_with(first|(go_at_call 111;refine h1.mono ?_;rintro e w1 ⟨rfl,rfl⟩)|(go_at_call 112;refine h2.mono ?_;rintro e w2 ⟨rfl,rfl⟩));go_ret;exact⟨ret_bool HC.out.symm,rfl⟩
 · rw[hc]at h2
   have HC:=Lib.hid (show pureO o=false by simp[pureO,hc]);clear hc;go_enter Tryz.func78,Tryz.ntmps78;go_wp2_with(first|(go_at_call 111;refine h1.mono ?_;rintro e w1 ⟨rfl,rfl⟩)|(go_at_call 112;refine h2.mono ?_;rintro e w2 ⟨rfl,rfl⟩));go_ret;exact⟨ret_bool HC.out.symm,rfl⟩
end Go.Proofs.YtlhhfcleioikoaaGreatDoor
namespace Go.Proofs.YtlhhfcleioikoaaGreatDoor
open Go.RowKit
set_option maxRecDepth 100000
theorem word_eqD_all:∀i,i<27→∀j,j<27→((kindAt i).1==(kindAt j).1)=decide (i=j):=by decide +kernel
theorem word_eqD(i:Nat)(hi:i<27)(j:Nat)(hj:j<27):((bs (kindAt i).1).toList==(kindAt j).1)=decide (i=j):=by
 rw[show(bs (kindAt i).1).toList=(kindAt i).1 by simp[bs,Lib.toList_data]];exact word_eqD_all i hi j hj
theorem wordsD(i:Nat)(hi:i<27){sW:ByteArray}(h:sW=bs (kindAt i).1):(sW.toList==[99,111,110,115,116])=decide (i=0)∧(sW.toList==[99,111,112,121])=decide (i=1)∧(sW.toList==[97,100,100])=decide (i=2)∧(sW.toList==[115,117,98])=decide (i=3)∧(sW.toList==[109,117,108])=decide (i=4)∧(sW.toList==[101,113])=decide (i=7)∧(sW.toList==[108,116])=decide (i=8)∧(sW.toList==[108,101])=decide (i=9)∧(sW.toList==[110,111,116])=decide (i=10)∧(sW.toList==[97,110,100])=decide (i=11)∧(sW.toList==[110,105,108])=decide (i=16)∧(sW.toList==[112,105])=decide (i=25)∧(sW.toList==[112,105,108,101,110])=decide (i=26):=by
 rw[h];exact⟨word_eqD i hi 0 ZD,word_eqD i hi 1 ZD,word_eqD i hi 2 ZD,word_eqD i hi 3 ZD,word_eqD i hi 4 ZD,word_eqD i hi 7 ZD,word_eqD i hi 8 ZD,word_eqD i hi 9 ZD,word_eqD i hi 10 ZD,word_eqD i hi 11 ZD,word_eqD i hi 16 ZD,word_eqD i hi 25 ZD,word_eqD i hi 26 ZD⟩
end Go.Proofs.YtlhhfcleioikoaaGreatDoor
namespace Go.Proofs.YtlhhfcleioikoaaGreatDoor
open Go.RowKit
set_option maxRecDepth 100000
def staysI(x:PInst):Bool:=staysB x.op.toNat
inductive Nd (F:PFunc):Int→Prop
 |inst {b:PBlock} {x:PInst} {v:Int} (hb:b∈F.blocks) (hx:x∈b.insts) (hs:staysI x=true) (hv:v∈x.args):Nd F v
 |term {b:PBlock} (hb:b∈F.blocks) (hk:b.term.kind≠0):Nd F b.term.var
 |phi {b:PBlock} {p:PPhi} {v:Int} (hb:b∈F.blocks) (hp:p∈b.phis) (hd:Nd F p.dst) (hv:v∈p.args):Nd F v
 |arg {b:PBlock} {x:PInst} {v:Int} (hb:b∈F.blocks) (hx:x∈b.insts) (hs:staysI x=false) (hd:Nd F x.dst) (hv:v∈x.args):Nd F v
open Classical in
noncomputable def ndB (F:PFunc) (v:Nat):Bool:=decide (Nd F (v:Int))
noncomputable def ndL (F:PFunc):List Bool:=(List.range F.vars.length).map (ndB F)
def phiIt(p:PPhi):Int×List Int:=(p.dst,p.args)
def insIt(l:List PInst):List (Int×List Int):=(l.filter fun x=>!staysI x).map fun x=>(x.dst,x.args)
def blkIt(b:PBlock):List (Int×List Int):=b.phis.map phiIt++insIt b.insts
def fnIt(l:List PBlock):List (Int×List Int):=l.flatMap blkIt
def layIt(t:List (List Int))(e:Int×List Int):List (List Int):=t.set e.1.toNat e.2
def tkL(n:Nat)(l:List (Int×List Int)):List (List Int):=l.foldl layIt (List.replicate n [])
theorem rev_ind{α:Type}{p:List α→Prop}(h0:p [])(h1:∀l e,p l→p (l++[e]))(l:List α):p l:=by
 rw[← List.reverse_reverse l]
 induction l.reverse with
 |nil=>exact h0
 |cons e l ih=>rw[List.reverse_cons];exact h1 _ _ ih
theorem lay_len{l:List (Int×List Int)}:∀{t:List (List Int)},(l.foldl layIt t).length=t.length:=by
 induction l with
 |nil=>intro t;rfl
 |cons e l ih=>intro t;rw[List.foldl_cons,ih,layIt,List.length_set]
theorem tkL_len{n:Nat}{l:List (Int×List Int)}:(tkL n l).length=n:=by rw[tkL,lay_len,List.length_replicate]
theorem tkL_snoc{n:Nat}{l:List (Int×List Int)}{e:Int×List Int}:tkL n (l++[e])=(tkL n l).set e.1.toNat e.2:=by rw[tkL,List.foldl_append];rfl
theorem tkL_from{n v:Nat}{u:Int}:∀{l:List (Int×List Int)},u∈(tkL n l).getD v []→∃e∈l,e.1.toNat=v∧u∈e.2:=by
 intro l;refine rev_ind (p:=fun l=>u∈(tkL n l).getD v []→∃e∈l,e.1.toNat=v∧u∈e.2) ?_ (fun l e ih=>?_) l
 · intro h
   have:(tkL n []).getD v []=[]:=by
    unfold tkL;simp only[List.foldl_nil,List.getD,List.getElem?_replicate];split<;>rfl
   rw[this]at h;cases h
 · intro h
   rw[tkL_snoc]at h
   by_cases he:e.1.toNat=v
   · subst he
     by_cases hl:e.1.toNat<n
     · have:((tkL n l).set e.1.toNat e.2).getD e.1.toNat []=e.2:=by simp[List.getD,tkL_len,hl]
       rw[this]at h;exact⟨e,ZS,rfl,h⟩
     · have:((tkL n l).set e.1.toNat e.2).getD e.1.toNat []=[]:=by
        rw[List.getD_eq_getElem?_getD,List.getElem?_eq_none (by rw[List.length_set,tkL_len];omega)];rfl
       rw[this]at h;cases h
   · have:((tkL n l).set e.1.toNat e.2).getD v []=(tkL n l).getD v []:=by
      rw[List.getD_eq_getElem?_getD,List.getD_eq_getElem?_getD,List.getElem?_set_ne he]
     rw[this]at h;obtain⟨e',h1,h2⟩:=ih h;exact⟨e',List.mem_append_left _ h1,h2⟩
theorem tkL_at{n:Nat}{e:Int×List Int}(hn:e.1.toNat<n):∀{l:List (Int×List Int)},e∈l→(∀e'∈l,e'.1.toNat=e.1.toNat→e'.2=e.2)→(tkL n l).getD e.1.toNat []=e.2:=by
 intro l;refine rev_ind (p:=fun l=>e∈l→(∀e'∈l,e'.1.toNat=e.1.toNat→e'.2=e.2)→(tkL n l).getD e.1.toNat []=e.2) (fun h=>by cases h) (fun l e' ih=>?_) l
 · intro hm hu
   rw[tkL_snoc]
   by_cases he:e'.1.toNat=e.1.toNat
   · rw[he,List.getD_eq_getElem?_getD,List.getElem?_set_self (by rw[tkL_len];exact hn),← hu e' ZS he]
     rfl
   · rw[List.getD_eq_getElem?_getD,List.getElem?_set_ne he,← List.getD_eq_getElem?_getD]
     refine ih ?_ fun e'' h=>hu e'' (List.mem_append_left _ h)
     rcases List.mem_append.1 hm with h|h
     · exact h
     · rw[List.mem_singleton]at h
       exact absurd (by rw[h]) he
def itOk(F:PFunc):Prop:=∀e∈fnIt F.blocks,∀e'∈fnIt F.blocks,e'.1.toNat=e.1.toNat→e'.2=e.2
theorem ins_sub:∀{l:List PInst},((insIt l).map (·.1)).Sublist (l.map (·.dst)):=by
 intro l;have:(insIt l).map (·.1)=(l.filter fun x=>!staysI x).map (·.dst):=by unfold insIt;rw[List.map_map];rfl
 rw[this];exact List.Sublist.map _ List.filter_sublist
theorem blk_evs{F:PFunc}{i:Nat}:((blkIt (F.blk i)).map (·.1)).Sublist ((evBlk F i).map (·.dst)):=by
 have h1:(evBlk F i).map (·.dst)=(F.blk i).phis.map (·.dst)++(F.blk i).insts.map (·.dst):=by
  unfold evBlk evPhi evIns;rw[List.map_append,List.map_map,List.map_map];congr 1
  · refine List.ext_getElem ZS fun k h1 h2=>?_
    simp at h1;simp[PBlock.phi,h1]
  · refine List.ext_getElem ZS fun k h1 h2=>?_
    simp at h1;simp[PBlock.inst,h1]
 have h2:(blkIt (F.blk i)).map (·.1)=(F.blk i).phis.map (·.dst)++(insIt (F.blk i).insts).map (·.1):=by
  unfold blkIt;rw[List.map_append,List.map_map];rfl
 rw[h1,h2];exact List.Sublist.append (List.Sublist.refl _) ins_sub
theorem fn_evs{F:PFunc}:∀n,n≤F.blocks.length→((fnIt (F.blocks.take n)).map (·.1)).Sublist ((evs F n).map (·.dst))
 |0,_=>by simp[fnIt,evs]
 |n+1,hn=>by
  have hb:F.blocks.take (n+1)=F.blocks.take n++[F.blk n]:=by
   rw[List.take_add_one,PFunc.blk_get ZO];rfl
  rw[hb,fnIt,List.flatMap_append,List.map_append,evs,List.map_append];refine List.Sublist.append (fn_evs n ZO) ?_;simpa using blk_evs (F:=F) (i:=n)
theorem it_ok{F:PFunc}(ho:onceB F=true)(hr:∀e∈fnIt F.blocks,0≤e.1∧e.1<F.vars.length):itOk F:=by
 intro e he e' he' hd;have hre:=hr e he;have hre':=hr e' he';have hd2:e'.1=e.1:=by omega
 have hs:=fn_evs (F:=F) F.blocks.length (Nat.le_refl _);rw[List.take_length]at hs;have hoa:=List.all_eq_true.1 ho e.1.toNat (List.mem_range.2 ZO);unfold onceAt mkOf at hoa;rw[Bool.not_eq_true',Bool.or_eq_false_iff]at hoa;have h1:=of_decide_eq_false hoa.1;rw[List.length_map,Int.toNat_of_nonneg hre.1]at h1;have h2:=(hs.filter (fun d=>d==e.1)).length_le;rw[List.filter_map,List.filter_map,List.length_map,List.length_map]at h2;have h3:((fnIt F.blocks).filter ((fun d=>d==e.1)∘(·.1))).length≤1:=Nat.le_trans h2 (Nat.le_of_not_lt h1);have m1:e∈(fnIt F.blocks).filter ((fun d=>d==e.1)∘(·.1)):=List.mem_filter.2 ⟨he,ZS⟩;have m2:e'∈(fnIt F.blocks).filter ((fun d=>d==e.1)∘(·.1)):=List.mem_filter.2 ⟨he',by simp[hd2]⟩;generalize (fnIt F.blocks).filter ((fun d=>d==e.1)∘(·.1))=L at *
 match L,h3,m1,m2 with
 |[a],_,m1,m2=>
  rw[List.mem_singleton]at m1 m2;rw[m1,m2]
 |_::_::_,h3,_,_=>simp at h3
theorem nd_closed{F:PFunc}{is:List Bool}(hl:is.length=F.vars.length)(hok:itOk F)(hr:∀e∈fnIt F.blocks,0≤e.1∧e.1<F.vars.length)(h1:∀v,is.getD v false=true→Nd F (v:Int))
 (h2:∀b∈F.blocks,∀x∈b.insts,staysI x=true→∀v∈x.args,is.getD v.toNat false=true) (h3:∀b∈F.blocks,b.term.kind≠0→is.getD b.term.var.toNat false=true)
 (h4:∀v,is.getD v false=true→∀u∈(tkL F.vars.length (fnIt F.blocks)).getD v [],is.getD u.toNat false=true):is=ndL F:=by
 have key:∀v,Nd F v→is.getD v.toNat false=true:=by
  intro v h
  induction h with
  |inst hb hx hs hv=>exact h2 _ hb _ hx hs _ hv
  |term hb hk=>exact h3 _ hb hk
  |@phi b p v hb hp hd hv ih=>
   have hm:phiIt p∈fnIt F.blocks:=List.mem_flatMap.2 ⟨b,hb,List.mem_append_left _ (List.mem_map.2 ⟨p,hp,rfl⟩)⟩;refine h4 _ ih v ?_;have:=tkL_at (n:=F.vars.length) (e:=phiIt p) (by have:=hr _ hm;omega) hm (fun e' h' hd=>hok _ hm e' h' hd);have h5:(tkL F.vars.length (fnIt F.blocks)).getD p.dst.toNat []=p.args:=this;rw[h5];exact hv
  |@arg b x v hb hx hs hd hv ih=>
   have hm:(x.dst,x.args)∈fnIt F.blocks:=List.mem_flatMap.2 ⟨b,hb,List.mem_append_right _ (List.mem_map.2 ⟨x,List.mem_filter.2 ⟨hx,by simp[hs]⟩,rfl⟩)⟩;refine h4 _ ih v ?_;have:=tkL_at (n:=F.vars.length) (e:=(x.dst,x.args)) (by have:=hr _ hm;omega) hm (fun e' h' hd=>hok _ hm e' h' hd);have h5:(tkL F.vars.length (fnIt F.blocks)).getD x.dst.toNat []=x.args:=this;rw[h5];exact hv
 refine List.ext_getElem (by rw[hl];simp[ndL]) fun i hi1 hi2=>?_
 have hgi:is[i]=is.getD i false:=by simp[List.getD,hi1]
 have hri:(ndL F)[i]=ndB F i:=by simp[ndL]
 rw[hgi,hri,Bool.eq_iff_iff];have hnb:ndB F i=true↔Nd F (i:Int):=by unfold ndB;simp
 rw[hnb];exact⟨h1 i,fun h=>by have:=key _ h;simpa using this⟩
theorem nd_takes{F:PFunc}(hr:∀e∈fnIt F.blocks,0≤e.1∧e.1<F.vars.length){v:Nat}{u:Int}(hv:Nd F (v:Int))(hu:u∈(tkL F.vars.length (fnIt F.blocks)).getD v []):Nd F u:=by
 obtain⟨e,he,h1,h2⟩:=tkL_from hu;have h3:=hr e he;have h4:e.1=(v:Int):=by omega
 obtain⟨b,hb,hm⟩:=List.mem_flatMap.1 he;rcases List.mem_append.1 hm with hm|hm
 · obtain⟨p,hp,rfl⟩:=List.mem_map.1 hm
   exact .phi hb hp (by have h5:p.dst=(v:Int):=h4;rw[h5];exact hv) h2
 · obtain⟨x,hx,rfl⟩:=List.mem_map.1 hm
   obtain⟨hx,hs⟩:=List.mem_filter.1 hx;exact .arg hb hx (by simpa using hs) (by have h5:x.dst=(v:Int):=h4;rw[h5];exact hv) h2
end Go.Proofs.YtlhhfcleioikoaaGreatDoor
namespace Go.Proofs.YtlhhfcleioikoaaGreatDoor
open Go.RowKit
set_option maxRecDepth 100000
def CBw(cs:List Value)(x:PBlock×Value×Value):Prop:=
 cs=[.string x.1.name,x.2.1,x.2.2,.int .i64 x.1.term.kind,.int .i64 x.1.term.var,.int .i64 x.1.term.t0,.int .i64 x.1.term.t1]∧x.1.name.size≤maxLen
section
variable {w w':World} {base g:Nat} {v:Value} {ts:List TypeId}
theorem own_ne_nt{e n sz:Nat}{xs:List Value}(ho:w.ownsRow base e sz v n xs)(he:e∉ts){b:Nat}(hb:NT ts w b):v.ownBlock≠some b:=by
 intro e2;obtain⟨cs',t',h1,h2⟩:=hb;rcases ho.2 with⟨rfl,-⟩|⟨g,cap,cur,rfl,-,hh,-⟩
 · cases e2
 · cases e2
   rw[hh]at h1;cases h1;exact he h2
theorem KT.of_kp{e n sz:Nat}{xs:List Value}(h:Kp (fun b=>v.ownBlock≠some b) w w')(ho:w.ownsRow base e sz v n xs)(he:e∉ts):KT ts w w':=
 ⟨h.size,fun b hb=>h.blk b (own_ne_nt ho he hb) hb.lt⟩
theorem CBO.kp{e n sz:Nat}{xs:List Value}{cs:List Value}{x:PBlock×Value×Value}(hx:CBO w base cs x)(h:Kp (fun b=>v.ownBlock≠some b) w w')(ho:w.ownsRow g e sz v n xs)(hi:e≠3)(hn:e≠47)(hd:∀k,x.2.1.ownBlock=some k→v.ownBlock≠some k):CBO w' base cs x:=by
 have hk:KT [3,47] w w':=KT.of_kp h ho (by simp[hi,hn]);exact⟨hx.1,hx.2.1,hx.2.2.1.turn (fun k e=>h.blk k (hd k e) (hx.2.2.1.lt e).2) (fun _ _ h=>h.kt hk ZS),hx.2.2.2.kt hk ZS (fun _ _ h=>h.kt hk ZS)⟩
theorem RRow.mem{α:Type}{sz e:Nat}{C C':List Value→α→Prop}{xs:List α}(h:RRow w base e sz C v xs)(hC:∀cs x,x∈xs→C cs x→C' cs x):RRow w base e sz C' v xs:=by
 obtain⟨ch,hl,hc,hr⟩:=h;exact⟨ch,hl,fun i cs x h1 h2=>⟨(hc i cs x h1 h2).1,hC _ _ (List.mem_of_getElem? h2) (hc i cs x h1 h2).2⟩,hr⟩
end
structure PrI (F:PFunc) (wN wr:World) (g9:Nat) (v0 v1 vbs:Value) (ps:List (PBlock×Value×Value)) (L:List PBlock) (i:Nat) (vb:Value) (qs:List (PBlock×Value×Value)):Prop where
 map:qs.map Prod.fst=L
 far:∀q∈qs,∀j p,i≤j→ps[j]?=some p→Before q p
 box:BoxAt wr g9 #[v0,v1,vb] 26
 hV:RRow wr wN.heap.size 52 2 CVar v0 F.vars
 hI:wr.ownsRow wN.heap.size 3 1 v1 F.params.length (F.params.map (Value.int .i64))
 hq:RRow wr wN.heap.size 42 7 (CBO wr wN.heap.size) vb qs
 hp:RRow wr wN.heap.size 42 7 CBw vbs ps
 el:∀j p,i≤j→ps[j]?=some p→RRow wr wN.heap.size 66 3 (CPh wr) p.2.1 p.1.phis∧RRow wr wN.heap.size 47 4 (CIn wr) p.2.2 p.1.insts
 bel:Below wN.heap.size wN wr
section
variable {F:PFunc} {wN wr w':World} {g9 i gb:Nat} {v0 v1 vbs vb:Value} {ps qs:List (PBlock×Value×Value)} {L:List PBlock}
theorem PrI.below(h:PrI F wN wr g9 v0 v1 vbs ps L i vb qs)(hb:Below wr.heap.size wr w'):PrI F wN w' g9 v0 v1 vbs ps L i vb qs:=by
 have hk:KT [3,66,47,42,52] wr w':=KT.of_below hb
 exact⟨h.map,h.far,h.box.below hb h.box.lt,h.hV.move hb (fun _ _ h=>h),own_below h.hI hb,h.hq.kt hk ZS (fun _ _ h=>CBO.kt hk ZS ZS ZS h),h.hp.move hb (fun _ _ h=>h),
  fun j p hj hp=>⟨(h.el j p hj hp).1.kt hk ZS (fun _ _ h=>h.kt hk ZS),(h.el j p hj hp).2.kt hk ZS (fun _ _ h=>h.kt hk ZS)⟩,h.bel.trans (hb.mono h.bel.size)⟩
theorem PrI.skip(h:PrI F wN wr g9 v0 v1 vbs ps (prBlks F i) i vb qs)(ht:thB F i=false):PrI F wN wr g9 v0 v1 vbs ps (prBlks F (i+1)) (i+1) vb qs:=
 ⟨by rw[prBlks_no ht];exact h.map,fun q hq j p hj hp=>h.far q hq j p ZO hp,h.box,h.hV,h.hI,h.hq,h.hp,fun j p hj hp=>h.el j p ZO hp,h.bel⟩
theorem PrI.phis{C:List Value→PPhi→Prop}{ys:List PPhi}{p:PBlock×Value×Value}(h:PrI F wN wr g9 v0 v1 vbs ps L i vb qs)(hpi:ps[i]?=some p)(hpw:ps.Pairwise Before)(hk:Kp (fun b=>p.2.1.ownBlock≠some b) wr w')
 (hr:RRow wr wN.heap.size 66 3 C p.2.1 ys):PrI F wN w' g9 v0 v1 vbs ps L (i+1) vb qs:=by
 obtain⟨cells,ho⟩:=hr.own;have hto:KT [3,47,42,52] wr w':=KT.of_kp hk ho ZS;have hil:i<ps.length:=(List.getElem?_eq_some_iff.1 hpi).1;have hip:ps[i]=p:=(List.getElem?_eq_some_iff.1 hpi).2;refine⟨h.map,fun q hq j p hj hp=>h.far q hq j p ZO hp,(hk.blk g9 (own_box_ne ho h.box ZD) h.box.lt).trans h.box,h.hV.kt hto ZS (fun _ _ h=>h),own_kt h.hI hto ZS,?_,h.hp.kt hto ZS (fun _ _ h=>h),fun j q hj hq=>⟨?_,(h.el j q ZO hq).2.kt hto ZS (fun _ _ h=>h.kt hto ZS)⟩,?_⟩
 · refine RRow.kt (C:=CBO w' wN.heap.size) (h.hq.mem fun cs x hx hc=>CBO.kp hc hk ho ZD ZD fun k e1 e2=>?_) hto ZS (fun _ _ h=>h)
   have:=(h.far x hx i p (Nat.le_refl _) hpi).1 k k e1 e2;omega
 · have hjl:j<ps.length:=(List.getElem?_eq_some_iff.1 hq).1
   have hjp:ps[j]=q:=(List.getElem?_eq_some_iff.1 hq).2;have hbe:=List.pairwise_iff_getElem.1 hpw i j hil hjl ZO;rw[hip,hjp]at hbe;exact(h.el j q ZO hq).1.turn (fun k e=>hk.blk k (fun e2=>by have:=hbe.1 k k e2 e;omega) ((h.el j q ZO hq).1.lt e).2) (fun _ _ h=>h.kt hto ZS)
 · exact h.bel.trans (hk.to_below (fun k hlt e=>by have:=(own_lt ho e).1;omega) h.bel.size)
theorem PrI.kpb{cs:Array Value}(h:PrI F wN wr g9 v0 v1 vbs ps L i vb qs)(hk:Kp (fun b=>b≠gb) wr w')(hbx:BoxAt wr gb cs 42)(h1:∀k,vb.ownBlock=some k→k≠gb)(h2:∀k,vbs.ownBlock=some k→k≠gb)(h9:g9≠gb)(hB:wN.heap.size≤gb):PrI F wN w' g9 v0 v1 vbs ps L i vb qs:=by
 have hto:KT [3,47,66,52] wr w':=⟨hk.size,fun b hb=>hk.blk b (by
  rintro rfl;obtain⟨cs',t',e1,e2⟩:=hb;unfold BoxAt at hbx;rw[hbx]at e1;cases e1
  exact absurd e2 ZD) hb.lt⟩
 refine⟨h.map,h.far,(hk.blk g9 h9 h.box.lt).trans h.box,h.hV.kt hto ZS (fun _ _ h=>h),own_kt h.hI hto ZS,?_,h.hp.turn (fun k e=>hk.blk k (h2 k e) (h.hp.lt e).2) (fun _ _ h=>h),fun j q hj hq=>⟨(h.el j q hj hq).1.kt hto ZS (fun _ _ h=>h.kt hto ZS),(h.el j q hj hq).2.kt hto ZS (fun _ _ h=>h.kt hto ZS)⟩,?_⟩
 · exact h.hq.turn (fun k e=>hk.blk k (h1 k e) (h.hq.lt e).2) (fun _ _ h=>⟨h.1,h.2.1,h.2.2.1.kt hto ZS (fun _ _ h=>h.kt hto ZS),h.2.2.2.kt hto ZS (fun _ _ h=>h.kt hto ZS)⟩)
 · exact h.bel.trans (hk.to_below (fun k hlt=>ZO) h.bel.size)
end
def trK(F:PFunc)(t:PTerm)(k:Nat):PTerm:={ t with t0:=if 0<k then(numP F (ith (endsOf t) 0).toNat:Int) else t.t0,t1:=if 1<k then(numP F (ith (endsOf t) 1).toNat:Int) else t.t1 }
theorem trK_other{F:PFunc}{t:PTerm}(h:¬(t.kind=1∧t.t0=t.t1)):trK F t (endsOf t).length=prTerm F t:=by
 unfold trK prTerm endsOf
 by_cases h0:t.kind=0
 · simp[h0,ith]
 · by_cases h1:t.kind=1
   · have h2:t.t0≠t.t1:=fun e=>h ⟨h1,e⟩
     simp[h1,h2,ith]
   · simp[h0,h1]
theorem trK_twin{F:PFunc}{t:PTerm}(h1:t.kind=1)(h2:t.t0=t.t1):({ trK F t (endsOf t).length with t1:=(trK F t (endsOf t).length).t0 }:PTerm)=prTerm F t:=by
 unfold trK prTerm endsOf;simp[h1,h2,ith]
def mixP(F:PFunc)(i k:Nat)(l:List PPhi):List PPhi:=(l.take k).map (prPhi F i)++l.drop k
section
variable {F:PFunc} {i k:Nat} {l:List PPhi}
theorem mixP_zero:mixP F i 0 l=l:=rfl
theorem mixP_len:(mixP F i k l).length=l.length:=by
 unfold mixP;rw[List.length_append,List.length_map,List.length_take,List.length_drop];omega
theorem mixP_at(h:k<l.length):(mixP F i k l)[k]?=some (l.getD k default):=by
 unfold mixP;rw[List.getElem?_append_right ZX];simp[List.length_take,Nat.min_eq_left (Nat.le_of_lt h),List.getD,h]
theorem mixP_set(h:k<l.length):(mixP F i k l).set k (prPhi F i (l.getD k default))=mixP F i (k+1) l:=by
 unfold mixP;have h1:((l.take k).map (prPhi F i)).length=k:=by simp;omega
 rw[List.set_append_right _ _ ZO,h1,Nat.sub_self,List.drop_eq_getElem_cons h,List.set_cons_zero,List.take_add_one,List.getElem?_eq_getElem h,List.map_append];simp[List.getD,h]
theorem mixP_end:mixP F i l.length l=l.map (prPhi F i):=by simp[mixP]
theorem keep_eq(hT:typedP F=true)(hi:i<F.blocks.length){a:Int}(h0:0≤a)(h1:a<F.blocks.length){nums:List Int}(hn:ith nums a.toNat=if thB F a.toNat=true then(numP F a.toNat:Int) else -1):keepF F i a=(((predsOf F).getD i []).contains a&&decide (0≤ith nums a.toNat)):=by
 have hr:(predsOf F).getD i []=ints (predRow F i F.blocks.length):=predsF_row hT hi _ (Nat.le_refl _);rw[hr,hn,Bool.eq_iff_iff,show keepF F i a=true↔leads (F.blk a.toNat).term (i:Int)=true∧thB F a.toNat=true from(by unfold keepF;rw[Bool.and_eq_true]),Bool.and_eq_true];have hm:(ints (predRow F i F.blocks.length)).contains a=true↔leads (F.blk a.toNat).term (i:Int)=true:=by
  rw[List.contains_iff_mem];unfold ints;rw[List.mem_map];constructor
  · rintro⟨b,hb,rfl⟩
    exact(predRow_mem.1 hb).2
  · intro h
    exact⟨a.toNat,predRow_mem.2 ⟨ZO,h⟩,ZX⟩
 rw[hm];cases thB F a.toNat<;>simp
end
theorem setCells_three{w:World}{b o:Nat}{x y z:Value}:w.setCells b o [x,y,z]=((w.setCell ⟨b,o,none⟩ x).setCell ⟨b,o+1,none⟩ y).setCell ⟨b,o+2,none⟩ z:=rfl
theorem phi_put{w:World}{base b9 g n cap k:Nat}{xs:List PPhi}{x':PPhi}{v9 v10:Value}(h:RRow w base 66 3 (CPh w) (.slice (some ⟨g,0,none⟩) n cap) xs)(hk:k<xs.length)(hT:Two w b9 v10 x'.froms v9 x'.args)(ha:x'.args.length≤1048576)(hf:x'.froms.length≤1048576) :
 RRow (w.setCells g (k*3) [.int .i64 x'.dst,v9,v10]) base 66 3 (CPh (w.setCells g (k*3) [.int .i64 x'.dst,v9,v10])) (.slice (some ⟨g,0,none⟩) n cap) (xs.set k x'):=by
 rw[setCells_three];obtain⟨cells,hO⟩:=h.own;obtain⟨A,c1,hv⟩:=h.form;simp only[Value.slice.injEq]at hv;obtain⟨-,rfl,-⟩:=hv;obtain⟨cur,hbox⟩:=own_box hO;have hKT:=(((KT.refl (ts:=[3]) (w:=w)).setCell hbox ZS (j:=k*3) (.int .i64 x'.dst)).setCell (hbox.set (k*3) _) ZS (j:=k*3+1) v9).setCell ((hbox.set (k*3) _).set (k*3+1) _) ZS (j:=k*3+2) v10;have q1:=own_kt hT.2.1 hKT ZS;have q2:=own_kt hT.1 hKT ZS;exact RRow.put3 h hk (fun _ _ h=>CPh.kt hKT ZS h) ⟨v9,v10,rfl,DInts.of_own q1 ha (own_nt q1 ZS),DInts.of_own q2 hf (own_nt q2 ZS)⟩
theorem kp_put{w a:World}{g o n cap:Nat}{x y z:Value}(h:Kp (fun b=>(Value.slice (some ⟨g,0,none⟩) n cap).ownBlock≠some b) a w):Kp (fun b=>(Value.slice (some ⟨g,0,none⟩) n cap).ownBlock≠some b) a (w.setCells g o [x,y,z]):=by
 rw[setCells_three];have hg:¬(Value.slice (some ⟨g,0,none⟩) n cap).ownBlock≠some g:=fun h=>h rfl
 exact((h.setCell (p:=⟨g,o,none⟩) hg x).setCell (p:=⟨g,o+1,none⟩) hg y).setCell (p:=⟨g,o+2,none⟩) hg z
theorem KT.of_box{w w':World}{gb:Nat}{cs:Array Value}(hk:Kp (fun b=>b≠gb) w w')(hbx:BoxAt w gb cs 42):KT [3,47,66,52] w w':=⟨hk.size,fun b hb=>hk.blk b (by
 rintro rfl;obtain⟨cs',t',e1,e2⟩:=hb;unfold BoxAt at hbx;rw[hbx]at e1;cases e1
 exact absurd e2 ZD) hb.lt⟩
def prCells(F:PFunc)(i:Nat)(vx vy:Value):List Value:=[.string (F.blk i).name,vx,vy,.int .i64 (F.blk i).term.kind,.int .i64 (F.blk i).term.var,.int .i64 (prTerm F (F.blk i).term).t0,.int .i64 (prTerm F (F.blk i).term).t1]
theorem prTerm_kind{F:PFunc}{t:PTerm}:(prTerm F t).kind=t.kind∧(prTerm F t).var=t.var:=by
 unfold prTerm;split
 · exact⟨rfl,rfl⟩
 · split<;>exact⟨rfl,rfl⟩
theorem PrI.snoc{F:PFunc}{wN wz w3:World}{g9 i:Nat}{v0 v1 vbs vq v' vx vy:Value}{ps qs:List (PBlock×Value×Value)}{cellsq:List Value}(h:PrI F wN wz g9 v0 v1 vbs ps (prBlks F i) (i+1) vq qs)(hth:thB F i=true)
 (hpi:ps[i]?=some (F.blk i,vx,vy)) (hpw:ps.Pairwise Before) (hOq:wz.ownsRow wN.heap.size 42 7 vq qs.length cellsq) (hown3:w3.ownsRow wN.heap.size 42 7 v' (qs.length+1) (cellsq++prCells F i vx vy))
 (hgg:(wz.alloc (.cells (prCells F i vx vy).toArray 42)).grownBy w3 vq.ownBlock) (hR:RRow wz wN.heap.size 66 3 (CPh wz) vx ((F.blk i).phis.map (prPhi F i))) (hI:RRow wz wN.heap.size 47 4 (CIn wz) vy (F.blk i).insts)
 (hnz:(F.blk i).name.size≤maxLen) (hvb:∀k,vbs.ownBlock=some k→vq.ownBlock≠some k) (hg9:wN.heap.size≤g9) :
 PrI F wN (w3.setCell ⟨g9,2,none⟩ v') g9 v0 v1 vbs ps (prBlks F (i+1)) (i+1) v' (qs++[(prBlk F i,vx,vy)]):=by
 have hgo3:BoxAt w3 g9 #[v0,v1,vq] 26:=(h.box.alloc _).grown hgg (own_box_ne hOq h.box ZD);have hK:KT [3,66,47,52] wz (w3.setCell ⟨g9,2,none⟩ v'):=((KT.refl.alloc _).grown (hOq.alloc _) ZS hgg).setCell hgo3 ZS _;have hil:i<ps.length:=(List.getElem?_eq_some_iff.1 hpi).1;have hip:ps[i]=(F.blk i,vx,vy):=(List.getElem?_eq_some_iff.1 hpi).2;refine⟨by rw[List.map_append,h.map,prBlks_yes hth];rfl,fun q hq j p hj hp=>?_,by simpa using hgo3.set 2 v',h.hV.kt hK ZS (fun _ _ h=>h),own_kt h.hI hK ZS,?_,?_,fun j q hj hq=>⟨(h.el j q hj hq).1.kt hK ZS (fun _ _ h=>h.kt hK ZS),(h.el j q hj hq).2.kt hK ZS (fun _ _ h=>h.kt hK ZS)⟩,?_⟩
 · rcases List.mem_append.1 hq with hq|hq
   · exact h.far q hq j p hj hp
   · rw[List.mem_singleton]at hq
     subst hq;have hjl:j<ps.length:=(List.getElem?_eq_some_iff.1 hp).1;have hjp:ps[j]=p:=(List.getElem?_eq_some_iff.1 hp).2;have hbe:=List.pairwise_iff_getElem.1 hpw i j hil hjl ZO;rw[hip,hjp]at hbe;exact⟨hbe.1,hbe.2⟩
 · refine RRow.snoc (cs:=prCells F i vx vy) h.hq hOq (ownsRow_setCell_other hown3 (fun e=>own_box_ne hown3 hgo3 ZD e) _) rfl (fun _ _ hc=>CBO.kt hK ZS ZS ZS hc) ?_
   refine⟨?_,hnz,hR.kt hK ZS (fun _ _ h=>h.kt hK ZS),hI.kt hK ZS (fun _ _ h=>h.kt hK ZS)⟩;show prCells F i vx vy=[.string (F.blk i).name,vx,vy,.int .i64 (prTerm F (F.blk i).term).kind,.int .i64 (prTerm F (F.blk i).term).var,.int .i64 (prTerm F (F.blk i).term).t0,.int .i64 (prTerm F (F.blk i).term).t1];rw[prTerm_kind.1,prTerm_kind.2];rfl
 · obtain⟨cellsp,hOp⟩:=h.hp.own
   refine h.hp.turn (fun k e=>?_) (fun _ _ h=>h);have hkl:=(h.hp.lt e).2;exact(heap_set (fun e2=>by subst e2;exact own_box_ne hOp h.box ZD e)).trans ((hgg.block k ZX (fun e2=>hvb k e e2.symm)).trans (heap_alloc_old wz _ hkl))
 · exact((h.bel.alloc h.bel.size _).grown hgg (by have:=h.bel.size;simp;omega) (fun k e=>(own_lt hOq e).1)).setCell hg9 _
theorem BoxAt.put6{w:World}{g:Nat}{t:TypeId}{a0 a1 a2 a3 a4 a5 a6 z:Value}(h:BoxAt w g #[a0,a1,a2,a3,a4,a5,a6] t):BoxAt (w.setCell ⟨g,6,none⟩ z) g #[a0,a1,a2,a3,a4,a5,z] t:=by
 simpa using h.set 6 z
end Go.Proofs.YtlhhfcleioikoaaGreatDoor
namespace Go.Proofs.YtlhhfcleioikoaaGreatDoor
open Go.RowKit
set_option maxRecDepth 100000
section
variable {α:Type} {p:α→Bool}
theorem firstIdx_spec:∀(l:List α) (i:Nat),(firstIdx p l i=-1∧l.filter (fun x=>!p x)=l)∨∃k,k<l.length∧firstIdx p l i=((i+k:Nat):Int)∧(l.take (k+1)).filter (fun x=>!p x)=l.take k
 |[],i=>.inl ⟨rfl,rfl⟩
 |x::r,i=>by
  unfold firstIdx;cases h:p x
  · rcases firstIdx_spec r (i+1)with⟨h1,h2⟩|⟨k,h1,h2,h3⟩
    · exact .inl ⟨by simpa using h1,by simp[h,h2]⟩
    · refine .inr ⟨k+1,by simpa using h1,?_,by rw[List.take_succ_cons,List.filter_cons,h3];simp[h]⟩
      simp only[Bool.false_eq_true,if_false,h2];omega
  · exact .inr ⟨0,ZS,ZS,by simp[h]⟩
structure DelI (p:α→Bool) (xs ys:List α) (i j:Nat):Prop where
 len:ys.length=xs.length
 lt:i<j
 le:j≤xs.length
 tk:ys.take i=(xs.take j).filter fun x=>!p x
 dr:ys.drop j=xs.drop j
variable {xs ys:List α} {i j:Nat}
theorem DelI.start{k:Nat}(hk:k<xs.length)(h:(xs.take (k+1)).filter (fun x=>!p x)=xs.take k):DelI p xs xs k (k+1):=⟨rfl,ZO,ZO,h.symm,rfl⟩
theorem DelI.at_(h:DelI p xs ys i j){x:α}(hx:xs[j]?=some x):ys[j]?=some x:=by
 have h1:=congrArg (·[0]?) h.dr;simp only[List.getElem?_drop,Nat.add_zero]at h1;rw[h1,hx]
theorem DelI.skip(h:DelI p xs ys i j)(hj:j<xs.length){x:α}(hx:xs[j]?=some x)(hp:p x=true):DelI p xs ys i (j+1):=by
 refine⟨h.len,by have:=h.lt;omega,hj,?_,?_⟩
 · rw[h.tk,List.take_add_one,hx,List.filter_append]
   simp[hp]
 · have:=congrArg (List.drop 1) h.dr
   simpa[List.drop_drop,Nat.add_comm]using this
theorem DelI.keep(h:DelI p xs ys i j)(hj:j<xs.length){x:α}(hx:xs[j]?=some x)(hp:p x=false):DelI p xs (ys.set i x) (i+1) (j+1):=by
 have hl:=h.len;have hlt:=h.lt;refine⟨by rw[List.length_set];exact h.len,ZO,hj,?_,?_⟩
 · rw[List.take_add_one,List.getElem?_set_self ZO,List.take_set_of_le (Nat.le_refl _),h.tk,List.take_add_one,hx,List.filter_append]
   simp[hp]
 · rw[List.drop_set_of_lt ZO]
   have:=congrArg (List.drop 1) h.dr;simpa[List.drop_drop,Nat.add_comm]using this
theorem DelI.fin(h:DelI p xs ys i xs.length):ys.take i=xs.filter (fun x=>!p x)∧i=(xs.filter fun x=>!p x).length:=by
 have h1:=h.tk;rw[List.take_length]at h1;have h2:=congrArg List.length h1;rw[List.length_take,h.len]at h2;have:=h.lt;exact⟨h1,ZO⟩
end
section
variable {w:World} {base e sz g n cap i:Nat} {xs:List Value}
theorem own_cut(h:w.ownsRow base e sz (.slice (some ⟨g,0,none⟩) n cap) n xs)(hi:i≤n):w.ownsRow base e sz (.slice (some ⟨g,0,none⟩) i cap) i (xs.take (i*sz)):=by
 obtain⟨h1,h2⟩:=h;have hm:=Nat.mul_le_mul_right sz hi;rcases h2 with⟨h0,_⟩|⟨g',cap',cur,hv,hg,hh,hn,hcap,hsz,htake⟩
 · cases h0
 · cases hv
   refine⟨by rw[List.length_take];omega,.inr ⟨g,cap,cur,rfl,hg,hh,ZO,hcap,hsz,?_⟩⟩;rw[← htake,List.take_take,Nat.min_eq_left hm]
theorem own_behind:∀(Z:List Value) {w:World} {o:Nat},w.ownsRow base e sz (.slice (some ⟨g,0,none⟩) n cap) n xs→xs.length≤o→(w.setCells g o Z).ownsRow base e sz (.slice (some ⟨g,0,none⟩) n cap) n xs
 |[],_,_,h,_=>h
 |z::Z,w,o,h,ho=>by
  have h1:=(h.stored o z).1;rw[List.set_eq_of_length_le ho]at h1;exact own_behind Z h1 ZO
theorem RRow.cut{α:Type}{C:List Value→α→Prop}{ys:List α}(h:RRow w base e sz C (.slice (some ⟨g,0,none⟩) n cap) ys)(hi:i≤ys.length):RRow w base e sz C (.slice (some ⟨g,0,none⟩) i cap) (ys.take i):=by
 obtain⟨A,c,hv⟩:=h.form;simp only[Value.slice.injEq]at hv;obtain⟨-,rfl,-⟩:=hv;obtain⟨ch,hl,hc,hr⟩:=h;have hcs:∀c∈ch,c.length=sz:=fun cs hm=>by
  obtain⟨k,hk,rfl⟩:=List.getElem_of_mem hm;exact(hc k _ (ys[k]'(ZO)) (by simp[hk]) ZS).1
 refine⟨ch.take i,by rw[List.length_take,List.length_take,hl],fun k cs x h1 h2=>?_,?_⟩
 · rw[List.getElem?_take]at h1 h2
   split at h1
   · rename_i hk
     rw[if_pos hk]at h2;exact hc k cs x h1 h2
   · cases h1
 · have h1:=own_cut hr hi
   have hf:ch.flatten.take (i*sz)=(ch.take i).flatten:=by
    have h2:((ch.take i).flatten).length=i*sz:=by
     have:∀l:List (List Value),(∀c∈l,c.length=sz)→l.flatten.length=l.length*sz:=fun l=>by
      induction l with
      |nil=>simp
      |cons a l ih=>
       intro hl;rw[List.flatten_cons,List.length_append,ih fun c hc=>hl c (List.mem_cons_of_mem _ hc),hl a (List.mem_cons_self ..),List.length_cons,Nat.succ_mul];omega
     rw[this _ fun c hc=>hcs c (List.mem_of_mem_take hc),List.length_take,hl,Nat.min_eq_left hi]
    have h3:ch.flatten=(ch.take i).flatten++(ch.drop i).flatten:=by rw[← List.flatten_append,List.take_append_drop]
    rw[h3,← h2];exact List.take_left
   rw[hf]at h1;rw[List.length_take,Nat.min_eq_left hi];exact h1
theorem RRow.behind{α:Type}{C C':List Value→α→Prop}{ys:List α}{Z:List Value}{o:Nat}(h:RRow w base e sz C (.slice (some ⟨g,0,none⟩) n cap) ys)(ho:ys.length*sz≤o)(hC:∀cs x,C cs x→C' cs x):RRow (w.setCells g o Z) base e sz C' (.slice (some ⟨g,0,none⟩) n cap) ys:=by
 obtain⟨A,c,hv⟩:=h.form;simp only[Value.slice.injEq]at hv;obtain⟨-,rfl,-⟩:=hv;obtain⟨ch,hl,hc,hr⟩:=h;exact⟨ch,hl,fun i cs x h1 h2=>⟨(hc i cs x h1 h2).1,hC _ _ (hc i cs x h1 h2).2⟩,own_behind Z hr (by rw[hr.1];exact ho)⟩
theorem Kp.setCells{D:Nat→Prop}{a:World}(hg:¬D g):∀(Z:List Value) {w:World} {o:Nat},Kp D a w→Kp D a (w.setCells g o Z)
 |[],_,_,h=>h
 |_::Z,_,_,h=>Kp.setCells hg Z (h.setCell hg _)
theorem KT.setCells{ts:List TypeId}{a:World}{t:TypeId}(ht:t∉ts):∀(Z:List Value) {w:World} {o:Nat} {cs:Array Value},KT ts a w→BoxAt w g cs t→KT ts a (w.setCells g o Z)
 |[],_,_,_,h,_=>h
 |_::Z,_,_,_,h,hb=>KT.setCells ht Z (h.setCell hb ht _) (hb.set _ _)
theorem flat_set4{a b c d:Value}:∀{ch:List (List Value)} {k:Nat},(∀c∈ch,c.length=4)→k<ch.length→(ch.set k [a,b,c,d]).flatten=(((ch.flatten.set (k*4) a).set (k*4+1) b).set (k*4+2) c).set (k*4+3) d
 |[],k,_,hk=>by simp at hk
 |c0::ch,k,hs,hk=>by
  have h0:=hs c0 ZS;obtain⟨x,y,z,u,rfl⟩:∃x y z u,c0=[x,y,z,u]:=by
   match c0,h0 with
   |[x,y,z,u],_=>exact⟨x,y,z,u,rfl⟩
  cases k with
  |zero=>simp
  |succ k=>
   have ih:=flat_set4 (a:=a) (b:=b) (c:=c) (d:=d) (ch:=ch) (k:=k) (fun c h=>hs c (by simp[h])) (by simpa using hk);rw[List.set_cons_succ,List.flatten_cons,ih,List.flatten_cons,show(k+1)*4=k*4+1+1+1+1 from ZO];simp only[List.cons_append,List.nil_append,List.set_cons_succ,show k*4+1+1+1+1+1=k*4+1+1+1+1+1 from rfl,show k*4+1+1+1+1+2=k*4+2+1+1+1+1 from rfl,show k*4+1+1+1+1+3=k*4+3+1+1+1+1 from rfl]
theorem RRow.put4{α:Type}{C C':List Value→α→Prop}{ys:List α}{a b c d:Value}{k:Nat}{x':α}(h:RRow w base e 4 C (.slice (some ⟨g,0,none⟩) n cap) ys)(hk:k<ys.length)
 (hC:∀cs x,C cs x→C' cs x) (hx:C' [a,b,c,d] x') :
 RRow ((((w.setCell ⟨g,k*4,none⟩ a).setCell ⟨g,k*4+1,none⟩ b).setCell ⟨g,k*4+2,none⟩ c).setCell ⟨g,k*4+3,none⟩ d) base e 4 C' (.slice (some ⟨g,0,none⟩) n cap) (ys.set k x'):=by
 obtain⟨A,c1,hv⟩:=h.form;simp only[Value.slice.injEq]at hv;obtain⟨-,rfl,-⟩:=hv;obtain⟨ch,hl,hc,hr⟩:=h;have hcs:∀c∈ch,c.length=4:=fun cs hm=>by
  obtain⟨i,hi,rfl⟩:=List.getElem_of_mem hm;exact(hc i _ (ys[i]'(ZO)) (by simp[hi]) ZS).1
 refine⟨ch.set k [a,b,c,d],by simp[hl],fun i cs x h1 h2=>?_,?_⟩
 · by_cases hi:k=i
   · subst hi
     simp[hl,hk]at h1 h2;subst h1 h2;exact⟨rfl,hx⟩
   · rw[List.getElem?_set_ne hi]at h1 h2
     exact⟨(hc i cs x h1 h2).1,hC _ _ (hc i cs x h1 h2).2⟩
 · rw[flat_set4 hcs ZO,List.length_set]
   exact((((hr.stored (k*4) a).1.stored (k*4+1) b).1.stored (k*4+2) c).1.stored (k*4+3) d).1
theorem run_clearZ{P:Program}(w:World)(t e ty:TypeId)(z:Value)(ht:P.underlying t=some (.slice e))(hv:∀w,(zeroValue e).run P w=.ok z w)(h1:∀v∈z.cells.toList,v.oneCell'=true)(b o n c:Nat)(hn:0<n)
 (hc:∀j,j<n*z.cells.size→(w.cell? ⟨b,o+j,none⟩).isSome=true) (hf:∀j,j<n*z.cells.size→w.frozen? ⟨b,o+j,none⟩=false) :
 (Builtin.clear_ #[t] ty #[.slice (some ⟨b,o,none⟩) n c]).run P w=.ok (.tuple #[]) (w.setCells b o (Builtin.zeroCells z.cells n).toList):=by
 have hl:(Builtin.zeroCells z.cells n).toList.length=n*z.cells.size:=by simp[Builtin.zeroCells]
 have hst:=run_storeCells_cells (P:=P) b o (Builtin.zeroCells z.cells n).toList 0 w (by rw[hl];simpa using hc) (by rw[hl];simpa using hf) (by
  intro v hv';simp only[Builtin.zeroCells,Array.toList_map,List.mem_map]at hv';obtain⟨i,hi,rfl⟩:=hv';have hi2:i<n*z.cells.size:=by simpa using hi
  have hp:0<z.cells.size:=Nat.pos_of_ne_zero fun h=>by rw[h]at hi2;omega
  have hm:=Nat.mod_lt i hp;rw[getElem!_pos z.cells _ hm]
  exact h1 _ ZS)
 simp only[Nat.add_zero]at hst;obtain⟨m,rfl⟩:∃m,n=m+1:=⟨n-1,ZO⟩;simp[Builtin.clear_,run_underlying ht,hv,hst]
end
end Go.Proofs.YtlhhfcleioikoaaGreatDoor
namespace Go.Proofs.YtlhhfcleioikoaaGreatDoor
open Go.RowKit
set_option maxRecDepth 100000
section
variable {α:Type}
theorem DRow.chunks{w:World}{D:Nat→Prop}{sz:Nat}{C:List Value→α→Prop}{v:Value}{xs:List α}(h:DRow w D sz C v xs) :
 ∃A c,∃ch:List (List Value),v=.slice A xs.length c∧ch.length=xs.length∧(∀(i:Nat) cs x,ch[i]?=some cs→xs[i]?=some x→cs.length=sz∧C cs x)∧(xs≠[]→∃a,A=some a∧∀j u,ch.flatten[j]?=some u→w.cell? (a.add j)=some u):=by
 obtain⟨A,c,rfl,-,-,hr⟩:=h;have hx:∀i:Fin xs.length,∃cs,cs.length=sz∧(∃b off,A=some ⟨b,off,none⟩∧∀j u,cs[j]?=some u→w.cell? ⟨b,off+i*sz+j,none⟩=some u)∧C cs xs[i]:=fun i=>by
  obtain⟨b,off,cs,h1,-,-,h2,h3,h4⟩:=hr i xs[i] ZS;exact⟨cs,h2,⟨b,off,h1,h3⟩,h4⟩
 obtain⟨fc,hfc⟩:=Classical.skolem.1 hx;refine⟨A,c,List.ofFn fc,rfl,ZS,fun i cs x e1 e2=>?_,fun hne=>?_⟩
 · rw[List.getElem?_ofFn]at e1
   have hi:i<xs.length:=(List.getElem?_eq_some_iff.1 e2).1;rw[dif_pos hi]at e1;cases e1;have e3:xs[i]=x:=(List.getElem?_eq_some_iff.1 e2).2;subst e3;exact⟨(hfc ⟨i,hi⟩).1,(hfc ⟨i,hi⟩).2.2⟩
 · have hp:0<xs.length:=List.length_pos_iff.2 hne
   have hall:∀c∈List.ofFn fc,c.length=sz:=fun c hc=>by
    obtain⟨i,rfl⟩:=List.mem_ofFn.1 hc;exact(hfc i).1
   obtain⟨-,⟨b,off,rfl,-⟩,-⟩:=hfc ⟨0,hp⟩;refine⟨_,rfl,fun j u hj=>?_⟩;have hjl:=(List.getElem?_eq_some_iff.1 hj).1;have hfl:(List.ofFn fc).flatten.length=xs.length*sz:=by
    rw[List.length_flatten,List.eq_replicate_of_mem (l:=(List.ofFn fc).map List.length) (a:=sz) (fun y hy=>by
     obtain⟨c,hc,rfl⟩:=List.mem_map.1 hy
     exact hall c hc)]
    simp
   rw[hfl]at hjl;have hs0:0<sz:=by
    rcases Nat.eq_zero_or_pos sz with rfl|h
    · simp at hjl
    · exact h
   obtain⟨i,k,hk,rfl⟩:∃i k,k<sz∧j=i*sz+k:=⟨j / sz,j%sz,Nat.mod_lt _ hs0,by rw[Nat.mul_comm];exact(Nat.div_add_mod j sz).symm⟩;have hi:i<xs.length:=by
    rcases Nat.lt_or_ge i xs.length with h|h
    · exact h
    · have:=Nat.mul_le_mul_right sz h
      omega
   have hci:(List.ofFn fc)[i]?=some (fc ⟨i,hi⟩):=by rw[List.getElem?_ofFn,dif_pos hi]
   rw[flat_at hall hci hk]at hj;obtain⟨-,⟨b',off',e1,e⟩,-⟩:=hfc ⟨i,hi⟩;cases e1;rw[Addr.add_lit,show off+(i*sz+k)=off+i*sz+k from ZO];exact e k u hj
theorem run_appendD{P:Program}{w:World}{base t ty:Nat}{e:TypeId}(sz bytes:Nat)(ht:P.underlying t=some (.slice e)){z:Value}(hinf:(P.info? e).map (fun i=>(i.zero,i.size,i.bytes))=some (some z,sz,bytes))(hz1:z.cells.size=sz)(hsz:0<sz)(hby:bytes≤64)
 {C:List Value→α→Prop} {D:Nat→Prop} {v u:Value} {xs ys:List α} (hR:RRow w base e sz C v xs) (hS:DRow w D sz C u ys) (hone:∀cs x,C cs x→∀y∈cs,y.oneCell'=true) (hn:xs.length+ys.length≤1048576) (hbase:base≤w.heap.size) :
 ∃A c w',(Builtin.append_ #[t,t] ty #[v,u]).run P w=.ok (.slice A (xs.length+ys.length) c) w'∧RRow w' base e sz C (.slice A (xs.length+ys.length) c) (xs++ys)∧w.grownBy w' v.ownBlock∧
  ((Value.slice A (xs.length+ys.length) c).ownBlock=v.ownBlock∨(Value.slice A (xs.length+ys.length) c).ownBlock=some w.heap.size):=by
 obtain⟨i,hi,hz,hisz,hb⟩:=info_parts hinf;obtain⟨B,cu,ch2,rfl,hl2,hc2,hrd⟩:=hS.chunks;obtain⟨ch,hl,hc,hr⟩:=hR
 by_cases h0:ys=[]
 · subst h0
   obtain⟨A,c,rfl⟩:=own_form hr;have hle:xs.length+0≤c:=by
    rcases hr.2 with⟨hv,h0⟩|⟨g,cap,cur,hv,-,-,hnc,-⟩
    · exact ZO
    · cases hv
      exact hnc
   refine⟨A,c,w,?_,⟨ch,by simpa using hl,by simpa using hc,by simpa using hr⟩,⟨rfl,rfl,rfl,Nat.le_refl _,fun _ _ _=>rfl⟩,.inl rfl⟩;cases B with
   |none=>
    cases A with
    |none=>simp[Builtin.append_,run_underlying ht,sizeOf,typeInfo,hi,Builtin.lenOf,Builtin.firstCells]<;>(intro h;omega)
    |some b=>simp[Builtin.append_,run_underlying ht,sizeOf,typeInfo,hi,Builtin.lenOf,Builtin.firstCells,storeCells]<;>(intro h;omega)
   |some a=>
    have hf:=run_firstCells_some (P:=P) w i.size 0 a 0 cu [] ZS ZS;cases A with
    |none=>simp[Builtin.append_,run_underlying ht,sizeOf,typeInfo,hi,Builtin.lenOf,hf]<;>(intro h;omega)
    |some b=>simp[Builtin.append_,run_underlying ht,sizeOf,typeInfo,hi,Builtin.lenOf,hf,storeCells]<;>(intro h;omega)
 · obtain⟨a,rfl,hcell⟩:=hrd h0
   have hall:∀c∈ch2,c.length=sz:=fun cs hm=>by
    obtain⟨i,hi,rfl⟩:=List.getElem_of_mem hm;exact(hc2 i _ (ys[i]'(ZO)) (by simp[hi]) ZS).1
   have hfl:ch2.flatten.length=ys.length*sz:=by
    rw[List.length_flatten,List.eq_replicate_of_mem (l:=ch2.map List.length) (a:=sz) (fun y hy=>by
     obtain⟨c,hc,rfl⟩:=List.mem_map.1 hy
     exact hall c hc)]
    simp[hl2]
   have h1:∀u∈ch2.flatten,u.oneCell'=true:=fun u hu=>by
    obtain⟨cs,hcs,hu⟩:=List.mem_flatten.1 hu;obtain⟨i,hi,rfl⟩:=List.getElem_of_mem hcs;exact hone _ _ (hc2 i _ (ys[i]'(ZO)) (by simp[hi]) ZS).2 u hu
   have hbytes:(xs.length+ys.length)*bytes≤140737488355328:=by
    calc(xs.length+ys.length)*bytes≤1048576*64:=Nat.mul_le_mul hn hby
     _≤140737488355328:=by decide
   obtain⟨v',w',hr2,h2,h3,-,h4⟩:=run_append_own_at (P:=P) (w:=w) base t ty e i z sz bytes ht hi hz hisz hb hz1 hsz v xs.length ch.flatten hr a ys.length cu ch2.flatten hfl hcell h1 (by unfold maxLen;omega) hbytes hbase;obtain⟨A,c,rfl⟩:=own_form h2;refine⟨A,c,w',hr2,⟨ch++ch2,by simp[hl,hl2],fun i cs x e1 e2=>?_,by rw[List.length_append,List.flatten_append];exact h2⟩,h3,h4⟩
   by_cases hi:i<ch.length
   · rw[List.getElem?_append_left hi]at e1
     rw[List.getElem?_append_left ZO]at e2;exact hc i cs x e1 e2
   · rw[List.getElem?_append_right ZO]at e1 e2
     rw[hl]at e1;exact hc2 _ cs x e1 e2
end
theorem bel_alloc(w:World)(o:Obj):Below w.heap.size w (w.alloc o):=(Below.refl _ _).alloc (Nat.le_refl _) _
theorem wpList_append_runD{P:Program}{ops:Array Oper}{rest:List Oper}{o:Oper}{a:Act}{w w':World}{Q:Exit→Act→World→Prop}(hgd:o.guard=none)(s x:Operand)(t:TypeId)(ho:o.op=.call { callee:=.builtin .append,args:=#[s,x],argTypes:=#[t,t] }){u y v:Value}(hs:a.eval s=u)(hx:a.eval x=y)
 (hrun:(Builtin.append_ #[t,t] o.type #[u,y]).run P w=.ok v w') (h:wpList P ops Q rest (a.put o.dst v) w'):wpList P ops Q (o::rest) a w:=
 wpList_plain hgd fun _ hK=>wp_append_run s x t ho hs hx hrun (hK _ _ h)
theorem wpList_oneI{ops:Array Oper}{rest:List Oper}{w:World}{B N n:Nat}{v:Value}{xs:List Int}{x:Int}{o:Oper}{a:Act}{Q:Exit→Act→World→Prop}(hgd:o.guard=none)(s z:Operand)(ho:o.op=.call { callee:=.builtin .append,args:=#[s,z],argTypes:=#[23,23] })(hty:o.type=23)
 (hs:a.eval s=v) (hz:a.eval z=.slice (some ⟨N,0,none⟩) 1 1) (h:w.ownsRow B 3 1 v n (xs.map (Value.int .i64))) (hc:w.cell? ⟨N,0,none⟩=some (.int .i64 x)) (hn:n<1048576) (hB:B≤w.heap.size)
 (hK:∀A c w',w'.ownsRow B 3 1 (.slice A (n+1) c) (n+1) ((xs++[x]).map (Value.int .i64))→w.grownBy w' v.ownBlock→Below B w w'→wpList Tryz.prog ops Q rest (a.put o.dst (.slice A (n+1) c)) w'):wpList Tryz.prog ops Q (o::rest) a w:=by
 obtain⟨i,hi,hz2,hsz,hb⟩:=info_parts Tryz.info3;obtain⟨v',w',hr,h2,h3,-,h4⟩:=run_append_own_at (P:=Tryz.prog) w B 23 23 3 i _ 1 8 Tryz.underlying23 hi hz2 hsz hb rfl ZD v n _ h ⟨N,0,none⟩ 1 1 [.int .i64 x] rfl
  (fun j u hj=>by
    match j,hj with
    |0,hj=>simp at hj;subst hj;exact hc) (by simp[Value.oneCell']) (by unfold maxLen;omega) ZO hB
 obtain⟨A,c,rfl⟩:=own_form h2;refine wpList_append_runD hgd s z 23 ho hs hz (by rw[hty];exact hr) (hK A c w' (by rw[List.map_append];exact h2) h3 ⟨h3.os,h3.tape,h3.output,h3.size,fun k hk=>h3.block k ZO (fun e=>by have:=(own_lt h e.symm).1;omega)⟩)
end Go.Proofs.YtlhhfcleioikoaaGreatDoor
namespace Go.Proofs.YtlhhfcleioikoaaGreatDoor
open Go.RowKit
set_option maxRecDepth 100000
section
variable {w w':World} {base g n cap:Nat} {e:TypeId}
theorem flat_setJ{sz:Nat}{u:Value}:∀{ch:List (List Value)} {k j:Nat},(∀c∈ch,c.length=sz)→k<ch.length→j<sz→(ch.set k ((ch.getD k []).set j u)).flatten=ch.flatten.set (k*sz+j) u
 |[],k,j,_,hk,_=>by simp at hk
 |c0::ch,0,j,hs,_,hj=>by
  have h0:=hs c0 (List.mem_cons_self ..);simp only[List.getD_cons_zero,List.set_cons_zero,List.flatten_cons,Nat.zero_mul,Nat.zero_add];rw[List.set_append_left _ _ ZO]
 |c0::ch,k+1,j,hs,hk,hj=>by
  have h0:=hs c0 (List.mem_cons_self ..);have ih:=flat_setJ (u:=u) (ch:=ch) (k:=k) (j:=j) (fun c h=>hs c (List.mem_cons_of_mem _ h)) (by simpa using hk) hj;simp only[List.getD_cons_succ,List.set_cons_succ,List.flatten_cons];have he:(k+1)*sz+j=c0.length+(k*sz+j):=by rw[Nat.succ_mul,h0];omega
  rw[ih,he,List.set_append_right _ _ ZO,Nat.add_sub_cancel_left]
theorem RRow.putJ{α:Type}{sz:Nat}{C C':List Value→α→Prop}{xs:List α}{i j:Nat}{u:Value}{x':α}(h:RRow w base e sz C (.slice (some ⟨g,0,none⟩) n cap) xs)(hi:i<xs.length)(hj:j<sz)
 (hC:∀(k:Nat) cs x,k≠i→xs[k]?=some x→C cs x→C' cs x) (hx:∀cs,C cs xs[i]→C' (cs.set j u) x'):RRow (w.setCell ⟨g,i*sz+j,none⟩ u) base e sz C' (.slice (some ⟨g,0,none⟩) n cap) (xs.set i x'):=by
 obtain⟨A,c1,hv⟩:=h.form;simp only[Value.slice.injEq]at hv;obtain⟨-,rfl,-⟩:=hv;obtain⟨ch,hl,hc,hr⟩:=h;have hcs:∀c∈ch,c.length=sz:=fun cs hm=>by
  obtain⟨i,hi,rfl⟩:=List.getElem_of_mem hm;exact(hc i _ (xs[i]'(ZO)) (by simp[hi]) ZS).1
 have hci:ch[i]?=some (ch.getD i []):=by simp[List.getD,hl,hi]
 have hci2:=hc i _ xs[i] hci (List.getElem?_eq_getElem hi);refine⟨ch.set i ((ch.getD i []).set j u),by simp[hl],fun k cs x h1 h2=>?_,?_⟩
 · by_cases hk:i=k
   · subst hk
     rw[List.getElem?_set_self ZO]at h1 h2;cases h1;cases h2;exact⟨by rw[List.length_set];exact hci2.1,hx _ hci2.2⟩
   · rw[List.getElem?_set_ne hk]at h1 h2
     exact⟨(hc k cs x h1 h2).1,hC k _ _ (fun e=>hk e.symm) h2 (hc k cs x h1 h2).2⟩
 · rw[flat_setJ hcs ZO hj,List.length_set]
   exact(hr.stored (i*sz+j) u).1
end
end Go.Proofs.YtlhhfcleioikoaaGreatDoor
namespace Go.Proofs.YtlhhfcleioikoaaGreatDoor
open Go Go.RowKit
set_option maxRecDepth 100000
def putsL(a:Act):List Tmp→List Value→Act
 |d::ds,v::vs=>putsL (a.put (some d) v) ds vs
 |_,_=>a
theorem put_comm{a:Act}{d e:Tmp}(h:d≠e)(u v:Value):(a.put (some d) u).put (some e) v=(a.put (some e) v).put (some d) u:=by
 simp only[Act.put,Act.mk.injEq,and_true];exact Array.setIfInBounds_comm u v h
theorem put_put{a:Act}{d:Tmp}(u v:Value):(a.put (some d) u).put (some d) v=a.put (some d) v:=by
 simp only[Act.put,Act.mk.injEq,and_true];simp
theorem put_self(a:Act)(d:Tmp):a.put (some d) (a.tmps.getD d undef)=a:=by
 obtain⟨t,df⟩:=a;simp only[Act.put,Act.mk.injEq,and_true];apply Array.ext_getElem?;intro i
 by_cases e:d=i
 · subst e
   by_cases hd:d<t.size
   · simp[hd]
   · simp[hd]
 · simp[Array.getElem?_setIfInBounds_ne e]
theorem putsL_out{d:Tmp}{v:Value}:∀{ds:List Tmp} {vs:List Value} {a:Act},d∉ds→(putsL a ds vs).put (some d) v=putsL (a.put (some d) v) ds vs
 |[],_,_,_=>by simp[putsL]
 |_::_,[],_,_=>by simp[putsL]
 |e::ds,u::vs,a,h=>by
  rw[putsL,putsL,putsL_out (fun hm=>h (by simp[hm])),put_comm (fun he=>h (by simp[he]))]
theorem putsL_set{v:Value}:∀{ds:List Tmp} {vs:List Value} {a:Act} {i:Nat},ds.Nodup→vs.length=ds.length→i<ds.length→(putsL a ds vs).put (some (ds.getD i 0)) v=putsL a ds (vs.set i v)
 |[],_,_,_,_,_,h=>by simp at h
 |_::_,[],_,_,_,h,_=>by simp at h
 |e::ds,u::vs,a,0,hn,_,_=>by
  rw[List.set_cons_zero,putsL,putsL,List.getD_cons_zero,putsL_out (List.nodup_cons.1 hn).1,put_put]
 |e::ds,u::vs,a,i+1,hn,hl,hi=>by
  rw[List.set_cons_succ,putsL,putsL,List.getD_cons_succ];exact putsL_set (List.nodup_cons.1 hn).2 (by simpa using hl) (by simpa using hi)
theorem putsL_self(a:Act):∀(ds:List Tmp),putsL a ds (ds.map fun d=>a.tmps.getD d undef)=a
 |[]=>rfl
 |d::ds=>by rw[List.map_cons,putsL,put_self,putsL_self]
theorem wp_built{P:Program}{o:Oper}{a:Act}{w:World}{K:Act→World→Prop}{Q:Exit→Act→World→Prop}{cells:Array Value}(t:TypeId)(parts:Array (Nat×Operand))(ho:o.op=.build t parts)
 (hc:P.built t (parts.map fun(i,x)=>(i,a.eval x)).toList=some cells) (h:K (a.put o.dst (.agg cells)) w):o.wp P a w K Q:=
 wp_build t parts ho (by rw[hc];rfl) (by rw[hc];exact h)
theorem len_cons{α:Type}{n:Nat}{vs:List α}(h:vs.length=n+1):∃v r,vs=v::r∧r.length=n:=by
 cases vs with
 |nil=>cases h
 |cons v r=>exact⟨v,r,rfl,by simpa using h⟩
section
variable {P:Program} {Q:Exit→Act→World→Prop}
theorem wp_region_mono{id:Nat}{a:Act}{w:World}{l:List Oper}(ds:List Tmp)(pr:Nat→World→Value→Prop)(hm:P.follows .mixedOrders=true)
 (hB:(downB l&&l.all fun o=>o.guard.isNone)=true) (hD:l.map (·.dst)=ds.map some) (hN:ds.Nodup)
 (mono:∀i w1 w2 v,i<l.length→Below w1.heap.size w1 w2→pr i w1 v→pr i w2 v)
 (step:∀i o vs w1,l[i]?=some o→vs.length=l.length→Below w.heap.size w w1→(∀j,(o.after.any fun e=>Region.binds .any e&&e.on==j)=true→pr j w1 (vs.getD j undef))→
   ∀K:Act→World→Prop,Shut (∀v a2 w2,a2=(putsL a ds vs).put o.dst v→Below w1.heap.size w1 w2→pr i w2 v→K a2 w2)→o.wp P (putsL a ds vs) w1 K Q)
 (fin:∀vs w1,vs.length=l.length→Below w.heap.size w w1→(∀i,i<l.length→pr i w1 (vs.getD i undef))→Q .normal (putsL a ds vs) w1):(Code.region id l.toArray true).wp P Q a w:=by
 have hdl:ds.length=l.length:=by simpa using(congrArg List.length hD).symm
 refine wp_region_word hm (fun a0 f a1 w1=>∃vs,vs.length=l.length∧a1=putsL a0 ds vs∧Below w.heap.size w w1∧∀i,i<l.length→f i=true→pr i w1 (vs.getD i undef)) hB
  ⟨ds.map fun d=>a.tmps.getD d undef,by simpa using hdl,(putsL_self a ds).symm,(Below.refl _ _).drew,fun _ _ h=>by cases h⟩ ?_ ?_
 · rintro f i o a1 w1 ho hf hd ⟨vs,hl,rfl,hb,hp⟩ K hK
   have hi:i<l.length:=(List.getElem?_eq_some_iff.1 ho).1;have hlt:∀j,(o.after.any fun e=>Region.binds .any e&&e.on==j)=true→j<l.length∧f j=true:=fun j hj=>by
    obtain⟨e,he,h2⟩:=Array.any_eq_true'.1 hj;rw[Bool.and_eq_true,beq_iff_eq]at h2;have h3:=hd e he h2.1;rw[h2.2]at h3;refine⟨?_,h3⟩;rw[Bool.and_eq_true]at hB;have h1:=List.all_eq_true.1 hB.1 i (List.mem_range.2 hi);rw[show l.getD i default=o by simp[List.getD_eq_getElem?_getD,ho],Array.all_eq_true']at h1;have h4:=h1 e he;simp only[decide_eq_true_eq]at h4;omega
   refine step i o vs w1 ho hl hb (fun j hj=>hp j (hlt j hj).1 (hlt j hj).2) K (fun v a2 w2 ha2 hb2 hv=>hK.out _ _ ?_);have hdst:o.dst=some (ds.getD i 0):=by
    have:=congrArg (fun x=>x[i]?) hD;simp only[List.getElem?_map,ho,Option.map_some]at this;rw[List.getElem?_eq_getElem ZO,Option.map_some,Option.some.injEq]at this;rw[this,List.getD_eq_getElem?_getD,List.getElem?_eq_getElem ZO];rfl
   refine⟨vs.set i v,by simpa using hl,by rw[ha2,hdst];exact putsL_set hN ZO ZO,hb.trans (hb2.mono hb.size),fun j hj hfj=>?_⟩
   by_cases e:j=i
   · subst e
     rw[List.getD_eq_getElem?_getD,List.getElem?_set_self ZO];exact hv
   · rw[List.getD_eq_getElem?_getD,List.getElem?_set_ne (fun x=>e x.symm),← List.getD_eq_getElem?_getD]
     rw[upd_ne e]at hfj;exact mono j _ _ _ hj hb2 (hp j hj hfj)
 · rintro f a1 w1 hf ⟨vs,hl,rfl,hb,hp⟩
   exact fin vs w1 hl hb fun i hi=>hp i hi (hf i hi)
end
def closeB(l:List Oper):Nat→List Nat→List Nat
 |0,s=>s
 |i+1,s=>closeB l i (if s.contains i then(((l.getD i default).after.toList.filter (Region.binds .any)).map (·.on)).foldl (fun s j=>if s.contains j then s else j::s) s else s)
theorem fold_mem{P:Nat→Prop}:∀{t s:List Nat},(∀j∈t,P j)→(∀j∈s,P j)→∀j∈t.foldl (fun s j=>if s.contains j then s else j::s) s,P j
 |[],_,_,h=>h
 |x::t,s,h1,h2=>by
  rw[List.foldl_cons];refine fold_mem (fun j hj=>h1 j (List.mem_cons_of_mem _ hj)) fun j hj=>?_
  split at hj
  · exact h2 j hj
  · rcases List.mem_cons.1 hj with rfl|hj
    · exact h1 _ (List.mem_cons_self ..)
    · exact h2 j hj
def ClosedD(l:List Oper)(f:Nat→Bool):Prop:=∀i o,l[i]?=some o→f i=true→∀e∈o.after,Region.binds .any e=true→f e.on=true
theorem closeB_ok{l:List Oper}{f:Nat→Bool}(hc:ClosedD l f):∀(n:Nat) (s:List Nat),n≤l.length→(∀j∈s,f j=true)→∀j∈closeB l n s,f j=true
 |0,_,_,h=>h
 |n+1,s,hn,h=>by
  rw[closeB];refine closeB_ok hc n _ ZO ?_;split
  · rename_i hs
    refine fold_mem (fun j hj=>?_) h;obtain⟨e,he,rfl⟩:=List.mem_map.1 hj;obtain⟨he,hb⟩:=List.mem_filter.1 he;have hg:l[n]?=some (l.getD n default):=by simp[List.getD_eq_getElem?_getD,show n<l.length from ZO]
    exact hc n _ hg (h n (by simpa using hs)) e (by simpa using he) hb
  · exact h
def waitsB(l:List Oper)(k:Nat):Bool:=(List.range k).all fun j=>(closeB l k (((l.getD k default).after.toList.filter (Region.binds .any)).map (·.on))).contains j
def lastB(l:List Oper)(n:Nat):Bool:=(List.range l.length).all fun k=>decide (k<n)||waitsB l k
theorem waitsB_ok{l:List Oper}{f:Nat→Bool}{k:Nat}(hc:ClosedD l f)(hk:k<l.length)(hw:waitsB l k=true)(hd:∀o,l[k]?=some o→∀e∈o.after,Region.binds .any e=true→f e.on=true):∀j,j<k→f j=true:=fun j hj=>by
 have hg:l[k]?=some (l.getD k default):=by simp[List.getD_eq_getElem?_getD,hk]
 have h1:=List.all_eq_true.1 hw j (List.mem_range.2 hj);refine closeB_ok hc k _ ZO (fun i hi=>?_) j (by simpa using h1);obtain⟨e,he,rfl⟩:=List.mem_map.1 hi;obtain⟨he,hb⟩:=List.mem_filter.1 he;exact hd _ hg e (by simpa using he) hb
section
variable {P:Program} {Q:Exit→Act→World→Prop}
theorem wp_region_monoL{id:Nat}{a:Act}{w:World}{l:List Oper}(ds:List Tmp)(pr:Nat→World→Value→Prop)(hm:P.follows .mixedOrders=true)
 (hB:(downB l&&l.all fun o=>o.guard.isNone)=true) (hA:lastB l ds.length=true) (hl1:ds.length<l.length) (hD:(l.take ds.length).map (·.dst)=ds.map some) (hN:ds.Nodup)
 (mono:∀i w1 w2 v,i<ds.length→Below w1.heap.size w1 w2→pr i w1 v→pr i w2 v)
 (step:∀i o vs w1,l[i]?=some o→i<ds.length→vs.length=ds.length→Below w.heap.size w w1→(∀j,(o.after.any fun e=>Region.binds .any e&&e.on==j)=true→pr j w1 (vs.getD j undef))→
   ∀K:Act→World→Prop,Shut (∀v a2 w2,a2=(putsL a ds vs).put o.dst v→Below w1.heap.size w1 w2→pr i w2 v→K a2 w2)→o.wp P (putsL a ds vs) w1 K Q)
 (last:∀vs w1,vs.length=ds.length→Below w.heap.size w w1→(∀i,i<ds.length→pr i w1 (vs.getD i undef))→wpList P l.toArray Q (l.drop ds.length) (putsL a ds vs) w1):(Code.region id l.toArray true).wp P Q a w:=by
 obtain⟨n,hn⟩:∃n,n=ds.length:=⟨_,rfl⟩;rw[← hn]at hA hl1 hD;have hdst:∀i o,l[i]?=some o→i<n→o.dst=some (ds.getD i 0):=fun i o ho hi=>by
  have:=congrArg (fun x=>x[i]?) hD;simp only[List.getElem?_map,List.getElem?_take]at this;rw[if_pos hi,ho,Option.map_some,List.getElem?_eq_getElem ZO,Option.map_some,Option.some.injEq]at this;rw[this,List.getD_eq_getElem?_getD,List.getElem?_eq_getElem ZO];rfl
 have hdn:∀(i:Nat) (o:Oper),l[i]?=some o→∀e∈o.after,e.on<i:=fun i o ho e he=>by
  rw[Bool.and_eq_true]at hB;have hi:i<l.length:=(List.getElem?_eq_some_iff.1 ho).1;have h1:=List.all_eq_true.1 hB.1 i (List.mem_range.2 hi);rw[show l.getD i default=o by simp[List.getD_eq_getElem?_getD,ho],Array.all_eq_true']at h1;simpa using h1 e he
 have hwt:∀k,n≤k→k<l.length→waitsB l k=true:=fun k h1 h2=>by
  have:=List.all_eq_true.1 hA k (List.mem_range.2 h2);rw[Bool.or_eq_true,decide_eq_true_eq]at this;rcases this with h|h
  · exact ZO
  · exact h
 have hgd:∀o∈l,o.guard=none:=fun o ho=>by
  rw[Bool.and_eq_true]at hB;have:=List.all_eq_true.1 hB.2 o ho;simpa using this
 refine wp_region_inv hm (fun f a1 w1=>ClosedD l f∧∃m,n+m≤l.length∧(∀j,n≤j→j<l.length→(f j=true↔j<n+m))∧
  (m=0→∃vs,vs.length=n∧a1=putsL a ds vs∧Below w.heap.size w w1∧∀i,i<n→f i=true→pr i w1 (vs.getD i undef))∧(0<m→wpList P l.toArray Q (l.drop (n+m)) a1 w1)) (by rw[Bool.and_eq_true]at hB;exact hB.1)
  ⟨fun _ _ _ h=>(by cases h),0,ZO,fun j h1 _=>⟨fun h=>(by cases h),fun h=>ZO⟩,fun _=>⟨ds.map fun d=>a.tmps.getD d undef,by rw[List.length_map,hn],(putsL_self a ds).symm,(Below.refl _ _).drew,fun _ _ h=>(by cases h)⟩,fun h=>absurd h (Nat.lt_irrefl _)⟩ ?_ ?_
 · rintro f i o a1 w1 ho hf hd ⟨hc,m,hm1,hm2,hv,hq⟩
   have hi:i<l.length:=(List.getElem?_eq_some_iff.1 ho).1;have hg:=hgd o (List.mem_of_getElem? ho);have hw:Region.wanted o (yielded l.toArray a1.tmps)=true:=by simp[Region.wanted,hg]
   rw[if_pos hw];have hc':ClosedD l (upd f i):=fun i' o' ho' hf' e he hb=>by
    by_cases e1:e.on=i
    · rw[e1,upd_self]
    · rw[upd_ne e1]
      by_cases e2:i'=i
      · subst e2
        rw[ho]at ho';cases ho';exact hd e he hb
      · rw[upd_ne e2]at hf'
        exact hc i' o' ho' hf' e he hb
   have hd':∀o',l[i]?=some o'→∀e∈o'.after,Region.binds .any e=true→f e.on=true:=fun o' ho' e he hb=>by rw[ho]at ho';cases ho';exact hd e he hb
   by_cases hin:i<n
   · have hm0:m=0:=by
      refine Nat.eq_zero_of_not_pos fun hp=>?_
      have hfn:f n=true:=(hm2 n (Nat.le_refl _) ZO).2 ZO;have:=waitsB_ok hc ZO (hwt n (Nat.le_refl _) ZO) (fun o' ho' e he hb=>hc n o' ho' hfn e he hb) i hin;rw[hf]at this;cases this
     subst hm0;obtain⟨vs,hl,rfl,hb,hp⟩:=hv rfl;refine .inl (step i o vs w1 ho ZO ZO hb (fun j hj=>?_) _ (fun v a2 w2 ha2 hb2 hv2=>⟨hc',0,hm1,fun j h1 h2=>?_,fun _=>?_,fun h=>absurd h (Nat.lt_irrefl _)⟩))
     · obtain⟨e,he,h2⟩:=Array.any_eq_true'.1 hj
       rw[Bool.and_eq_true,beq_iff_eq]at h2;have h3:=hd e he h2.1;have h4:=hdn i o ho e he;rw[h2.2]at h3 h4;exact hp j ZO h3
     · rw[upd_ne ZO]
       exact hm2 j h1 h2
     · refine⟨vs.set i v,by simpa using hl,by rw[ha2,hdst i o ho hin];exact putsL_set hN ZO ZO,hb.trans (hb2.mono hb.size),fun j hj hfj=>?_⟩
       by_cases e:j=i
       · subst e
         rw[List.getD_eq_getElem?_getD,List.getElem?_set_self ZO];exact hv2
       · rw[List.getD_eq_getElem?_getD,List.getElem?_set_ne (fun x=>e x.symm),← List.getD_eq_getElem?_getD]
         rw[upd_ne e]at hfj;exact mono j _ _ _ ZO hb2 (hp j hj hfj)
   · have hall:=waitsB_ok hc hi (hwt i ZO hi) hd'
     have him:i=n+m:=by
      have h1:¬i<n+m:=fun h=>by rw[(hm2 i ZO hi).2 h]at hf;cases hf
      have h2:¬n+m<i:=fun h=>by
       have h3:=hall (n+m) h;have:=(hm2 (n+m) ZO ZO).1 h3;omega
      omega
     subst him;have hL:wpList P l.toArray Q (l.drop (n+m)) a1 w1:=by
      by_cases hp:0<m
      · exact hq hp
      · obtain rfl:m=0:=by omega
        obtain⟨vs,hl,rfl,hb,hpr⟩:=hv rfl;have:=last vs w1 ZO hb (fun j hj=>hpr j ZO (hall j ZO));rw[← hn]at this;exact this
     have hcons:l.drop (n+m)=o::l.drop (n+(m+1)):=by
      rw[List.drop_eq_getElem_cons hi,show n+m+1=n+(m+1)from ZO];congr 1;exact(List.getElem?_eq_some_iff.1 ho).2
     rw[hcons,wpList,if_pos hw]at hL;refine hL.imp (fun h=>Oper.wp_mono (fun a2 w2 h2=>⟨hc',m+1,ZO,fun j h3 h4=>?_,fun h=>ZO,fun _=>h2⟩) h) (fun h=>h)
     by_cases e:j=n+m
     · subst e
       rw[upd_self];exact⟨fun _=>ZO,fun _=>rfl⟩
     · rw[upd_ne e,hm2 j h3 h4]
       omega
 · rintro f a1 w1 hf ⟨-,m,hm1,hm2,-,hq⟩
   have h1:=(hm2 (l.length-1) ZO ZO).1 (hf _ ZO);have h2:=hq ZO;rw[List.drop_eq_nil_of_le ZO,wpList]at h2;exact h2
end
end Go.Proofs.YtlhhfcleioikoaaGreatDoor
