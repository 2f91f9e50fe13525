/- What it means that memory holds a tree of dom. -/
import Derived.Test.YtjlclkcmfokobaaGreatDoorSlcZ
import Derived.Test.YtjlclkcmfokobaaGreatDoorWaysZ
import Derived.BigQuiet
import Derived.Deep.QuietTactic
import Derived.Test.YtjlclkcmfokobaaGreatDoorShelfZ
import Derived.Test.YtjlclkcmfokobaaGreatDoorSchZ
import Derived.Deep.LoopGhost
namespace Go.Proofs.YtjlclkcmfokobaaGreatDoor
open Go.RowKit
set_option maxRecDepth 100000
structure TreeD (w:World) (B:Nat) (tb n:Nat) (O:List Nat) (P:Nat→List Nat) (gn gl gk gf:Nat) (L V:List (Option Nat)):Prop where
 ht:tb<B
 near:NearOk n O P L
 lv:LvOk (·∈O) (fnO L) (fnO V)
 vn:V.length=n
 c0:w.cell? ⟨tb,0,none⟩=some (.slice (some ⟨gn,0,none⟩) n n)
 c1:w.cell? ⟨tb,1,none⟩=some (.slice (some ⟨gl,0,none⟩) n n)
 c2:w.cell? ⟨tb,2,none⟩=some (.slice (some ⟨gk,0,none⟩) n n)
 c3:w.cell? ⟨tb,3,none⟩=some (.slice (some ⟨gf,0,none⟩) n n)
 gn_:gn<B
 gl_:gl<B
 rn:∀i,i<n→w.cell? ⟨gn,i,none⟩=some (.int .i64 (YN (fnO (L.set 0 none) i)))
 rl:∀i,i<n→w.cell? ⟨gl,i,none⟩=some (.int .i64 (YN (fnO V i)))
 rk:Rd B (some ⟨gk,0,none⟩) ((List.range n).map fun x=>Yf (Ybf (L.set 0 none) x n)) 1 (RowC w B)
 rf:Rd B (some ⟨gf,0,none⟩) ((List.range n).map fun x=>Yf (YbE n (SF O P (L.set 0 none) (fnO L) O) x)) 1 (RowC w B)
def TreeV(w:World)(B:Nat)(v:Value)(n:Nat)(O:List Nat)(P:Nat→List Nat):Prop:=∃tb gn gl gk gf L V,v=.pointer (some ⟨tb,0,none⟩)∧TreeD w B tb n O P gn gl gk gf L V
section
variable {w w' wk:World} {B B' tb n gn gl gk gf g:Nat} {O:List Nat} {P:Nat→List Nat} {L V:List (Option Nat)}
theorem RowC.keep{b o:Nat}{x:List Int}(h:RowC w B b o x)(hb:b<B)(hk:Kept B w w')(hB:B≤B'):RowC w' B' b o x:=by
 obtain⟨v,h1,h2⟩:=h;exact⟨v,by rw[hk _ _ hb];exact h1,h2.keep hk hB⟩
theorem TreeD.keep(h:TreeD w B tb n O P gn gl gk gf L V)(hk:Kept B w w')(hB:B≤B'):TreeD w' B' tb n O P gn gl gk gf L V:=
 ⟨Nt h.ht hB,h.near,h.lv,h.vn,(hk _ _ h.ht).trans h.c0,(hk _ _ h.ht).trans h.c1,(hk _ _ h.ht).trans h.c2,(hk _ _ h.ht).trans h.c3,Nt h.gn_ hB,Nt h.gl_ hB,fun i hi=>(hk _ _ h.gn_).trans (h.rn i hi),fun i hi=>(hk _ _ h.gl_).trans (h.rl i hi),
   h.rk.keep hB fun _ _ _ hb hx=>RowC.keep hx hb hk hB,h.rf.keep hB fun _ _ _ hb hx=>RowC.keep hx hb hk hB⟩
theorem TreeV.keep{v:Value}(h:TreeV w B v n O P)(hk:Kept B w w')(hB:B≤B'):TreeV w' B' v n O P:=by
 obtain⟨tb,gn,gl,gk,gf,L,V,hv,hd⟩:=h;exact⟨tb,gn,gl,gk,gf,L,V,hv,hd.keep hk hB⟩
theorem Yit{e sz m:Nat}{v:Value}{xs:List Value}(h:w.ownsRow B e sz v m xs)(hk:∀b,v.ownBlock=some b→w'.heap[b]?=w.heap[b]?):w'.ownsRow B e sz v m xs:=by
 obtain⟨h1,h2⟩:=h;refine⟨h1,?_⟩;rcases h2 with h2|⟨g,cap,cur,rfl,hg,hh,r⟩
 · exact .inl h2
 · exact .inr ⟨g,cap,cur,rfl,hg,(hk g rfl).trans hh,r⟩
theorem OwnRows.only{ti te:TypeId}{av:Nat→Prop}{K:List (List Int)}(h:OwnRows wk B ti te gk av K)(o:Only gf wk w')(ha:av gf)(hne:gk≠gf):OwnRows w' B ti te gk av K:=by
 have hg:=h.blk.2;obtain⟨vs,h1,h2,h3,h4,h5⟩:=h;refine⟨vs,h1,Yit h2 (fun b hb=>by cases hb;exact o.kp gk hg hne),fun i v xs hv hx=>Yit (h3 i v xs hv hx) (fun b hb=>o.kp b (YG (h3 i v xs hv hx) hb).2 (fun e=>h5 i v b hv hb (by rw[e];exact ha))),h4,h5⟩
theorem OwnRows.rd{ti te:TypeId}{av:Nat→Prop}{K:List (List Int)}(h:OwnRows w B ti te g av K)(hn:K.length≤1048576)(hm:∀xs∈K,xs.length≤1048576):Rd w.heap.size (some ⟨g,0,none⟩) K 1 (RowC w w.heap.size):=by
 obtain⟨A,c,he,-,-,hr,-⟩:=h.ret (Br _ _) hn hm;simp only[Ending.returned.injEq,Value.slice.injEq]at he;rw[← he.1]at hr;exact hr
theorem Yni{L0:List (Option Nat)}{i:Nat}:Y7 L0 i=(List.range L0.length).map fun x=>Yf (Ybf L0 x i):=by
 refine List.ext_getElem (by simp[Ycy]) fun j h1 h2=>?_
 rw[Ycy]at h1;have:=YfH (i:=i) h1;rw[List.getD,List.getElem?_eq_getElem (by rw[Ycy];exact h1)]at this;simp at this;simp[this]
end
def inO(O:List Nat)(b:Int):Bool:=decide (0≤b∧b.toNat∈O)
theorem YdS{O:List Nat}{b:Nat}:inO O (b:Int)=decide (b∈O):=by
 unfold inO;have:(0:Int)≤(b:Int):=by omega
 simp
theorem Ynj{w:World}(b:Int):Calls Tryz.prog 97 #[.pointer none,.int .i64 b] w fun e w'=>e=.returned (.bool false)∧w'=w:=by
 go_enter Tryz.func97,Tryz.ntmps97;go_wp2;go_ret;exact⟨rfl,rfl⟩
section
variable {w:World} {tb n gn gl gk gf:Nat} {O:List Nat} {P:Nat→List Nat} {L V:List (Option Nat)}
theorem Ynk(g:GrOk n O P)(h:TreeD w w.heap.size tb n O P gn gl gk gf L V)(b:Int) :
 Calls Tryz.prog 97 #[.pointer (some ⟨tb,0,none⟩),.int .i64 b] w fun e w'=>e=.returned (.bool (inO O b))∧w'=w:=by
 have ht:=h.ht;have c1:=h.c1;have hgl:=h.gl_
 by_cases hb0:0≤b
 case neg=>
  have HF:=Lh (show inO O b=false by unfold inO;rw[decide_eq_false_iff_not];exact fun h=>hb0 h.1);go_enter Tryz.func97,Tryz.ntmps97;go_wp2;go_ret;exact⟨Yb HF.out.symm,rfl⟩
 obtain⟨x,rfl⟩:∃x:Nat,b=x:=⟨b.toNat,ZO⟩
 by_cases hbn:x<n
 case neg=>
  have hbn':¬(x:Int)<(n:Int):=by omega
  have HF:=Lh (show inO O (x:Int)=false by rw[YdS,decide_eq_false_iff_not];exact fun h=>hbn (g.lt x h));clear hbn;go_enter Tryz.func97,Tryz.ntmps97;go_wp2;go_ret;exact⟨Yb HF.out.symm,rfl⟩
 have hbn':(x:Int)<(n:Int):=by omega
 have hc:=h.rl x hbn;cases hv:fnO V x with
 |none=>
  have HF:=Lh (show inO O (x:Int)=false by rw[YdS,decide_eq_false_iff_not];exact fun h2=>h.lv.iff.2 h2 hv);rw[hv]at hc;replace hc:w.cell? ⟨gl,x,none⟩=some (.int .i64 (-1)):=hc;clear hv;go_enter Tryz.func97,Tryz.ntmps97;go_wp2;go_ret;exact⟨Yb HF.out.symm,rfl⟩
 |some k=>
  have HF:=Lh (show inO O (x:Int)=true by rw[YdS,decide_eq_true_eq];exact h.lv.iff.1 (by rw[hv];simp));rw[hv]at hc;replace hc:w.cell? ⟨gl,x,none⟩=some (.int .i64 (k:Int)):=hc;have hk:((k:Int) !=-1)=true:=by rw[bne_iff_ne];omega
  clear hv;go_enter Tryz.func97,Tryz.ntmps97;go_wp2;go_ret;exact⟨Yb HF.out.symm,rfl⟩
theorem YqK{w:World}(a b:Int):Calls Tryz.prog 55 #[.pointer none,.int .i64 a,.int .i64 b] w fun e w'=>e=.returned (.bool false)∧w'=w:=by
 go_enter Tryz.func55,Tryz.ntmps55;go_wp2_with(go_at_call 97;refine(Ynj _).mono ?_;rintro e w1 ⟨rfl,hw1⟩;subst w1);go_ret;exact⟨rfl,rfl⟩
open Classical in
noncomputable def YbI (O:List Nat) (L:List (Option Nat)) (a b:Int):Bool:=inO O a&&inO O b&&decide (Anc (fnO L) a.toNat b.toNat)
set_option maxHeartbeats 2000000 in
theorem Yiu(g:GrOk n O P)(h:TreeD w w.heap.size tb n O P gn gl gk gf L V)(a b:Int) :
 Calls Tryz.prog 55 #[.pointer (some ⟨tb,0,none⟩),.int .i64 a,.int .i64 b] w fun e w'=>e=.returned (.bool (YbI O L a b))∧∃m,w'=w.drewN m:=by
 have hh:=fun z=>Ynk g h z
 have ht:=h.ht;have c0:=h.c0;have c1:=h.c1;have hgl:=h.gl_;have hgn:=h.gn_;cases ha:inO O a
 · have HF:=Lh (show YbI O L a b=false by rw[YbI,ha];rfl)
   have h1:=hh a;rw[ha]at h1;clear ha;go_enter Tryz.func55,Tryz.ntmps55;go_wp2_with(go_at_call 97;refine h1.mono ?_;rintro e w1 ⟨rfl,hw1⟩;subst w1);go_ret;exact⟨Yb HF.out.symm,0,rfl⟩
 cases hb:inO O b
 · have HF:=Lh (show YbI O L a b=false by rw[YbI,ha,hb];rfl)
   have h1:=hh a;have h2:=hh b;rw[ha]at h1;rw[hb]at h2;clear ha hb;go_enter Tryz.func55,Tryz.ntmps55;go_wp2_with fail;refine h1.mono ?_;rintro e w1 ⟨rfl,hw1⟩;subst w1;go_wp2_with fail;refine h2.mono ?_;rintro e w1 ⟨rfl,hw1⟩;subst w1;go_wp2;go_ret;exact⟨Yb HF.out.symm,0,rfl⟩
 have h1:=hh a;have h2:=hh b;have ha':0≤a∧a.toNat∈O:=by unfold inO at ha;simpa using ha
 have hb':0≤b∧b.toNat∈O:=by unfold inO at hb;simpa using hb
 obtain⟨x,rfl⟩:∃x:Nat,a=x:=⟨a.toNat,ZO⟩;obtain⟨y,rfl⟩:∃y:Nat,b=y:=⟨b.toNat,ZO⟩;rw[Int.toNat_natCast]at ha' hb';have HF:=Lh (show YbI O L (x:Int) (y:Int)=true↔Anc (fnO L) x y by rw[YbI,ha,hb];simp);rw[ha]at h1;rw[hb]at h2;have HD:=Lh h;have G:=Lh g;have HX:=Lh ha'.2;have HY:=Lh hb'.2;have hxn:=g.lt x ha'.2;obtain⟨i,hi⟩:∃i,fnO V x=some i:=by
  cases hv:fnO V x with
  |none=>exact absurd hv (h.lv.iff.2 ha'.2)
  |some i=>exact⟨i,rfl⟩
 have hcx:=h.rl x hxn;rw[hi]at hcx;replace hcx:w.cell? ⟨gl,x,none⟩=some (.int .i64 (i:Int)):=hcx;have HI:=Lh hi;clear ha hb ha' hb' g h hh hi;go_enter Tryz.func55,Tryz.ntmps55;go_wp2_with fail;refine h1.mono ?_;rintro e w1 ⟨rfl,hw1⟩;subst w1;go_wp2_with fail;refine h2.mono ?_;rintro e w1 ⟨rfl,hw1⟩;subst w1;go_wp2
 go_loopw[2] (fun v2 wr=>∃z:Nat,v2=.int .i64 z∧Hid (z∈O∧(Anc (fnO L) x z↔Anc (fnO L) x y))∧Hid (∃m,wr=w.drewN m)) (fun v2 _=>pz n O (intOf v2).toNat)
 case atStart=>exact⟨y,rfl,⟨HY.out,Iff.rfl⟩,0,rfl⟩
 case round=>as_aux_lemma=>
  obtain⟨z,rfl,HZ,HM⟩:=hrel;have hb:Below w.heap.size w wr:=by
   obtain⟨m,e⟩:=HM.out;rw[e];exact YbD (Br _ _) m
  have hmore:=Lh (fun k=>show ∃m,wr.drewN k=w.drewN m by
   obtain⟨m,e⟩:=HM.out
   exact⟨m+k,by rw[e,World.drewN_drewN]⟩)
  have hzn:=G.out.lt z HZ.out.1;obtain⟨k,hk⟩:∃k,fnO V z=some k:=by
   cases hv:fnO V z with
   |none=>exact absurd hv (HD.out.lv.iff.2 HZ.out.1)
   |some i=>exact⟨i,rfl⟩
  have hcz:=HD.out.rl z hzn;rw[hk]at hcz;replace hcz:w.cell? ⟨gl,z,none⟩=some (.int .i64 (k:Int)):=hcz;replace hcz:=(hb.cell (p:=⟨gl,z,none⟩) hgl).trans hcz;have hcx':=(hb.cell (p:=⟨gl,x,none⟩) hgl).trans hcx;have c0':=(hb.cell (p:=⟨tb,0,none⟩) ht).trans c0;have c1':=(hb.cell (p:=⟨tb,1,none⟩) ht).trans c1;have ht':=Nt ht hb.size;have hgl':=Nt hgl hb.size;have hgn':=Nt hgn hb.size;have hcn:=(hb.cell (p:=⟨gn,z,none⟩) hgn).trans (HD.out.rn z hzn);have HK:=Lh hk;clear hk c0 c1 hcx
  by_cases hlt:i<k
  · have hlt':(i:Int)<(k:Int):=by omega
    have h0:z≠0:=HD.out.lv.pos HK.out ZO;obtain⟨p,j,hp,_,_⟩:=HD.out.lv.up h0 HK.out;rw[Yaz h0,hp]at hcn;replace hcn:wr.cell? ⟨gn,z,none⟩=some (.int .i64 (p:Int)):=hcn;have HP:=Lh hp;clear hp;go_wp2
    go_quiet (fail)
    go_wp2;go_roundw
    case rel=>exact⟨p,rfl,⟨(HD.out.near.tok.up h0 HP.out).2.1,(LvOk.step HI.out HK.out hlt h0 HP.out).symm.trans HZ.out.2⟩,hmore.out _⟩
    case measure=>
     have:=(HD.out.near.tok.up h0 HP.out).2.2.1;simpa[intOf]using this
  · have hlt':¬(i:Int)<(k:Int):=by omega
    clear hcn;go_wp2
    go_quiet (fail)
    go_wp2;go_ret;refine⟨Yb ?_,hmore.out _⟩;have h3:=HD.out.lv.stop HD.out.near.tok HI.out HK.out ZO;rw[Bool.eq_iff_iff,HF.out,← HZ.out.2,h3,beq_iff_eq];omega
theorem YqL(g:GrOk n O P)(h:TreeD w w.heap.size tb n O P gn gl gk gf L V)(a b:Int) :
 Calls Tryz.prog 55 #[.pointer (some ⟨tb,0,none⟩),.int .i64 a,.int .i64 b] w fun e w'=>e=.returned (.bool (YbI O L a b))∧Below w.heap.size w w':=
 (Yiu g h a b).mono fun _ _ h=>⟨h.1,by obtain⟨_,m,rfl⟩:=h;exact YbD (Br _ _) m⟩
end
end Go.Proofs.YtjlclkcmfokobaaGreatDoor
namespace Go.Proofs.YtjlclkcmfokobaaGreatDoor
open Go.RowKit Go.Sort
set_option maxRecDepth 100000
theorem T2.sort{wk wr w3:World}{B n gf c:Nat}{X:List (List Int)}(h:T2 wk wr B n gf X)(hg:gf<wk.heap.size)(hc:c<X.length){v:Value}(hv:wr.cell? ⟨gf,c,none⟩=some v)
 (hown:w3.ownsRow B 3 1 v (X.getD c []).length ((Ya0 (X.getD c [])).map (Value.int .i64))) (hgr:wr.grownBy w3 v.ownBlock):T2 wk w3 B n gf (X.set c (Ya0 (X.getD c []))):=by
 have hrow:=h.x.row hc hv;have hsz:=h.o.hb.size;refine⟨⟨h.o.hb.grown hgr ZO (fun k hk=>by have:=hrow.2 k hk;omega),fun k hk hne=>(hgr.block k ZO (fun e=>hrow.2 k e.symm hk)).trans (h.o.kp k hk hne)⟩,?_⟩;obtain⟨vs,h1,h2,h3,h4,h5⟩:=h.x;have hvc:vs[c]?=some v:=by
  have:=h2.cellAt c ZO;rw[hv]at this;exact this.symm
 refine⟨vs,by simpa using h1,?_,fun i vi xs hi hx=>?_,h4,h5⟩
 · have:=Yan h2 (Br _ _) hgr (fun b hb=>Y5 h2 hrow.1 ZD hb)
   simpa using this
 · by_cases hic:c=i
   · subst hic
     rw[List.getElem?_set_self ZO]at hx;simp only[Option.some.injEq]at hx;rw[hvc]at hi;simp only[Option.some.injEq]at hi;subst hx hi;rw[Yc6];exact hown
   · rw[List.getElem?_set_ne hic]at hx
     exact Yan (h3 i vi xs hi hx) (Br _ _) hgr (fun b hb hb'=>h4 c i v vi b hic hvc hi hb' hb)
theorem Yiv{w:World}{B n:Nat}{v:Value}{xs:List Int}(h:w.ownsRow B 3 1 v n (xs.map (Value.int .i64)))(hn:n≤1048576)(z:Int) :
 Calls Tryz.prog 125 #[v,.int .i64 z] w fun e w'=>e=.returned (.bool (xs.contains z))∧w'=w:=by
 have hl:xs.length=n:=by simpa using h.1
 obtain⟨A,c,rfl⟩:=Yp h
 by_cases h0:n=0
 · subst h0
   obtain rfl:=List.eq_nil_of_length_eq_zero hl;refine(Tryz.slices_Contains_int_empty A c z w).mono ?_;rintro e w' ⟨rfl,rfl⟩;exact⟨ZS,rfl⟩
 · obtain⟨m,rfl⟩:∃m,n=m+1:=⟨n-1,ZO⟩
   obtain⟨g,cap,hv,-⟩:=Ydu h;cases hv;refine(Tryz.slices_Contains_int g 0 (m+1) c xs z w ZO ZO (fun j hj=>?_)).mono ?_
   · have:=h.cellAt j ZO
     rw[Nat.zero_add,this];simp[List.getD,hj]
   · rintro e w' ⟨rfl,rfl⟩
     rw[← hl,List.take_length];exact⟨rfl,rfl⟩
def YaV(X:List (List Int))(i:Nat):List (List Int):=(List.range X.length).map fun x=>if x<i then Ya0 (X.getD x []) else X.getD x []
theorem Yiw{X:List (List Int)}{i:Nat}:(YaV X i).length=X.length:=by simp[YaV]
theorem Ynl{X:List (List Int)}:YaV X 0=X:=by
 refine List.ext_getElem (by simp[YaV]) fun i h1 h2=>?_
 simp[YaV,List.getD,h2]
theorem Yix{X:List (List Int)}{i:Nat}(hi:i<X.length):(YaV X i).getD i []=X.getD i []:=by simp[YaV,List.getD,hi]
theorem Ynm{X:List (List Int)}{i:Nat}:(YaV X i).set i (Ya0 (X.getD i []))=YaV X (i+1):=by
 refine List.ext_getElem (by simp[YaV]) fun j h1 h2=>?_
 rw[List.getElem_set]
 by_cases e:i=j
 · subst e;simp[YaV]
 · rw[if_neg e]
   have:(j<i)↔(j<i+1):=by omega
   simp[YaV,this]
def upO(n:Nat)(O:List Nat)(z:Int):Nat:=if z<0 then 0 else pz n O z.toNat+1
theorem Yiy{n:Nat}{O:List Nat}{x:Nat}:upO n O (x:Int)=pz n O x+1:=by
 unfold upO;rw[if_neg ZO];simp
set_option maxHeartbeats 8000000 in
theorem Ynn{w6 wk:World}{n gn gl gf tb B bo oo co cp gk:Nat}{O:List Nat}{P:Nat→List Nat}{L L0 V:List (Option Nat)}{PP:List (List Int)}{A6:Option Addr}(hW:Below w6.heap.size w6 wk)(hg6:w6.heap.size≤gf)(hgf:gf<wk.heap.size)
 (g:GrOk n O P) (n2:n≤64) (hOl:O.length≤64) (t:NearOk n O P L) (lv:LvOk (·∈O) (fnO L) (fnO V)) (hVn:V.length=n) (hL0:L0=L.set 0 none)
 (hbo:bo<w6.heap.size) (hO:Rd w6.heap.size (some ⟨bo,oo,none⟩) (Yf O) 1 (Yk w6)) (hP:Rd w6.heap.size A6 PP 1 (RowC w6 w6.heap.size)) (hPP:∀b,b<n→PP.getD b []=Yf (P b)) (hPl:PP.length=n) (hPn:∀b,(P b).length≤64)
 (ht:tb<wk.heap.size) (htf:tb≠gf) (c0:wk.cell? ⟨tb,0,none⟩=some (.slice (some ⟨gn,0,none⟩) n n)) (c1:wk.cell? ⟨tb,1,none⟩=some (.slice (some ⟨gl,0,none⟩) n n)) (c2:wk.cell? ⟨tb,2,none⟩=some (.slice (some ⟨gk,0,none⟩) n n)) (c3:wk.cell? ⟨tb,3,none⟩=some (.slice (some ⟨gf,0,none⟩) n n))
 (hn:RowO wk gn L0) (hnf:gn≠gf) (hl:RowO wk gl V) (hlf:gl≠gf) (hBk:B≤wk.heap.size) (hf:wk.ownsRow B 23 1 (.slice (some ⟨gf,0,none⟩) n n) n (List.replicate n (.slice none 0 0))) :
 Calls Tryz.prog 95 #[.pointer (some ⟨tb,0,none⟩),.slice (some ⟨bo,oo,none⟩) O.length co,.slice A6 n cp] wk fun e w'=>e=.returned (.tuple #[])∧
  ∃X,X=(List.range n).map (fun x=>Yf (YbE n (SF O P L0 (fnO L) O) x))∧T2 wk w' B n gf X:=by
 have n1:1≤n:=by obtain⟨r,hr⟩:=g.hd;have:=g.lt 0 (by rw[hr];simp);omega
 have hO0:0<O.length:=by obtain⟨r,hr⟩:=g.hd;rw[hr];simp
 have G:=Lh g;have TT:=Lh t;have LV:=Lh lv;have HL0:=Lh hL0;have HN:=Lh hn;have HL:=Lh hl;have hL0n:L0.length=n:=by rw[hL0,List.length_set];exact t.len
 have hOc:Hid (∀i,i<O.length→w6.cell? ⟨bo,oo+i,none⟩=some (.int .i64 ((O.getD i 0:Nat):Int))):=fun i hi=>by
  obtain⟨b,off,he,hb,hc⟩:=hO.int (Br _ _) (i:=i) (by simpa[Yf]using hi);cases he;rw[hc];simp[ith,Yf,List.getD,hi]
 obtain⟨bp,op,rfl,hbp,hPc⟩:=hP.rows ZO;replace hPc:Hid (∀b,b<n→∃A c,w6.cell? ⟨bp,op+b,none⟩=some (.slice A (P b).length c)∧(P b).length≤c∧Rd w6.heap.size A (Yf (P b)) 1 (Yk w6)):=fun b hb=>by
  obtain⟨A,c,h1,h2,h3⟩:=hPc b ZO;rw[hPP b hb]at h1 h2 h3;exact⟨A,c,by simpa[Yf]using h1,by simpa[Yf]using h2,h3⟩
 have hT0:T2 wk wk B n gf (List.replicate n []):=⟨Only.refl _ _,OwnRows.made hf⟩;have hCc:=Lh (And.intro c0 (And.intro c1 (And.intro c2 c3)));clear g t lv hL0 hn hl hO hP hPP hf c0 c1 c2 c3;go_enter Tryz.func95,Tryz.ntmps95;go_wp2
 go_loopw[14] (fun i wr=>∃(k:Nat) (X:List (List Int)),i=.int .i64 k∧k≤O.length∧Hid (FrI n (SF O P L0 (fnO L) (O.take k)) X)∧T2 wk wr B n gf X) (fun i _=>O.length-(intOf i).toNat)
 case atStart=>exact⟨0,_,rfl,Nz _,FrI.start (fun x b h=>by simp[SF]at h),hT0⟩
 case round=>as_aux_lemma=>
  clear hT0;obtain⟨k,X,rfl,hk,HX,hT⟩:=hrel;have hw6:Below w6.heap.size w6 wr:=hW.trans (hT.o.hb.mono hg6)
  by_cases hlt:k<O.length
  · have hlt3:(k:Int)<(O.length:Int):=by omega
    have hc:=(hw6.cell (p:=⟨bo,oo+k,none⟩) hbo).trans (hOc.out k hlt);have hbo':=Nt hbo hw6.size;have hbp':=Nt hbp hw6.size;have HBO:=Lh (show O.getD k 0∈O by rw[YL hlt];exact List.getElem_mem hlt);have HTK:=Lh (show O.take (k+1)=O.take k++[O.getD k 0] by rw[List.take_succ_eq_append_getElem hlt,YL hlt]);generalize O.getD k 0=b at *;have hbn:=G.out.lt b HBO.out;obtain⟨A9,c9,hcp,k9,r9⟩:=hPc.out b hbn;replace hcp:=(hw6.cell (p:=⟨bp,op+b,none⟩) hbp).trans hcp;have hpn:=hPn b;obtain⟨wq,rfl⟩:∃wq:World,wq=wr:=⟨_,rfl⟩;go_wp2
    go_loopw[23] (fun i wr=>∃(m:Nat) (X:List (List Int)),i=.int .i64 m∧m≤(P b).length∧Hid (FrI n (SP O P L0 (fnO L) (O.take k) b ((P b).take m)) X)∧T2 wk wr B n gf X) (fun i _=>(P b).length-(intOf i).toNat)
    case atStart=>exact⟨0,X,rfl,Nz _,HX.out.congr (fun x c _=>SP.start.symm),hT⟩
    case round=>as_aux_lemma=>
     clear hT HX hc hcp hw6 hbo' hbp';obtain⟨m,X,rfl,hm,HX,hT⟩:=hrel;have hw6:Below w6.heap.size w6 wr:=hW.trans (hT.o.hb.mono hg6)
     by_cases hml:m<(P b).length
     · have hml3:(m:Int)<((P b).length:Int):=by omega
       obtain⟨b9,o9,rfl,hb9,hc9⟩:=r9.int hw6 (i:=m) (by simpa[Yf]using hml);have hpe:ith (Yf (P b)) m=(((P b).getD m 0:Nat):Int):=by simp[ith,Yf,List.getD,hml]
       rw[hpe]at hc9;have hpm:=Lh (show(P b).getD m 0∈P b by rw[YL hml];exact List.getElem_mem hml);have htk:=Lh (show(P b).take (m+1)=(P b).take m++[(P b).getD m 0] by rw[List.take_succ_eq_append_getElem hml,YL hml]);clear hpe;generalize (P b).getD m 0=p at *;have hpb:=G.out.plt b _ hpm.out;have hsz:=hT.o.hb.size;have hV:=hT.o.rowO HL.out hlf;have hNr:=hT.o.rowO HN.out hnf;have hcv:=hV.2 p ZO;have hgl:=hV.1;have hgn:=hNr.1;have ht':=Nt ht hT.o.hb.size;have q0:=(hT.o.cell ht htf).trans hCc.out.1;have q1:=(hT.o.cell ht htf).trans hCc.out.2.1;have q3:=(hT.o.cell ht htf).trans hCc.out.2.2.2
       by_cases hpO:p∈O
       · obtain⟨lvl,hlv⟩:∃i,fnO V p=some i:=by
          cases h:fnO V p with
          |none=>exact absurd h (LV.out.iff.2 hpO)
          |some i=>exact⟨i,rfl⟩
         rw[hlv]at hcv;replace hcv:wr.cell? ⟨gl,p,none⟩=some (.int .i64 (lvl:Int)):=hcv;have hln:((lvl:Int)==-1)=false:=by rw[beq_eq_false_iff_ne];omega
         have HPO:=Lh hpO;clear hlv hpO;obtain⟨wu,rfl⟩:∃wu:World,wu=wr:=⟨_,rfl⟩;go_wp2
         go_loopw[10] (fun v10 wr=>∃(cur:Option Nat) (z0:Int) (X:List (List Int)),v10=.int .i64 z0∧Hid (z0=YN cur)∧Hid (Climb L0 (fnO L) b p cur∧FrI n (SC O P L0 (fnO L) (O.take k) b ((P b).take m) p cur) X)∧T2 wk wr B n gf X) (fun v10 _=>upO n O (intOf v10))
         case atStart=>exact⟨some p,p,X,rfl,rfl,⟨Climb.start TT.out HL0.out HBO.out hpm.out HPO.out,HX.out.congr (fun x c _=>SC.start.symm)⟩,hT⟩
         case round=>as_aux_lemma=>
          clear hT HX hcv hsz hV hNr hgl hgn ht' q0 q1 q3 hw6 hc9 hb9;obtain⟨cur,z0,X,rfl,HZ,HC,hT⟩:=hrel;have hw6:Below w6.heap.size w6 wr:=hW.trans (hT.o.hb.mono hg6);have hNr:=hT.o.rowO HN.out hnf;have hgn:=hNr.1;have ht':=Nt ht hT.o.hb.size;have q0:=(hT.o.cell ht htf).trans hCc.out.1;have q3:=(hT.o.cell ht htf).trans hCc.out.2.2.2;have hcb:=hNr.2 b ZO
          by_cases hstop:fnO L0 b=cur
          · rw[hstop,← HZ.out]at hcb
            have HF:=Lh (show FrI n (SP O P L0 (fnO L) (O.take k) b ((P b).take (m+1))) X from by
             rw[htk.out];refine HC.out.2.congr (fun x c _=>?_);rw[← hstop]
             exact SC.stop HPO.out)
            have e0:(z0 !=z0)=false:=by simp
            clear hstop;go_wp2;go_roundw
            case rel=>exact⟨m+1,X,ZN,ZO,HF.out,hT⟩
            case measure=>simp[intOf];omega
          · cases cur with
            |none=>exact absurd HC.out.1 hstop
            |some x=>
             obtain rfl:z0=(x:Int):=HZ.out;have hne:((x:Int) !=YN (fnO L0 b))=true:=by
              rw[bne_iff_ne];intro e;apply hstop;cases h:fnO L0 b with
              |none=>rw[h]at e;simp[YN]at e
              |some q=>rw[h]at e;simp[YN]at e;rw[show q=x from ZO]
             have HST:=Lh hstop;generalize YN (fnO L0 b)=z at *;have hxO:x∈O:=TT.out.tok.rr G.out.gok (((TT.out.tok.anc HC.out.1.1).2) (TT.out.all HPO.out));have hxn:=G.out.lt x hxO;have hcx:=hNr.2 x ZO;have hXn:=HC.out.2.len;obtain⟨v,hcv,hown⟩:=hT.x.at_ (c:=x) ZO;have hgfl:=hT.x.blk.2;have hmeas:Hid (upO n O (YN (fnO L0 x))<upO n O (x:Int)):=by
              unfold Hid;rw[Yiy];cases h:fnO L0 x with
              |none=>simp[upO,YN]
              |some q=>
               have h0:x≠0:=fun e=>by
                rw[e,HL0.out,Yhr (by rw[TT.out.len];omega)]at h;cases h
               rw[HL0.out,Yaz h0]at h;have:=(TT.out.tok.up h0 h).2.2.1;show upO n O (q:Int)<_;rw[Yiy];omega
             have HCL:=Lh (HC.out.1.step HL0.out (by exact HST.out));have hle64:(X.getD x []).length≤64:=by
              have:=HC.out.2.row_le hxn (fun c hc=>by
               rcases hc with(⟨h1,_⟩|⟨h1,_⟩)|⟨h1,_⟩
               · exact G.out.lt c (List.mem_of_mem_take h1)
               · rw[h1];exact hbn
               · rw[h1];exact hbn)
              omega
             have hle:(X.getD x []).length≤1048576:=by omega
             have hhas:=HC.out.2.has (b:=b) hxn;have hsc:=fun y c=>SC.step (O:=O) (P:=P) (l:=O.take k) (b:=b) (ps:=(P b).take m) (y:=y) (c:=c) TT.out HL0.out HC.out.1.1
             clear hstop;cases hct:(X.getD x []).contains (b:Int)
             · have hT':=hT.below hgf ((Br wr.heap.size wr).drew)
               have hBw:B≤wr.heap.size:=Nat.le_trans hBk hT.o.hb.size;have hcon:=Yiv hown hle (b:Int);rw[hct]at hcon;obtain⟨Av,cv,rfl⟩:=Yp hown;have hownD:wr.drew.ownsRow B 3 1 (.slice Av (X.getD x []).length cv) (X.getD x []).length ((X.getD x []).map (Value.int .i64)):=hown;obtain⟨v',w3,hrun,hown3,hg3,hfr3⟩:=Yhq (P:=Tryz.prog) (ty:=23) wr.drew B 3 8 Tryz.underlying23 Tryz.info3 rfl _ _ _ hownD (.int .i64 (b:Int)) rfl ZO ZD hBw;obtain⟨hT3,hm1,hm2,hm3,hO3⟩:=hT'.add hgf ZO hcv hown3 hg3 hfr3;obtain⟨Av',cv',rfl⟩:=Yp hown3;replace hrun:(Builtin.append_ #[23,23] 23 #[.slice Av (X.getD x []).length cv,.slice (some ⟨wr.heap.size,0,none⟩) 1 1]).run Tryz.prog (wr.alloc (.cells #[.int .i64 (b:Int)] 3)).drew=.ok (.slice Av' ((X.getD x []).length+1) cv') w3:=hrun;have HT3:=Lh hT3;have HX2:=Lh (HC.out.2.add (S':=SC O P L0 (fnO L) (O.take k) b ((P b).take m) p (fnO L0 x)) hxn (fun h=>by rw[hhas.2 h]at hct;cases hct) hsc);have s0:=(hO3.cell ht htf).trans hCc.out.1;have s3:=(hO3.cell ht htf).trans hCc.out.2.2.2;have hN3:=hO3.rowO HN.out hnf;have sx:=hN3.2 x ZO;have st:=Nt ht hO3.hb.size;have sn:=hN3.1;have htf':gf≠tb:=fun e=>htf e.symm
               have hnf':gf≠gn:=fun e=>hnf e.symm
               generalize (X.getD x []).length=len at *;generalize hen:YN (fnO L0 x)=zz at *;have HEN:=Lh hen;clear hct hhas hsc hown hownD hown3 hg3 hfr3 hT3 hO3 hT' hN3 hen hNr hXn;go_wp2_with(go_at_call 125;refine hcon.mono ?_;rintro e w9 ⟨rfl,hw9⟩;subst w9);obtain⟨S0,hS0⟩:∃S0:World→Prop,S0=fun w'=>w'.cell? ⟨tb,3,none⟩=some (.slice (some ⟨gf,0,none⟩) n n)∧w'.cell? ⟨gf,x,none⟩=some (.slice Av len cv)∧tb<w'.heap.size∧gf<w'.heap.size:=⟨_,rfl⟩
               have HS0:=Lh hS0;clear hS0;have k0:=fun xw=>(WS.at HS0 xw).1
               have k1:=fun xw=>(WS.at HS0 xw).2.1
               have k2:=fun xw=>(WS.at HS0 xw).2.2.1
               have k3:=fun xw=>(WS.at HS0 xw).2.2.2
               refine Yb0 (S:=S0) [16] ZK ?hS (fun hSc hcl=>?_)
               case hS=>
                rw[HS0.out];exact⟨ZI,ZI,ZJ,ZJ⟩
               have hne0:Nonempty (WS S0):=⟨⟨_,hSc⟩⟩;have hneT:Nonempty (WS (fun _=>True)):=match hne0 with|⟨x⟩=>⟨⟨x.w,trivial⟩⟩
               refine Ya5 [(0,0),(1,0),(2,0),(3,0),(4,0),(5,0),(6,0),(7,0),(8,0),(9,0),(10,0),(11,0),(12,0),(13,1),(14,1),(15,0)] 1 rfl ZK (fun _ _ _ _ _ h=>h) hSc hcl ?_
               all_goals
                (try simp only[List.map_cons,List.map_nil,Ld,Le])
                repeat
                 first
                 |((with_reducible refine Ya6 ?_ ?_);exact rfl;dsimp only;go_big_quiet_step (fail);(try with_reducible refine wpQuiet_nil ?_);(try dsimp only))
                 |((with_reducible refine Ya7 ?_ ?_);exact rfl;dsimp only;go_big_quiet_step (fail);(try with_reducible refine wpQuiet_nil ?_);(try dsimp only))
                 |((with_reducible refine Ybe ?_ ?_ (fun K hK=>?_))
                   exact rfl;exact rfl;dsimp only
                   first
                   |(refine Yc5 _ _ _ rfl rfl rfl hrun ?_;simp only[Act.put,La,Lz,Lc])
                   |(go_simp)
                   refine hK.out _ _ ?hS (fun hSc=>?_)
                   case hS=>
                    first
                    |exact hSc
                    |(rw[HS0.out]at hSc ⊢;obtain⟨p0,p1,p2,p3⟩:=hSc;exact⟨ZC0,ZC1,ZT2,ZT3⟩)
                   clear hK K)
                (try(refine Ya8 ?_;intro hSc hcl))
               all_goals
                refine Yb1 [16] rfl ZK ?_;simp only[List.map_cons,List.map_nil,Ld,Le];rw[HS0.out]at hSc;obtain⟨p0,p1,p2,p3⟩:=hSc;clear hne0 hneT hcl HS0 k0 k1 k2 k3;go_wp2;go_roundw
                (case rel=>exact⟨fnO L0 x,zz,_,rfl,HEN.out.symm,⟨HCL.out,HX2.out⟩,HT3.out⟩)
                (case measure=>have:=hmeas.out;simpa[intOf]using this)
             · have hcon:=Yiv hown hle (b:Int)
               rw[hct]at hcon;obtain⟨Av,cv,rfl⟩:=Yp hown
               have HX2:=Lh (HC.out.2.congr (S':=SC O P L0 (fnO L) (O.take k) b ((P b).take m) p (fnO L0 x)) (fun y c _=>⟨fun h=>(hsc y c).2 (.inl h),fun h=>by
                rcases(hsc y c).1 h with h|⟨rfl,rfl⟩
                · exact h
                · exact hhas.1 hct⟩))
               generalize (X.getD x []).length=len at *;generalize hen:YN (fnO L0 x)=zz at *;have HEN:=Lh hen;clear hct hhas hsc hown hen hXn;go_wp2_with(go_at_call 125;refine hcon.mono ?_;rintro e w9 ⟨rfl,hw9⟩;subst w9);go_roundw
               case rel=>exact⟨fnO L0 x,zz,_,rfl,HEN.out.symm,⟨HCL.out,HX2.out⟩,hT⟩
               case measure=>have:=hmeas.out;simpa[intOf]using this
       · have hvn:fnO V p=none:=by
          cases h:fnO V p with
          |none=>rfl
          |some i=>exact absurd (LV.out.iff.1 (by rw[h];simp)) hpO
         rw[hvn]at hcv;replace hcv:wr.cell? ⟨gl,p,none⟩=some (.int .i64 (-1)):=hcv;have HPO:=Lh hpO;clear hvn hpO;go_wp2;go_roundw
         case rel=>exact⟨m+1,X,ZN,ZO,by unfold Hid;rw[htk.out];exact HX.out.congr (fun x c _=>(SP.out HPO.out).symm),hT⟩
         case measure=>simp[intOf];omega
     · obtain rfl:m=(P b).length:=by omega
       rw[List.take_length]at HX;go_wp2;go_roundw
       case rel=>exact⟨k+1,X,ZN,ZO,by unfold Hid;rw[HTK.out];exact HX.out.congr (fun x c _=>SP.stop),hT⟩
       case measure=>simp[intOf];omega
  · obtain rfl:k=O.length:=by omega
    rw[List.take_length]at HX;have hXn:=HX.out.len;have hSn:=Lh (fun x b (h:SF O P L0 (fnO L) O x b)=>G.out.lt b h.1);have hrl:=Lh (fun x (hx:x<n)=>HX.out.row_le hx (hSn.out x));have ht':=Nt ht hT.o.hb.size;have q3:=(hT.o.cell ht htf).trans hCc.out.2.2.2;obtain⟨X0,rfl⟩:∃X0,X0=X:=⟨_,rfl⟩;go_wp2
    go_loopw[85] (fun i wr=>∃k:Nat,i=.int .i64 k∧k≤n∧T2 wk wr B n gf (YaV X0 k)) (fun i _=>n-(intOf i).toNat)
    case atStart=>exact⟨0,rfl,Nz _,by rw[Ynl];exact hT⟩
    case round=>as_aux_lemma=>
     clear hT ht' q3 hw6;obtain⟨k,rfl,hk,hT⟩:=hrel;have ht':=Nt ht hT.o.hb.size;have q3:=(hT.o.cell ht htf).trans hCc.out.2.2.2
     by_cases hkl:k<n
     · have hkl3:(k:Int)<(n:Int):=by omega
       obtain⟨v,hcv,hown⟩:=hT.x.at_ (c:=k) (by rw[Yiw,hXn];exact hkl);have hle:((YaV X0 k).getD k []).length≤1048576:=by rw[Yix ZO];have:=hrl.out k hkl;omega
       have hgfl:=hT.x.blk.2;go_wp2_with fail;refine(YlK hown hle).mono ?_;rintro e w9 ⟨rfl,ho9,hg9⟩;have hT9:=hT.sort hgf (by rw[Yiw,hXn];exact hkl) hcv ho9 hg9;rw[Yix ZO,Ynm]at hT9;go_wp2;go_roundw
       case rel=>exact⟨k+1,ZN,ZO,hT9⟩
       case measure=>simp[intOf];omega
     · obtain rfl:k=n:=by omega
       go_wp2;go_end0;refine⟨rfl,_,rfl,?_⟩;have e:YaV X0 k=(List.range k).map (fun x=>Yf (YbE k (SF O P L0 (fnO L) O) x)):=by
        unfold YaV;rw[hXn];refine List.map_congr_left fun x hx=>?_
        have hx':=List.mem_range.1 hx;rw[if_pos hx'];exact HX.out.sorted hx' (hSn.out x)
       rw[← e];exact hT
end Go.Proofs.YtjlclkcmfokobaaGreatDoor
