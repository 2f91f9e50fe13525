/- What it means that memory holds a tree of dom. No program is walked here. The walks of the methods of dom's tree. -/
import Derived.Test.YtlhhfcleioikoaaGreatDoorSlc
import Derived.Test.YtlhhfcleioikoaaGreatDoorWays
import Derived.BigQuiet
import Derived.Deep.QuietTactic
namespace Go.Proofs.YtlhhfcleioikoaaGreatDoor
open Go.RowKit
set_option maxRecDepth 100000
structure TreeD (w:World) (B:Nat) (tb n:Nat) (O:List Nat) (P:Nat→List Nat) (gn gl gk gf:Nat) (L V:List (Option Nat)):Prop where
 ht:tb<B
 near:NearOk n O P L
 lv:LvOk (·∈O) (fnO L) (fnO V)
 vn:V.length=n
 c0:w.cell? ⟨tb,0,none⟩=some (.slice (some ⟨gn,0,none⟩) n n)
 c1:w.cell? ⟨tb,1,none⟩=some (.slice (some ⟨gl,0,none⟩) n n)
 c2:w.cell? ⟨tb,2,none⟩=some (.slice (some ⟨gk,0,none⟩) n n)
 c3:w.cell? ⟨tb,3,none⟩=some (.slice (some ⟨gf,0,none⟩) n n)
 gn_:gn<B
 gl_:gl<B
 rn:∀i,i<n→w.cell? ⟨gn,i,none⟩=some (.int .i64 (encO (fnO (L.set 0 none) i)))
 rl:∀i,i<n→w.cell? ⟨gl,i,none⟩=some (.int .i64 (encO (fnO V i)))
 rk:Rd B (some ⟨gk,0,none⟩) ((List.range n).map fun x=>ints (kidRow (L.set 0 none) x n)) 1 (RowC w B)
 rf:Rd B (some ⟨gf,0,none⟩) ((List.range n).map fun x=>ints (frontL n (SF O P (L.set 0 none) (fnO L) O) x)) 1 (RowC w B)
def TreeV(w:World)(B:Nat)(v:Value)(n:Nat)(O:List Nat)(P:Nat→List Nat):Prop:=∃tb gn gl gk gf L V,v=.pointer (some ⟨tb,0,none⟩)∧TreeD w B tb n O P gn gl gk gf L V
section
variable {w w' wk:World} {B B' tb n gn gl gk gf g:Nat} {O:List Nat} {P:Nat→List Nat} {L V:List (Option Nat)}
theorem RowC.keep{b o:Nat}{x:List Int}(h:RowC w B b o x)(hb:b<B)(hk:Kept B w w')(hB:B≤B'):RowC w' B' b o x:=by
 obtain⟨v,h1,h2⟩:=h;exact⟨v,by rw[hk _ _ hb];exact h1,h2.keep hk hB⟩
theorem TreeD.keep(h:TreeD w B tb n O P gn gl gk gf L V)(hk:Kept B w w')(hB:B≤B'):TreeD w' B' tb n O P gn gl gk gf L V:=
 ⟨Nat.lt_of_lt_of_le h.ht hB,h.near,h.lv,h.vn,(hk _ _ h.ht).trans h.c0,(hk _ _ h.ht).trans h.c1,(hk _ _ h.ht).trans h.c2,(hk _ _ h.ht).trans h.c3,Nat.lt_of_lt_of_le h.gn_ hB,Nat.lt_of_lt_of_le h.gl_ hB,fun i hi=>(hk _ _ h.gn_).trans (h.rn i hi),fun i hi=>(hk _ _ h.gl_).trans (h.rl i hi),
   h.rk.keep hB fun _ _ _ hb hx=>RowC.keep hx hb hk hB,h.rf.keep hB fun _ _ _ hb hx=>RowC.keep hx hb hk hB⟩
theorem TreeV.keep{v:Value}(h:TreeV w B v n O P)(hk:Kept B w w')(hB:B≤B'):TreeV w' B' v n O P:=by
 obtain⟨tb,gn,gl,gk,gf,L,V,hv,hd⟩:=h;exact⟨tb,gn,gl,gk,gf,L,V,hv,hd.keep hk hB⟩
theorem own_heap{e sz m:Nat}{v:Value}{xs:List Value}(h:w.ownsRow B e sz v m xs)(hk:∀b,v.ownBlock=some b→w'.heap[b]?=w.heap[b]?):w'.ownsRow B e sz v m xs:=by
 obtain⟨h1,h2⟩:=h;refine⟨h1,?_⟩;rcases h2 with h2|⟨g,cap,cur,rfl,hg,hh,r⟩
 · exact .inl h2
 · exact .inr ⟨g,cap,cur,rfl,hg,(hk g rfl).trans hh,r⟩
theorem OwnRows.only{ti te:TypeId}{av:Nat→Prop}{K:List (List Int)}(h:OwnRows wk B ti te gk av K)(o:Only gf wk w')(ha:av gf)(hne:gk≠gf):OwnRows w' B ti te gk av K:=by
 have hg:=h.blk.2;obtain⟨vs,h1,h2,h3,h4,h5⟩:=h;refine⟨vs,h1,own_heap h2 (fun b hb=>by cases hb;exact o.kp gk hg hne),fun i v xs hv hx=>own_heap (h3 i v xs hv hx) (fun b hb=>o.kp b (own_lt (h3 i v xs hv hx) hb).2 (fun e=>h5 i v b hv hb (by rw[e];exact ha))),h4,h5⟩
theorem OwnRows.rd{ti te:TypeId}{av:Nat→Prop}{K:List (List Int)}(h:OwnRows w B ti te g av K)(hn:K.length≤1048576)(hm:∀xs∈K,xs.length≤1048576):Rd w.heap.size (some ⟨g,0,none⟩) K 1 (RowC w w.heap.size):=by
 obtain⟨A,c,he,-,-,hr,-⟩:=h.ret (Below.refl _ _) hn hm;simp only[Ending.returned.injEq,Value.slice.injEq]at he;rw[← he.1]at hr;exact hr
theorem kidsF_map{L0:List (Option Nat)}{i:Nat}:kidsF L0 i=(List.range L0.length).map fun x=>ints (kidRow L0 x i):=by
 refine List.ext_getElem (by simp[kidsF_len]) fun j h1 h2=>?_
 rw[kidsF_len]at h1;have:=kidsF_row (i:=i) h1;rw[List.getD,List.getElem?_eq_getElem (by rw[kidsF_len];exact h1)]at this;simp at this;simp[this]
end
end Go.Proofs.YtlhhfcleioikoaaGreatDoor
namespace Go.Proofs.YtlhhfcleioikoaaGreatDoor
open Go.RowKit
set_option maxRecDepth 100000
def inO(O:List Nat)(b:Int):Bool:=decide (0≤b∧b.toNat∈O)
theorem inO_nat{O:List Nat}{b:Nat}:inO O (b:Int)=decide (b∈O):=by
 unfold inO;have:(0:Int)≤(b:Int):=by omega
 simp
theorem hasNil_calls{w:World}(b:Int):Calls Tryz.prog 91 #[.pointer none,.int .i64 b] w fun e w'=>e=.returned (.bool false)∧w'=w:=by
 go_enter Tryz.func91,Tryz.ntmps91;go_wp2;go_ret;exact⟨rfl,rfl⟩
section
variable {w:World} {tb n gn gl gk gf:Nat} {O:List Nat} {P:Nat→List Nat} {L V:List (Option Nat)}
theorem tHas_calls(g:GrOk n O P)(h:TreeD w w.heap.size tb n O P gn gl gk gf L V)(b:Int) :
 Calls Tryz.prog 91 #[.pointer (some ⟨tb,0,none⟩),.int .i64 b] w fun e w'=>e=.returned (.bool (inO O b))∧w'=w:=by
 have ht:=h.ht;have c1:=h.c1;have hgl:=h.gl_
 by_cases hb0:0≤b
 case neg=>
  have HF:=Lib.hid (show inO O b=false by unfold inO;rw[decide_eq_false_iff_not];exact fun h=>hb0 h.1);go_enter Tryz.func91,Tryz.ntmps91;go_wp2;go_ret;exact⟨ret_bool HF.out.symm,rfl⟩
 obtain⟨x,rfl⟩:∃x:Nat,b=x:=⟨b.toNat,ZO⟩
 by_cases hbn:x<n
 case neg=>
  have hbn':¬(x:Int)<(n:Int):=by omega
  have HF:=Lib.hid (show inO O (x:Int)=false by rw[inO_nat,decide_eq_false_iff_not];exact fun h=>hbn (g.lt x h));clear hbn;go_enter Tryz.func91,Tryz.ntmps91;go_wp2;go_ret;exact⟨ret_bool HF.out.symm,rfl⟩
 have hbn':(x:Int)<(n:Int):=by omega
 have hc:=h.rl x hbn;cases hv:fnO V x with
 |none=>
  have HF:=Lib.hid (show inO O (x:Int)=false by rw[inO_nat,decide_eq_false_iff_not];exact fun h2=>h.lv.iff.2 h2 hv);rw[hv]at hc;replace hc:w.cell? ⟨gl,x,none⟩=some (.int .i64 (-1)):=hc;clear hv;go_enter Tryz.func91,Tryz.ntmps91;go_wp2;go_ret;exact⟨ret_bool HF.out.symm,rfl⟩
 |some k=>
  have HF:=Lib.hid (show inO O (x:Int)=true by rw[inO_nat,decide_eq_true_eq];exact h.lv.iff.1 (by rw[hv];simp));rw[hv]at hc;replace hc:w.cell? ⟨gl,x,none⟩=some (.int .i64 (k:Int)):=hc;have hk:((k:Int) !=-1)=true:=by rw[bne_iff_ne];omega
  clear hv;go_enter Tryz.func91,Tryz.ntmps91;go_wp2;go_ret;exact⟨ret_bool HF.out.symm,rfl⟩
theorem overNil_calls{w:World}(a b:Int):Calls Tryz.prog 53 #[.pointer none,.int .i64 a,.int .i64 b] w fun e w'=>e=.returned (.bool false)∧w'=w:=by
 go_enter Tryz.func53,Tryz.ntmps53;go_wp2_with(go_at_call 91;refine(hasNil_calls _).mono ?_;rintro e w1 ⟨rfl,hw1⟩;subst w1);go_ret;exact⟨rfl,rfl⟩
open Classical in
noncomputable def overB (O:List Nat) (L:List (Option Nat)) (a b:Int):Bool:=inO O a&&inO O b&&decide (Anc (fnO L) a.toNat b.toNat)
set_option maxHeartbeats 2000000 in
theorem overQ_calls(g:GrOk n O P)(h:TreeD w w.heap.size tb n O P gn gl gk gf L V)(a b:Int) :
 Calls Tryz.prog 53 #[.pointer (some ⟨tb,0,none⟩),.int .i64 a,.int .i64 b] w fun e w'=>e=.returned (.bool (overB O L a b))∧∃m,w'=w.drewN m:=by
 have hh:=fun z=>tHas_calls g h z
 have ht:=h.ht;have c0:=h.c0;have c1:=h.c1;have hgl:=h.gl_;have hgn:=h.gn_;cases ha:inO O a
 · have HF:=Lib.hid (show overB O L a b=false by rw[overB,ha];rfl)
   have h1:=hh a;rw[ha]at h1;clear ha;go_enter Tryz.func53,Tryz.ntmps53;go_wp2_with(go_at_call 91;refine h1.mono ?_;rintro e w1 ⟨rfl,hw1⟩;subst w1);go_ret;exact⟨ret_bool HF.out.symm,0,rfl⟩
 cases hb:inO O b
 · have HF:=Lib.hid (show overB O L a b=false by rw[overB,ha,hb];rfl)
   have h1:=hh a;have h2:=hh b;rw[ha]at h1;rw[hb]at h2;clear ha hb;go_enter Tryz.func53,Tryz.ntmps53;go_wp2_with fail;refine h1.mono ?_;rintro e w1 ⟨rfl,hw1⟩;subst w1;go_wp2_with fail;refine h2.mono ?_;rintro e w1 ⟨rfl,hw1⟩;subst w1;go_wp2;go_ret;exact⟨ret_bool HF.out.symm,0,rfl⟩
 have h1:=hh a;have h2:=hh b;have ha':0≤a∧a.toNat∈O:=by unfold inO at ha;simpa using ha
 have hb':0≤b∧b.toNat∈O:=by unfold inO at hb;simpa using hb
 obtain⟨x,rfl⟩:∃x:Nat,a=x:=⟨a.toNat,ZO⟩;obtain⟨y,rfl⟩:∃y:Nat,b=y:=⟨b.toNat,ZO⟩;rw[Int.toNat_natCast]at ha' hb';have HF:=Lib.hid (show overB O L (x:Int) (y:Int)=true↔Anc (fnO L) x y by rw[overB,ha,hb];simp);rw[ha]at h1;rw[hb]at h2;have HD:=Lib.hid h;have G:=Lib.hid g;have HX:=Lib.hid ha'.2;have HY:=Lib.hid hb'.2;have hxn:=g.lt x ha'.2;obtain⟨i,hi⟩:∃i,fnO V x=some i:=by
  cases hv:fnO V x with
  |none=>exact absurd hv (h.lv.iff.2 ha'.2)
  |some i=>exact⟨i,rfl⟩
 have hcx:=h.rl x hxn;rw[hi]at hcx;replace hcx:w.cell? ⟨gl,x,none⟩=some (.int .i64 (i:Int)):=hcx;have HI:=Lib.hid hi;clear ha hb ha' hb' g h hh hi;go_enter Tryz.func53,Tryz.ntmps53;go_wp2_with fail;refine h1.mono ?_;rintro e w1 ⟨rfl,hw1⟩;subst w1;go_wp2_with fail;refine h2.mono ?_;rintro e w1 ⟨rfl,hw1⟩;subst w1;go_wp2
 go_loopw[2] (fun v2 wr=>∃z:Nat,v2=.int .i64 z∧Hid (z∈O∧(Anc (fnO L) x z↔Anc (fnO L) x y))∧Hid (∃m,wr=w.drewN m)) (fun v2 _=>pz n O (intOf v2).toNat)
 case atStart=>exact⟨y,rfl,⟨HY.out,Iff.rfl⟩,0,rfl⟩
 case round=>as_aux_lemma=>
  obtain⟨z,rfl,HZ,HM⟩:=hrel;have hb:Below w.heap.size w wr:=by
   obtain⟨m,e⟩:=HM.out;rw[e];exact bdrewM (Below.refl _ _) m
  have hmore:=Lib.hid (fun k=>show ∃m,wr.drewN k=w.drewN m by
   obtain⟨m,e⟩:=HM.out
   exact⟨m+k,by rw[e,World.drewN_drewN]⟩)
  have hzn:=G.out.lt z HZ.out.1;obtain⟨k,hk⟩:∃k,fnO V z=some k:=by
   cases hv:fnO V z with
   |none=>exact absurd hv (HD.out.lv.iff.2 HZ.out.1)
   |some i=>exact⟨i,rfl⟩
  have hcz:=HD.out.rl z hzn;rw[hk]at hcz;replace hcz:w.cell? ⟨gl,z,none⟩=some (.int .i64 (k:Int)):=hcz;replace hcz:=(hb.cell (p:=⟨gl,z,none⟩) hgl).trans hcz;have hcx':=(hb.cell (p:=⟨gl,x,none⟩) hgl).trans hcx;have c0':=(hb.cell (p:=⟨tb,0,none⟩) ht).trans c0;have c1':=(hb.cell (p:=⟨tb,1,none⟩) ht).trans c1;have ht':=Nat.lt_of_lt_of_le ht hb.size;have hgl':=Nat.lt_of_lt_of_le hgl hb.size;have hgn':=Nat.lt_of_lt_of_le hgn hb.size;have hcn:=(hb.cell (p:=⟨gn,z,none⟩) hgn).trans (HD.out.rn z hzn);have HK:=Lib.hid hk;clear hk c0 c1 hcx
  by_cases hlt:i<k
  · have hlt':(i:Int)<(k:Int):=by omega
    have h0:z≠0:=HD.out.lv.pos HK.out ZO;obtain⟨p,j,hp,_,_⟩:=HD.out.lv.up h0 HK.out;rw[fnO_ne h0,hp]at hcn;replace hcn:wr.cell? ⟨gn,z,none⟩=some (.int .i64 (p:Int)):=hcn;have HP:=Lib.hid hp;clear hp;go_wp2
    go_quiet (fail)
    go_wp2;go_roundw
    case rel=>exact⟨p,rfl,⟨(HD.out.near.tok.up h0 HP.out).2.1,(LvOk.step HI.out HK.out hlt h0 HP.out).symm.trans HZ.out.2⟩,hmore.out _⟩
    case measure=>
     have:=(HD.out.near.tok.up h0 HP.out).2.2.1;simpa[intOf]using this
  · have hlt':¬(i:Int)<(k:Int):=by omega
    clear hcn;go_wp2
    go_quiet (fail)
    go_wp2;go_ret;refine⟨ret_bool ?_,hmore.out _⟩;have h3:=HD.out.lv.stop HD.out.near.tok HI.out HK.out ZO;rw[Bool.eq_iff_iff,HF.out,← HZ.out.2,h3,beq_iff_eq];omega
theorem over_calls(g:GrOk n O P)(h:TreeD w w.heap.size tb n O P gn gl gk gf L V)(a b:Int) :
 Calls Tryz.prog 53 #[.pointer (some ⟨tb,0,none⟩),.int .i64 a,.int .i64 b] w fun e w'=>e=.returned (.bool (overB O L a b))∧Below w.heap.size w w':=
 (overQ_calls g h a b).mono fun _ _ h=>⟨h.1,by obtain⟨_,m,rfl⟩:=h;exact bdrewM (Below.refl _ _) m⟩
end
end Go.Proofs.YtlhhfcleioikoaaGreatDoor
