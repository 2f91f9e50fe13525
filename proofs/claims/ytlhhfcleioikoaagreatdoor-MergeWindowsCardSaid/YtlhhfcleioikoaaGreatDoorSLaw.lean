/- The walks of single.Plain, ref16.Plain, and of the law's Single and Plain. The law's example: the walk of checkreinlaw16.lives. The walk of the law SingleTells: it returns true, whatever the program. -/
import Derived.Test.YtlhhfcleioikoaaGreatDoorFewB
import Derived.Test.YtlhhfcleioikoaaGreatDoorSRight
import Derived.Test.YtlhhfcleioikoaaGreatDoorSRef
import Derived.Test.YtlhhfcleioikoaaGreatDoorGraph
import Derived.Test.YtlhhfcleioikoaaGreatDoorSLw
namespace Go.Proofs.YtlhhfcleioikoaaGreatDoor
open Go.RowKit
set_option maxRecDepth 100000
theorem typed_op{F:PFunc}(hT:typedP F=true){i k:Nat}(hi:i<F.blocks.length)(hk:k<(F.blk i).insts.length):0≤((F.blk i).inst k).op∧((F.blk i).inst k).op<27:=by
 have h1:=(shaped_blk (typed_shaped hT) hi).2.1 _ (mem_of_Inst hk);unfold instB at h1;simp only[Bool.and_eq_true]at h1;have:=inB_true h1.1.1.1.1;omega
def isPi(x:PInst):Bool:=decide (x.op=25)||decide (x.op=26)
theorem eg_plain1:∀args w,(callFunc 70 args).run Tryz.prog w=.ok (.enter 70 args) w:=fun _ _=>by kernel_rfl
theorem plain1_calls{W w:World}{pv:Value}{x:PInst}(hp:InstV W W.heap.size pv x) :
 Calls Tryz.prog 70 #[pv] w fun e w'=>e=.returned (.bool (isPi x))∧Below w.heap.size w w':=by
 obtain⟨A1,c1,rfl,-⟩:=hp.open_;have HD:=Lib.hid (show isPi x=(decide (x.op=25)||decide (x.op=26))from rfl)
 by_cases h1:x.op=25
 · have h1':(x.op==25)=true:=by simp[h1]
   have HF:=Lib.hid (show isPi x=true by rw[HD.out,decide_eq_true h1];rfl);clear h1;go_enter Tryz.func70,Tryz.ntmps70;go_wp2;go_ret;exact⟨ret_bool HF.out.symm,by(focus repeat(first|assumption|exact Below.refl _ _|refine Below.drew ?_|refine Below.alloc ?_ (by first|omega|exact Below.size ZA|(simp;done)|(simp;omega)) _|(refine Below.trans ?_ (Below.mono ZA ?_);rotate_left;exact(by first|omega|exact Below.size ZA|(simp;done)|(simp;omega)))))⟩
 · have h1':(x.op==25)=false:=by simp[h1]
   have HF:=Lib.hid (show isPi x=(x.op==26) by rw[HD.out,decide_eq_false h1,Bool.false_or];rfl);clear h1;go_enter Tryz.func70,Tryz.ntmps70;go_wp2;go_ret;exact⟨ret_bool HF.out.symm,by(focus repeat(first|assumption|exact Below.refl _ _|refine Below.drew ?_|refine Below.alloc ?_ (by first|omega|exact Below.size ZA|(simp;done)|(simp;omega)) _|(refine Below.trans ?_ (Below.mono ZA ?_);rotate_left;exact(by first|omega|exact Below.size ZA|(simp;done)|(simp;omega)))))⟩
def PredInst0(W w:World)(k:FuncId)(ps:List PInst)(p:PInst→Bool):Prop:=
 ∀x,x∈ps→∀pv,InstV W W.heap.size pv x→∀w1,Below w.heap.size w w1→Calls Tryz.prog k #[pv] w1 fun e w'=>e=.returned (.bool (p x))∧Below w1.heap.size w1 w'
set_option maxHeartbeats 400000 in
theorem indexInst0_calls{W w:World}{A:Option Addr}{c0:Nat}{b:PBlock}(hr:Rd W.heap.size A b.insts 4 (InstC W W.heap.size))(hl:Len b.insts.length)(hW:Below W.heap.size W w)(k:FuncId)(p:PInst→Bool)(eg:∀args w,(callFunc k args).run Tryz.prog w=.ok (.enter k args) w)(hp:PredInst0 W w k b.insts p) :
 Calls Tryz.prog 38 #[.slice A b.insts.length c0,.func (.func k) #[] #[]] w fun e w'=>e=.returned (.int .i64 (firstIdx p b.insts 0))∧Below w.heap.size w w':=by
 unfold Len at hl;go_enter Tryz.func38,Tryz.ntmps38;go_wp2
 go_loopw[5,8] (fun _ i wr=>∃n:Nat,i=.int .i64 n∧n≤b.insts.length∧Below w.heap.size w wr∧Hid (firstIdx p b.insts 0=firstIdx p (b.insts.drop n) n)) (fun _ i _=>b.insts.length-(intOf i).toNat)
 case atStart=>exact⟨0,rfl,Nat.zero_le _,Below.refl _ _,by simp[Hid]⟩
 case round=>
  obtain⟨n,rfl,hn,hb,hf⟩:=hrel
  by_cases hlt:n<b.insts.length
  · obtain⟨bb,off,A1,c1,rfl,hbs,x0,x1,x2,x3,l1,k1,r1⟩:=hr.inst (hW.trans (hb.mono hW.size)) hlt
    have hcl:=hp _ (mem_of_Inst hlt) _ ⟨_,rfl,A1,c1,rfl,l1,k1,r1⟩ wr hb;have hd:=Lib.hid (drop_Inst hlt);clear l1 k1 r1;cases hx:p (b.inst n)
    · rw[hx]at hcl
      have hf2:=Lib.hid (show firstIdx p b.insts 0=firstIdx p (b.insts.drop (n+1)) (n+1) by rw[hf.out,hd.out,firstIdx,if_neg (by rw[hx];decide)]);clear hx;go_wp2_with(go_at_fn k;refine hcl.mono ?_;(rintro e w1 ⟨rfl,hb1⟩;obtain⟨hc1,hf1⟩:=bcell hb1;have hz1:=hb1.size;try simp at hz1;try have hy1:=Nat.lt_of_succ_le hz1;try have hx1:=Nat.lt_of_succ_lt hy1;try have hw1:=Nat.lt_of_succ_lt hx1));go_roundw
      case rel=>exact⟨n+1,ZN,ZO,by(focus repeat(first|assumption|exact Below.refl _ _|refine Below.drew ?_|refine Below.alloc ?_ (by first|omega|exact Below.size ZA|(simp;done)|(simp;omega)) _|(refine Below.trans ?_ (Below.mono ZA ?_);rotate_left;exact(by first|omega|exact Below.size ZA|(simp;done)|(simp;omega))))),hf2⟩
      case measure=>simp[intOf];omega
    · rw[hx]at hcl
      have hf2:=Lib.hid (show firstIdx p b.insts 0=n by rw[hf.out,hd.out,firstIdx,if_pos hx]);clear hx;go_wp2_with(go_at_fn k;refine hcl.mono ?_;(rintro e w1 ⟨rfl,hb1⟩;obtain⟨hc1,hf1⟩:=bcell hb1;have hz1:=hb1.size;try simp at hz1;try have hy1:=Nat.lt_of_succ_le hz1;try have hx1:=Nat.lt_of_succ_lt hy1;try have hw1:=Nat.lt_of_succ_lt hx1));go_ret;exact⟨ret_int hf2.out.symm,by(focus repeat(first|assumption|exact Below.refl _ _|refine Below.drew ?_|refine Below.alloc ?_ (by first|omega|exact Below.size ZA|(simp;done)|(simp;omega)) _|(refine Below.trans ?_ (Below.mono ZA ?_);rotate_left;exact(by first|omega|exact Below.size ZA|(simp;done)|(simp;omega)))))⟩
  · have hf2:=Lib.hid (show firstIdx p b.insts 0=-1 by rw[hf.out,List.drop_eq_nil_of_le ZO];rfl)
    go_wp2;go_ret;exact⟨ret_int hf2.out.symm,hb⟩
theorem containsInst0_calls{W w:World}{A:Option Addr}{c0:Nat}{b:PBlock}(hr:Rd W.heap.size A b.insts 4 (InstC W W.heap.size))(hl:Len b.insts.length)(hW:Below W.heap.size W w)(k:FuncId)(p:PInst→Bool)(eg:∀args w,(callFunc k args).run Tryz.prog w=.ok (.enter k args) w)(hp:PredInst0 W w k b.insts p) :
 Calls Tryz.prog 69 #[.slice A b.insts.length c0,.func (.func k) #[] #[]] w fun e w'=>e=.returned (.bool (b.insts.any p))∧Below w.heap.size w w':=by
 have hi:=indexInst0_calls (c0:=c0) hr hl hW k p eg hp;go_enter Tryz.func69,Tryz.ntmps69;go_wp2_with(go_at_call 38;refine hi.mono ?_;rintro e w1 ⟨rfl,hb⟩);go_ret;exact⟨ret_bool' (by simp only[decide_eq_true_eq];exact firstIdx_neg p b.insts 0),hb⟩
def blkNoPi(b:PBlock):Bool:=b.insts.all fun x=>decide (x.op<25)
theorem pi_any{F:PFunc}(hT:typedP F=true){i:Nat}(hi:i<F.blocks.length):(F.blk i).insts.any isPi=!blkNoPi (F.blk i):=by
 unfold blkNoPi;rw[List.not_all_eq_any_not,Bool.eq_iff_iff,List.any_eq_true,List.any_eq_true];have key:∀x∈(F.blk i).insts,isPi x=!decide (x.op<25):=fun x hx=>by
  obtain⟨k,hk,rfl⟩:=List.getElem_of_mem hx;have h1:=typed_op hT hi hk;rw[PBlock.inst,getD_get hk]at h1;unfold isPi;rw[Bool.eq_iff_iff];simp only[Bool.or_eq_true,decide_eq_true_eq,Bool.not_eq_true',decide_eq_false_iff_not];omega
 constructor
 · rintro⟨x,hx,h⟩
   exact⟨x,hx,by rw[← key x hx];exact h⟩
 · rintro⟨x,hx,h⟩
   exact⟨x,hx,by rw[key x hx];exact h⟩
theorem noPi_no{F:PFunc}{i:Nat}(hi:i<F.blocks.length)(h:blkNoPi (F.blk i)=false):noPi F=false:=by
 rw[← Bool.not_eq_true];intro hh;unfold noPi at hh;rw[List.all_eq_true]at hh;have:=hh _ (mem_of_blk hi);unfold blkNoPi at h;rw[h]at this;cases this
theorem noPi_yes{F:PFunc}(h:∀i,i<F.blocks.length→blkNoPi (F.blk i)=true):noPi F=true:=by
 unfold noPi;rw[List.all_eq_true];intro b hb;obtain⟨i,hi,rfl⟩:=List.getElem_of_mem hb;have:=h i hi
 rwa [PFunc.blk,getD_get hi]at this
noncomputable def plainS (F:PFunc):Bool:=rightS F&&noPi F
set_option maxHeartbeats 4000000 in
theorem plainS_calls{W w:World}{fv:Value}{F:PFunc}(hU:Uni W)(hF:FnV W W.heap.size fv F)(hW:Below W.heap.size W w)(hS:Small F)(hB:Bnd F) :
 Calls Tryz.prog 32 #[fv] w fun e w'=>e=.returned (.int .i64 (errOf (plainS F)))∧Below w.heap.size w w':=by
 have hr:=fun(w':World) (h:Below W.heap.size W w')=>rightS_calls hU hF h hS hB
 have hWs:=hW.size;obtain⟨X,hX⟩:∃X,rightS F=X:=⟨_,rfl⟩;rw[hX]at hr;have HX:=Lib.hid hX;clear hX;obtain⟨A0,c0,A1,c1,A2,c2,rfl,l0,l1,l2,-,-,-,r0,r1,r2⟩:=id hF.open_;unfold Len at *;have hb0:=(Below.refl w.heap.size w).alloc (Nat.le_refl _) (.cells #[.slice A0 F.vars.length c0,.slice A1 F.params.length c1,.slice A2 F.blocks.length c2] 26);cases X
 · have HF:=Lib.hid (show errOf (plainS F)=3 by rw[plainS,HX.out];rfl)
   replace hr:∀w',Below W.heap.size W w'→Calls Tryz.prog 68 #[.agg #[.slice A0 F.vars.length c0,.slice A1 F.params.length c1,.slice A2 F.blocks.length c2]] w' fun e w''=>e=.returned (.int .i64 3)∧Below w'.heap.size w' w'':=hr
   go_enter Tryz.func32,Tryz.ntmps32;go_wp2_with fail;refine(hr _ (by(focus repeat(first|assumption|exact Below.refl _ _|refine Below.drew ?_|refine Below.alloc ?_ (by first|omega|exact Below.size ZA|(simp;done)|(simp;omega)) _|(refine Below.trans ?_ (Below.mono ZA ?_);rotate_left;exact(by first|omega|exact Below.size ZA|(simp;done)|(simp;omega))))))).mono ?_;(rintro e w1 ⟨rfl,hb1⟩;obtain⟨hc1,hf1⟩:=bcell hb1;have hz1:=hb1.size;try simp at hz1;try have hy1:=Nat.lt_of_succ_le hz1;try have hx1:=Nat.lt_of_succ_lt hy1;try have hw1:=Nat.lt_of_succ_lt hx1);go_wp2;go_ret;exact⟨ret_int HF.out.symm,by(focus repeat(first|assumption|exact Below.refl _ _|refine Below.drew ?_|refine Below.alloc ?_ (by first|omega|exact Below.size ZA|(simp;done)|(simp;omega)) _|(refine Below.trans ?_ (Below.mono ZA ?_);rotate_left;exact(by first|omega|exact Below.size ZA|(simp;done)|(simp;omega)))))⟩
 replace hr:∀w',Below W.heap.size W w'→Calls Tryz.prog 68 #[.agg #[.slice A0 F.vars.length c0,.slice A1 F.params.length c1,.slice A2 F.blocks.length c2]] w' fun e w''=>e=.returned (.int .i64 0)∧Below w'.heap.size w' w'':=hr
 have HT:=Lib.hid (show typedP F=true by have:=HX.out;unfold rightS at this;rw[Bool.and_eq_true]at this;exact this.1);obtain⟨n1,n2⟩:=shaped_count (typed_shaped HT.out);have HPL:=Lib.hid (show plainS F=noPi F by rw[plainS,HX.out];rfl);go_enter Tryz.func32,Tryz.ntmps32;go_wp2_with fail;refine(hr _ (by(focus repeat(first|assumption|exact Below.refl _ _|refine Below.drew ?_|refine Below.alloc ?_ (by first|omega|exact Below.size ZA|(simp;done)|(simp;omega)) _|(refine Below.trans ?_ (Below.mono ZA ?_);rotate_left;exact(by first|omega|exact Below.size ZA|(simp;done)|(simp;omega))))))).mono ?_;rintro e w4 ⟨rfl,hb4⟩;have hX4:Below (w.heap.size+1) (w.alloc (.cells #[.slice A0 F.vars.length c0,.slice A1 F.params.length c1,.slice A2 F.blocks.length c2] 26)) w4:=by simpa using hb4
 have hB4:=hb0.trans (hX4.mono (Nat.le_succ _));obtain⟨q,q0,q1,q2⟩:=box3 hX4;go_wp2;clear q q0 q1 q2
 go_loopw[14] (fun x wr=>∃n:Nat,x=.int .i64 n∧n≤F.blocks.length∧Hid (∀m,m<n→blkNoPi (F.blk m)=true)∧Below w4.heap.size w4 wr) (fun x _=>F.blocks.length-(intOf x).toNat)
 case atStart=>exact⟨0,rfl,Nat.zero_le _,fun m hm=>absurd hm (Nat.not_lt_zero _),Below.refl _ _⟩
 case round=>as_aux_lemma=>
  obtain⟨n,rfl,hn,HA,hb⟩:=hrel;have hB:=hB4.trans (hb.mono hB4.size);have hWr:Below W.heap.size W wr:=hW.trans (hB.mono hWs)
  by_cases hlt:n<F.blocks.length
  · obtain⟨bb,off,A3,c3,A4,c4,rfl,hbb,hnz,hy0,hy1,hy2,hy3,hy4,hy5,hy6,l3,l4,k3,k4,r3,r4⟩:=r2.blk hWr hlt
    have hcl:=fun(w':World) (h:Below W.heap.size W w')=>containsInst0_calls (c0:=c4) r4 l4 h 70 isPi eg_plain1 (fun x _ pv hp w1 _=>plain1_calls hp)
    rw[pi_any HT.out hlt]at hcl;obtain⟨X,hX⟩:∃X,blkNoPi (F.blk n)=X:=⟨_,rfl⟩;rw[hX]at hcl;have HXX:=Lib.hid hX;clear hX;unfold Len at l3 l4;have HBA:=Lib.hid ((Below.refl wr.heap.size wr).alloc (Nat.le_refl _) (.cells #[.string (F.blk n).name,.slice A3 (F.blk n).phis.length c3,.slice A4 (F.blk n).insts.length c4,.int .i64 (F.blk n).term.kind,.int .i64 (F.blk n).term.var,.int .i64 (F.blk n).term.t0,.int .i64 (F.blk n).term.t1] 42));cases X
    · as_aux_lemma=>
      have HF:=Lib.hid (show errOf (plainS F)=3 by rw[HPL.out,noPi_no hlt HXX.out];rfl);go_wp2_with fail;refine(hcl _ (by(focus repeat(first|assumption|exact Below.refl _ _|refine Below.drew ?_|refine Below.alloc ?_ (by first|omega|exact Below.size ZA|(simp;done)|(simp;omega)) _|(refine Below.trans ?_ (Below.mono ZA ?_);rotate_left;exact(by first|omega|exact Below.size ZA|(simp;done)|(simp;omega))))))).mono ?_;rintro e w9 ⟨rfl,hb9⟩;go_wp2;go_ret;exact⟨ret_int HF.out.symm,hB.trans ((HBA.out.trans (hb9.mono HBA.out.size)).mono hB.size)⟩
    · as_aux_lemma=>
      go_wp2_with fail;refine(hcl _ (by(focus repeat(first|assumption|exact Below.refl _ _|refine Below.drew ?_|refine Below.alloc ?_ (by first|omega|exact Below.size ZA|(simp;done)|(simp;omega)) _|(refine Below.trans ?_ (Below.mono ZA ?_);rotate_left;exact(by first|omega|exact Below.size ZA|(simp;done)|(simp;omega))))))).mono ?_;rintro e w9 ⟨rfl,hb9⟩;go_wp2;go_roundw
      case rel=>exact⟨n+1,ZN,ZO,fun t ht=>if h:t<n then HA.out t h else by
       obtain rfl:t=n:=by omega
       exact HXX.out,hb.trans ((HBA.out.trans (hb9.mono HBA.out.size)).mono hb.size)⟩
      case measure=>simp[intOf];omega
  · obtain rfl:n=F.blocks.length:=by omega
    have HF:=Lib.hid (show errOf (plainS F)=0 by rw[HPL.out,noPi_yes HA.out];rfl);go_wp2;go_ret;exact⟨ret_int HF.out.symm,hB⟩
set_option maxHeartbeats 4000000 in
theorem refPlain_calls{W w:World}{fv:Value}{F:PFunc}(hF:FnV W W.heap.size fv F)(hW:Below W.heap.size W w)(hT:typedP F=true) :
 Calls Tryz.prog 35 #[fv] w fun e w'=>e=.returned (.bool (refPlainB F))∧Below w.heap.size w w':=by
 have hs:=fun(w':World) (h:Below W.heap.size W w')=>refSingle_calls hF h hT
 have hWs:=hW.size;obtain⟨n1,n2⟩:=shaped_count (typed_shaped hT);have HTP:=Lib.hid (fun n (hn:n<F.blocks.length)=>typed_parts hT hn);obtain⟨A0,c0,A1,c1,A2,c2,rfl,l0,l1,l2,-,-,-,r0,r1,r2⟩:=id hF.open_;unfold Len at *;have hb0:=(Below.refl w.heap.size w).alloc (Nat.le_refl _) (.cells #[.slice A0 F.vars.length c0,.slice A1 F.params.length c1,.slice A2 F.blocks.length c2] 26);have HNO:=Lib.hid (fun(h:noPi F=false)=>show refPlainB F=false by rw[refPlainB,h];rfl);have HYE:=Lib.hid (fun(h:noPi F=true)=>show refPlainB F=refSingleB F by rw[refPlainB,h];rfl);clear hT;go_enter Tryz.func35,Tryz.ntmps35;go_wp2
 go_loopw[10] (fun x wr=>∃n:Nat,x=.int .i64 n∧n≤F.blocks.length∧Hid (∀m,m<n→blkNoPi (F.blk m)=true)∧Below (w.heap.size+1) (w.alloc (.cells #[.slice A0 F.vars.length c0,.slice A1 F.params.length c1,.slice A2 F.blocks.length c2] 26)) wr) (fun x _=>F.blocks.length-(intOf x).toNat)
 case atStart=>exact⟨0,rfl,Nat.zero_le _,fun m hm=>absurd hm (Nat.not_lt_zero _),Below.refl _ _⟩
 case round=>as_aux_lemma=>
  obtain⟨n,rfl,hn,HA,hb⟩:=hrel;have hB:=hb0.trans (hb.mono (Nat.le_succ _));have hWr:Below W.heap.size W wr:=hW.trans (hB.mono hWs)
  by_cases hlt:n<F.blocks.length
  · obtain⟨bb,off,A3,c3,A4,c4,rfl,hbb,hnz,hy0,hy1,hy2,hy3,hy4,hy5,hy6,l3,l4,k3,k4,r3,r4⟩:=r2.blk hWr hlt
    have hpt:=HTP.out n hlt;unfold Len at l3 l4;have HNB:=Lib.hid (fun h=>HNO.out (noPi_no hlt h));have hws:w.heap.size+1≤wr.heap.size:=by have:=hb.size;simpa using this
    obtain⟨wq,rfl⟩:∃wq:World,wq=wr:=⟨_,rfl⟩;go_wp2
    go_loopw[17] (fun x wr=>∃k:Nat,x=.int .i64 k∧k≤(F.blk n).insts.length∧Hid (∀j,j<k→((F.blk n).inst j).op<25)∧Below wq.heap.size wq wr) (fun x _=>(F.blk n).insts.length-(intOf x).toNat)
    case atStart=>exact⟨0,rfl,Nat.zero_le _,fun m hm=>absurd hm (Nat.not_lt_zero _),by(focus repeat(first|assumption|exact Below.refl _ _|refine Below.drew ?_|refine Below.alloc ?_ (by first|omega|exact Below.size ZA|(simp;done)|(simp;omega)) _|(refine Below.trans ?_ (Below.mono ZA ?_);rotate_left;exact(by first|omega|exact Below.size ZA|(simp;done)|(simp;omega)))))⟩
    case round=>as_aux_lemma=>
     obtain⟨k,rfl,hk,HK,hbk⟩:=hrel;have hBr:Below w.heap.size w wr:=hB.trans (hbk.mono hB.size);have hWi:Below W.heap.size W wr:=hW.trans (hBr.mono hWs)
     by_cases hkl:k<(F.blk n).insts.length
     · obtain⟨bp,op,A6,c6,rfl,hbp,hp0,hp1,hp2,hp3,l6,k6,-⟩:=r4.inst hWi hkl
       unfold Len at l6;clear hy0 hy1 hy2 hy3 hy4 hy5 hy6 hnz
       by_cases h25:25≤((F.blk n).inst k).op
       · have HF:=Lib.hid (HNB.out (by
          unfold blkNoPi;rw[← Bool.not_eq_true,List.all_eq_true];intro hh;have:=of_decide_eq_true (hh _ (mem_of_Inst hkl))
          omega))
         go_wp2;go_ret;exact⟨ret_bool HF.out.symm,by(focus repeat(first|assumption|exact Below.refl _ _|refine Below.drew ?_|refine Below.alloc ?_ (by first|omega|exact Below.size ZA|(simp;done)|(simp;omega)) _|(refine Below.trans ?_ (Below.mono ZA ?_);rotate_left;exact(by first|omega|exact Below.size ZA|(simp;done)|(simp;omega)))))⟩
       · have HE:=Lib.hid (show((F.blk n).inst k).op<25 from ZO)
         go_wp2;go_roundw
         case rel=>exact⟨k+1,ZN,ZO,fun t ht=>if h:t<k then HK.out t h else by
          obtain rfl:t=k:=by omega
          exact HE.out,by(focus repeat(first|assumption|exact Below.refl _ _|refine Below.drew ?_|refine Below.alloc ?_ (by first|omega|exact Below.size ZA|(simp;done)|(simp;omega)) _|(refine Below.trans ?_ (Below.mono ZA ?_);rotate_left;exact(by first|omega|exact Below.size ZA|(simp;done)|(simp;omega)))))⟩
         case measure=>simp[intOf];omega
     · obtain rfl:k=(F.blk n).insts.length:=by omega
       have HOK:=Lib.hid (show blkNoPi (F.blk n)=true by
        unfold blkNoPi;rw[List.all_eq_true];intro x hx;obtain⟨j,hj,rfl⟩:=List.getElem_of_mem hx;have:=HK.out j hj;rw[PBlock.inst,getD_get hj]at this
        exact decide_eq_true this)
       go_wp2;go_roundw
       case rel=>exact⟨n+1,ZN,ZO,fun t ht=>if h:t<n then HA.out t h else by
        obtain rfl:t=n:=by omega
        exact HOK.out,hb.trans (hbk.mono hws)⟩
       case measure=>simp[intOf];omega
  · obtain rfl:n=F.blocks.length:=by omega
    have HF:=Lib.hid (HYE.out (noPi_yes HA.out));obtain⟨q,q0,q1,q2⟩:=box3 hb;have hs':=hs wr hWr;rw[← HF.out]at hs';go_wp2_with fail;refine hs'.mono ?_;rintro e w9 ⟨rfl,hb9⟩;go_wp2;go_ret;exact⟨rfl,hB.trans (hb9.mono hB.size)⟩
theorem lawPlain_calls{W w:World}{fv:Value}{F:PFunc}(hU:Uni W)(hF:FnV W W.heap.size fv F)(hW:Below W.heap.size W w) :
 Calls Tryz.prog 12 #[fv] w fun e w'=>e=.returned (.bool (lawT F&&plainB F))∧Below w.heap.size w w':=by
 have hty:=fun(w:World) (h:Below W.heap.size W w)=>lawTyped_calls hU hF h
 have hWs:=hW.size;obtain⟨A0,c0,A1,c1,A2,c2,rfl,-⟩:=id hF.open_;cases hx:lawT F
 · rw[hx]at hty
   clear hx;go_enter Tryz.func12,Tryz.ntmps12;go_wp2_with fail;refine(hty _ (by(focus repeat(first|assumption|exact Below.refl _ _|refine Below.drew ?_|refine Below.alloc ?_ (by first|omega|exact Below.size ZA|(simp;done)|(simp;omega)) _|(refine Below.trans ?_ (Below.mono ZA ?_);rotate_left;exact(by first|omega|exact Below.size ZA|(simp;done)|(simp;omega))))))).mono ?_;(rintro e w1 ⟨rfl,hb1⟩;obtain⟨hc1,hf1⟩:=bcell hb1;have hz1:=hb1.size;try simp at hz1;try have hy1:=Nat.lt_of_succ_le hz1;try have hx1:=Nat.lt_of_succ_lt hy1;try have hw1:=Nat.lt_of_succ_lt hx1);go_wp2;go_ret;exact⟨rfl,by(focus repeat(first|assumption|exact Below.refl _ _|refine Below.drew ?_|refine Below.alloc ?_ (by first|omega|exact Below.size ZA|(simp;done)|(simp;omega)) _|(refine Below.trans ?_ (Below.mono ZA ?_);rotate_left;exact(by first|omega|exact Below.size ZA|(simp;done)|(simp;omega)))))⟩
 · rw[hx]at hty
   have hT:typedP F=true:=by unfold lawT at hx;rw[Bool.and_eq_true]at hx;exact hx.2
   have hs:=fun(w:World) (h:Below W.heap.size W w)=>refPlain_calls hF h hT
   rw[plain_eq hT]at hs;clear hx hT;generalize plainB F=X at *;go_enter Tryz.func12,Tryz.ntmps12;go_wp2_with fail;refine(hty _ (by(focus repeat(first|assumption|exact Below.refl _ _|refine Below.drew ?_|refine Below.alloc ?_ (by first|omega|exact Below.size ZA|(simp;done)|(simp;omega)) _|(refine Below.trans ?_ (Below.mono ZA ?_);rotate_left;exact(by first|omega|exact Below.size ZA|(simp;done)|(simp;omega))))))).mono ?_;(rintro e w1 ⟨rfl,hb1⟩;obtain⟨hc1,hf1⟩:=bcell hb1;have hz1:=hb1.size;try simp at hz1;try have hy1:=Nat.lt_of_succ_le hz1;try have hx1:=Nat.lt_of_succ_lt hy1;try have hw1:=Nat.lt_of_succ_lt hx1);go_wp2_with fail;refine(hs _ (by(focus repeat(first|assumption|exact Below.refl _ _|refine Below.drew ?_|refine Below.alloc ?_ (by first|omega|exact Below.size ZA|(simp;done)|(simp;omega)) _|(refine Below.trans ?_ (Below.mono ZA ?_);rotate_left;exact(by first|omega|exact Below.size ZA|(simp;done)|(simp;omega))))))).mono ?_;(rintro e w2 ⟨rfl,hb2⟩;obtain⟨hc2,hf2⟩:=bcell hb2;have hz2:=hb2.size;try simp at hz2;try have hy2:=Nat.lt_of_succ_le hz2;try have hx2:=Nat.lt_of_succ_lt hy2;try have hw2:=Nat.lt_of_succ_lt hx2);go_wp2;go_ret;exact⟨rfl,by(focus repeat(first|assumption|exact Below.refl _ _|refine Below.drew ?_|refine Below.alloc ?_ (by first|omega|exact Below.size ZA|(simp;done)|(simp;omega)) _|(refine Below.trans ?_ (Below.mono ZA ?_);rotate_left;exact(by first|omega|exact Below.size ZA|(simp;done)|(simp;omega)))))⟩
end Go.Proofs.YtlhhfcleioikoaaGreatDoor
namespace Go.Proofs.YtlhhfcleioikoaaGreatDoor
open Go.RowKit
set_option maxRecDepth 100000
end Go.Proofs.YtlhhfcleioikoaaGreatDoor
namespace Go.Proofs.YtlhhfcleioikoaaGreatDoor
open Go.RowKit
set_option maxRecDepth 100000
end Go.Proofs.YtlhhfcleioikoaaGreatDoor
