/- The walk of print.Shaped. Typing: kind, phi$1, and slices.ContainsFunc over []int with a function value of two captured pointers. Typing: phi, term, inst. The walk of typing.Typed. graph.Ends, graph.right. Several rows of the program's own in one world; a stack of frames. No program's code in sight. And the walk through a graph, depth first, with its stack. The plain law of the walk through a graph, depth first. No program in sight. -/
import Derived.Test.YtlhhfcleioikoaaGreatDoorLists
import Derived.Laws.OwnMore
import Derived.Deep.LoopGhost
namespace Go.Proofs.YtlhhfcleioikoaaGreatDoor
open Go.RowKit
set_option maxRecDepth 100000
def blockB(F:PFunc)(b:PBlock):Bool:=!(b.phis.any fun x=>!phiB F x)&&!(b.insts.any fun x=>!instB F x)&&termB F b.term
def sumB:List PBlock→Nat
 |[]=>0
 |b::r=>b.phis.length+b.insts.length+sumB r
def shapedP(F:PFunc):Bool:=namesB F&&F.blocks.all (blockB F)&&decide (sumB F.blocks≤1024)
theorem FnBox.of3{w w':World}{x y z:Value}{t:TypeId}(hb:Below (w.heap.size+1) (w.alloc (.cells #[x,y,z] t)) w'):FnBox w' (.pointer (some ⟨w.heap.size,0,none⟩)) (.agg #[x,y,z]):=by
 obtain⟨h,h0,h1,h2⟩:=box3 hb;exact⟨_,_,_,_,rfl,rfl,h,h0,h1,h2⟩
set_option maxHeartbeats 4000000 in
theorem shaped_calls{W w:World}{fv:Value}{F:PFunc}(hU:Uni W)(hF:FnV W W.heap.size fv F)(hW:Below W.heap.size W w)(hS:Small F) :
 Calls Tryz.prog 119 #[fv] w fun e w'=>e=.returned (.bool (shapedP F))∧Below w.heap.size w w':=by
 have hnm:=fun(w:World) (h:Below W.heap.size W w)=>names_calls hU hF h hS
 obtain⟨A0,c0,A1,c1,A2,c2,rfl,l0,l1,l2,-,-,-,r0,r1,r2⟩:=id hF.open_;obtain⟨s0,s1,s2⟩:=id hS;unfold Len at *;have hWs:=hW.size;have hb0:=(Below.refl w.heap.size w).alloc (Nat.le_refl _) (.cells #[.slice A0 F.vars.length c0,.slice A1 F.params.length c1,.slice A2 F.blocks.length c2] 26);cases hn:namesB F
 · have HF:=Lib.hid (show shapedP F=false by rw[shapedP,hn];rfl)
   rw[hn]at hnm;clear hn;go_enter Tryz.func119,Tryz.ntmps119;go_wp2_with(go_at_call 137;refine(hnm _ BL).mono ?_;(rintro e w1 ⟨rfl,hb1⟩;obtain⟨hc1,hf1⟩:=bcell hb1;have hz1:=hb1.size;try simp at hz1;try have hy1:=Nat.lt_of_succ_le hz1;try have hx1:=Nat.lt_of_succ_lt hy1;try have hw1:=Nat.lt_of_succ_lt hx1));go_ret;exact⟨ret_bool HF.out.symm,BL⟩
 have HN:=Lib.hid (show shapedP F=(F.blocks.all (blockB F)&&decide (sumB F.blocks≤1024)) by rw[shapedP,hn];rfl);rw[hn]at hnm;clear hn;go_enter Tryz.func119,Tryz.ntmps119;go_wp2_with(go_at_call 137;refine(hnm _ BL).mono ?_;(rintro e w1 ⟨rfl,hb1⟩;obtain⟨hc1,hf1⟩:=bcell hb1;have hz1:=hb1.size;try simp at hz1;try have hy1:=Nat.lt_of_succ_le hz1;try have hx1:=Nat.lt_of_succ_lt hy1;try have hw1:=Nat.lt_of_succ_lt hx1));have hbb:Below (w.heap.size+1) (w.alloc (.cells #[.slice A0 F.vars.length c0,.slice A1 F.params.length c1,.slice A2 F.blocks.length c2] 26)) w1:=by simpa using hb1
 go_loopw[3,13] (fun s i wr=>∃n m:Nat,s=.int .i64 m∧i=.int .i64 n∧n≤F.blocks.length∧m≤n*2097152∧Below (w.heap.size+1) (w.alloc (.cells #[.slice A0 F.vars.length c0,.slice A1 F.params.length c1,.slice A2 F.blocks.length c2] 26)) wr∧
  Hid (shapedP F=((F.blocks.drop n).all (blockB F)&&decide (m+sumB (F.blocks.drop n)≤1024)))) (fun _ i _=>F.blocks.length-(intOf i).toNat)
 case atStart=>exact⟨0,0,rfl,rfl,Nat.zero_le _,Nat.zero_le _,hbb,by rw[Hid,HN.out];simp⟩
 case round=>
  obtain⟨n,m,rfl,rfl,hn,hm,hb,hf⟩:=hrel;have hB:=hb0.trans (hb.mono (Nat.le_succ _));have hWr:Below W.heap.size W wr:=hW.trans (hB.mono hWs);have hbx:=FnBox.of3 hb;obtain⟨hq,hq0,hq1,hq2⟩:=box3 hb
  by_cases hlt:n<F.blocks.length
  · obtain⟨bb,off,A3,c3,A4,c4,rfl,hbb,hnz,hy0,hy1,hy2,hy3,hy4,hy5,hy6,l3,l4,k3,k4,r3,r4⟩:=r2.blk hWr hlt
    have hd:=Lib.hid (drop_blk hlt);have hsm:=s2 n hlt;have hms:m<4398046511104:=by omega
    have hP:=fun(w1:World) (h:Below wr.heap.size wr w1)=>containsPhi_calls (c0:=c3) r3 l3 (hWr.trans (h.mono hWr.size)) _ _ _ eg_shaped1 (pred_shaped1 hF (hWr.trans (h.mono hWr.size)) (hbx.later h) _)
    have hI:=fun(w1:World) (h:Below wr.heap.size wr w1)=>containsInst_calls (c0:=c4) r4 l4 (hWr.trans (h.mono hWr.size)) _ _ _ eg_shaped2 (pred_shaped2 hF (hWr.trans (h.mono hWr.size)) (hbx.later h) _)
    have hT:=fun(w1:World)=>term_calls (w:=w1) (F.blk n).term hF
    cases hx:(F.blk n).phis.any fun x=>!phiB F x
    rotate_left
    · have HF:=Lib.hid (show shapedP F=false by rw[hf.out,hd.out,List.all_cons,blockB,hx];rfl)
      rw[hx]at hP;clear hx;go_wp2_with(go_at_call 138;refine(hP _ BL).mono ?_;(rintro e w2 ⟨rfl,hb2⟩;obtain⟨hc2,hf2⟩:=bcell hb2;have hz2:=hb2.size;try simp at hz2;try have hy2:=Nat.lt_of_succ_le hz2;try have hx2:=Nat.lt_of_succ_lt hy2;try have hw2:=Nat.lt_of_succ_lt hx2);have hqa:=Nat.lt_trans hq hy2);go_ret;exact⟨ret_bool HF.out.symm,hB.trans BL⟩
    rw[hx]at hP;cases hy:(F.blk n).insts.any fun x=>!instB F x
    rotate_left
    · have HF:=Lib.hid (show shapedP F=false by rw[hf.out,hd.out,List.all_cons,blockB,hy];simp)
      rw[hy]at hI;clear hx hy;go_wp2_with(first|(go_at_call 138;refine(hP _ BL).mono ?_;(rintro e w2 ⟨rfl,hb2⟩;obtain⟨hc2,hf2⟩:=bcell hb2;have hz2:=hb2.size;try simp at hz2;try have hy2:=Nat.lt_of_succ_le hz2;try have hx2:=Nat.lt_of_succ_lt hy2;try have hw2:=Nat.lt_of_succ_lt hx2);have hqa:=Nat.lt_trans hq hy2)|(go_at_call 69;refine(hI _ BL).mono ?_;(rintro e w3 ⟨rfl,hb3⟩;obtain⟨hc3,hf3⟩:=bcell hb3;have hz3:=hb3.size;try simp at hz3;try have hy3:=Nat.lt_of_succ_le hz3;try have hx3:=Nat.lt_of_succ_lt hy3;try have hw3:=Nat.lt_of_succ_lt hx3);have hqc:=Nat.lt_of_lt_of_le hqa hz3;have hqd:=Nat.lt_of_lt_of_le hy2 hz3));go_ret;exact⟨ret_bool HF.out.symm,hB.trans BL⟩
    rw[hy]at hI;cases hz:termB F (F.blk n).term
    · have HF:=Lib.hid (show shapedP F=false by rw[hf.out,hd.out,List.all_cons,blockB,hz];simp)
      rw[hz]at hT;clear hx hy hz;go_wp2_with(first|(go_at_call 138;refine(hP _ BL).mono ?_;(rintro e w2 ⟨rfl,hb2⟩;obtain⟨hc2,hf2⟩:=bcell hb2;have hz2:=hb2.size;try simp at hz2;try have hy2:=Nat.lt_of_succ_le hz2;try have hx2:=Nat.lt_of_succ_lt hy2;try have hw2:=Nat.lt_of_succ_lt hx2);have hqa:=Nat.lt_trans hq hy2)|(go_at_call 69;refine(hI _ BL).mono ?_;(rintro e w3 ⟨rfl,hb3⟩;obtain⟨hc3,hf3⟩:=bcell hb3;have hz3:=hb3.size;try simp at hz3;try have hy3:=Nat.lt_of_succ_le hz3;try have hx3:=Nat.lt_of_succ_lt hy3;try have hw3:=Nat.lt_of_succ_lt hx3);have hqc:=Nat.lt_of_lt_of_le hqa hz3;have hqd:=Nat.lt_of_lt_of_le hy2 hz3)|(go_at_call 143;refine(hT _).mono ?_;(rintro e w4 ⟨rfl,hb4⟩;obtain⟨hc4,hf4⟩:=bcell hb4;have hz4:=hb4.size;try simp at hz4;try have hy4:=Nat.lt_of_succ_le hz4;try have hx4:=Nat.lt_of_succ_lt hy4;try have hw4:=Nat.lt_of_succ_lt hx4)));go_ret;exact⟨ret_bool HF.out.symm,hB.trans BL⟩
    rw[hz]at hT;have HF:=Lib.hid (show shapedP F=((F.blocks.drop (n+1)).all (blockB F)&&decide (m+(F.blk n).phis.length+(F.blk n).insts.length+sumB (F.blocks.drop (n+1))≤1024)) by rw[hf.out,hd.out,List.all_cons,blockB,hx,hy,hz,sumB];simp only[Bool.not_false,Bool.true_and,Nat.add_assoc]);clear hx hy hz;go_wp2_with(first|(go_at_call 138;refine(hP _ BL).mono ?_;(rintro e w2 ⟨rfl,hb2⟩;obtain⟨hc2,hf2⟩:=bcell hb2;have hz2:=hb2.size;try simp at hz2;try have hy2:=Nat.lt_of_succ_le hz2;try have hx2:=Nat.lt_of_succ_lt hy2;try have hw2:=Nat.lt_of_succ_lt hx2);have hqa:=Nat.lt_trans hq hy2)|(go_at_call 69;refine(hI _ BL).mono ?_;(rintro e w3 ⟨rfl,hb3⟩;obtain⟨hc3,hf3⟩:=bcell hb3;have hz3:=hb3.size;try simp at hz3;try have hy3:=Nat.lt_of_succ_le hz3;try have hx3:=Nat.lt_of_succ_lt hy3;try have hw3:=Nat.lt_of_succ_lt hx3);have hqc:=Nat.lt_of_lt_of_le hqa hz3;have hqd:=Nat.lt_of_lt_of_le hy2 hz3)|(go_at_call 143;refine(hT _).mono ?_;(rintro e w4 ⟨rfl,hb4⟩;obtain⟨hc4,hf4⟩:=bcell hb4;have hz4:=hb4.size;try simp at hz4;try have hy4:=Nat.lt_of_succ_le hz4;try have hx4:=Nat.lt_of_succ_lt hy4;try have hw4:=Nat.lt_of_succ_lt hx4)));go_roundw
    case rel=>exact⟨n+1,m+(F.blk n).phis.length+(F.blk n).insts.length,ZN,ZN,ZO,ZO,hb.trans BL,HF⟩
    case measure=>simp[intOf];omega
  · have hf2:=Lib.hid (show shapedP F=decide (m≤1024) by rw[hf.out,List.drop_eq_nil_of_le ZO];rfl)
    have hms:m<4398046511104:=by omega
    go_wp2;go_ret;exact⟨ret_bool (by rw[hf2.out];simp;omega),hB⟩
end Go.Proofs.YtlhhfcleioikoaaGreatDoor
namespace Go.Proofs.YtlhhfcleioikoaaGreatDoor
open Go.RowKit
set_option maxRecDepth 100000
def tyOf(F:PFunc)(v:Int):Int:=(F.var v.toNat).ty
theorem inB_nat{v:Int}{n:Nat}(h:inB v n=true):∃k:Nat,v=k∧k<n:=by
 unfold inB at h;simp at h;exact⟨v.toNat,ZO,ZO⟩
theorem kindIn_calls{W w:World}{fv:Value}{F:PFunc}(hF:FnV W W.heap.size fv F)(hW:Below W.heap.size W w){v:Int}(hv:inB v F.vars.length=true) :
 Calls Tryz.prog 145 #[fv,.int .i64 v] w fun e w'=>e=.returned (.int .i64 (tyOf F v))∧Below w.heap.size w w':=kind_calls hF hW v (inB_true hv).1 (inB_true hv).2
theorem ofIn_calls{W w:World}{fv:Value}{F:PFunc}(hF:FnV W W.heap.size fv F)(hW:Below W.heap.size W w){v:Int}(hv:inB v F.vars.length=true) :
 Calls Tryz.prog 81 #[fv,.int .i64 v] w fun e w'=>e=.returned (.int .i64 (tyOf F v))∧Below w.heap.size w w':=of_calls hF hW v (inB_true hv).1 (inB_true hv).2
def PredI2(w:World)(k:FuncId)(c d:Value)(xs:List Int)(p:Int→Bool):Prop:=
 ∀x,x∈xs→∀w1,Below w.heap.size w w1→Calls Tryz.prog k #[.int .i64 x,c,d] w1 fun e w'=>e=.returned (.bool (p x))∧Below w1.heap.size w1 w'
set_option maxHeartbeats 400000 in
theorem indexI2_calls{W w:World}{A:Option Addr}{c0:Nat}{xs:List Int}(hr:Rd W.heap.size A xs 1 (IntC W))(hl:Len xs.length)(hW:Below W.heap.size W w)(k:FuncId)(c d:Value)(p:Int→Bool)(eg:∀args w,(callFunc k args).run Tryz.prog w=.ok (.enter k args) w)(hp:PredI2 w k c d xs p) :
 Calls Tryz.prog 162 #[.slice A xs.length c0,.func (.func k) #[] #[c,d]] w fun e w'=>e=.returned (.int .i64 (firstIdx p xs 0))∧Below w.heap.size w w':=by
 unfold Len at hl;go_enter Tryz.func162,Tryz.ntmps162;go_wp2
 go_loopw[5,8] (fun _ i wr=>∃n:Nat,i=.int .i64 n∧n≤xs.length∧Below w.heap.size w wr∧Hid (firstIdx p xs 0=firstIdx p (xs.drop n) n)) (fun _ i _=>xs.length-(intOf i).toNat)
 case atStart=>exact⟨0,rfl,Nat.zero_le _,Below.refl _ _,by simp[Hid]⟩
 case round=>
  obtain⟨n,rfl,hn,hb,hf⟩:=hrel
  by_cases hlt:n<xs.length
  · obtain⟨b,off,rfl,hbs,hc⟩:=hr.int (hW.trans (hb.mono hW.size)) hlt
    have hcl:=hp _ (mem_of_ith hlt) wr hb;have hd:=Lib.hid (drop_ith hlt);cases hx:p (ith xs n)
    · rw[hx]at hcl
      have hf2:=Lib.hid (show firstIdx p xs 0=firstIdx p (xs.drop (n+1)) (n+1) by rw[hf.out,hd.out,firstIdx,if_neg (by rw[hx];decide)]);clear hx;go_wp2_with(go_at_fn k;refine hcl.mono ?_;(rintro e w1 ⟨rfl,hb1⟩;obtain⟨hc1,hf1⟩:=bcell hb1;have hz1:=hb1.size;try simp at hz1;try have hy1:=Nat.lt_of_succ_le hz1;try have hx1:=Nat.lt_of_succ_lt hy1;try have hw1:=Nat.lt_of_succ_lt hx1));go_roundw
      case rel=>exact⟨n+1,ZN,ZO,BL,hf2⟩
      case measure=>simp[intOf];omega
    · rw[hx]at hcl
      have hf2:=Lib.hid (show firstIdx p xs 0=n by rw[hf.out,hd.out,firstIdx,if_pos hx]);clear hx;go_wp2_with(go_at_fn k;refine hcl.mono ?_;(rintro e w1 ⟨rfl,hb1⟩;obtain⟨hc1,hf1⟩:=bcell hb1;have hz1:=hb1.size;try simp at hz1;try have hy1:=Nat.lt_of_succ_le hz1;try have hx1:=Nat.lt_of_succ_lt hy1;try have hw1:=Nat.lt_of_succ_lt hx1));go_ret;exact⟨ret_int hf2.out.symm,BL⟩
  · have hf2:=Lib.hid (show firstIdx p xs 0=-1 by rw[hf.out,List.drop_eq_nil_of_le ZO];rfl)
    go_wp2;go_ret;exact⟨ret_int hf2.out.symm,hb⟩
theorem containsI2_calls{W w:World}{A:Option Addr}{c0:Nat}{xs:List Int}(hr:Rd W.heap.size A xs 1 (IntC W))(hl:Len xs.length)(hW:Below W.heap.size W w)(k:FuncId)(c d:Value)(p:Int→Bool)(eg:∀args w,(callFunc k args).run Tryz.prog w=.ok (.enter k args) w)(hp:PredI2 w k c d xs p) :
 Calls Tryz.prog 130 #[.slice A xs.length c0,.func (.func k) #[] #[c,d]] w fun e w'=>e=.returned (.bool (xs.any p))∧Below w.heap.size w w':=by
 have hi:=indexI2_calls (c0:=c0) hr hl hW k c d p eg hp;go_enter Tryz.func130,Tryz.ntmps130;go_wp2_with(go_at_call 162;refine hi.mono ?_;rintro e w1 ⟨rfl,hb⟩);go_ret;exact⟨ret_bool' (by simp only[decide_eq_true_eq];exact firstIdx_neg p xs 0),hb⟩
theorem eg_kphi1:∀args w,(callFunc 144 args).run Tryz.prog w=.ok (.enter 144 args) w:=fun _ _=>by kernel_rfl
theorem kphi1_calls{W w:World}{fv pv c d:Value}{F:PFunc}{x:PPhi}(hF:FnV W W.heap.size fv F)(hW:Below W.heap.size W w)(hc:FnBox w c fv)(hd:FnBox w d pv)(hp:PhiV W W.heap.size pv x)
 {v:Int} (hv:inB v F.vars.length=true) (hx:inB x.dst F.vars.length=true) :
 Calls Tryz.prog 144 #[.int .i64 v,c,d] w fun e w'=>e=.returned (.bool (tyOf F v !=tyOf F x.dst))∧Below w.heap.size w w':=by
 have h1:=fun(w:World) (h:Below W.heap.size W w)=>kindIn_calls hF h hv
 have h2:=fun(w:World) (h:Below W.heap.size W w)=>kindIn_calls hF h hx
 have hWs:=hW.size;obtain⟨b,y0,y1,y2,rfl,rfl,hl,h00,h01,h02⟩:=hc;obtain⟨b',z0,z1,z2,rfl,rfl,hl',h10,h11,h12⟩:=hd;obtain⟨A1,c1,A2,c2,hpe,-⟩:=hp.open_;simp only[Value.agg.injEq,Array.mk.injEq,List.cons.injEq,and_true]at hpe;obtain⟨rfl,rfl,rfl⟩:=hpe;go_enter Tryz.func144,Tryz.ntmps144;go_wp2_with fail;obtain⟨S0,hS0⟩:∃S0:World→Prop,S0=fun w'=>w'.cell? ⟨b,0,none⟩=some y0∧w'.cell? ⟨b,1,none⟩=some y1∧w'.cell? ⟨b,2,none⟩=some y2∧w'.cell? ⟨b',0,none⟩=some (.int .i64 x.dst)∧Below w.heap.size w w'∧b<w'.heap.size∧b'<w'.heap.size:=⟨_,rfl⟩
 have HS0:=Lib.hid hS0;clear hS0;have k0:=fun xw=>(WS.at HS0 xw).1
 have k1:=fun xw=>(WS.at HS0 xw).2.1
 have k2:=fun xw=>(WS.at HS0 xw).2.2.1
 have k3:=fun xw=>(WS.at HS0 xw).2.2.2.1
 have k4:=fun xw=>(WS.at HS0 xw).2.2.2.2.1
 have k5:=fun xw=>(WS.at HS0 xw).2.2.2.2.2.1
 have k6:=fun xw=>(WS.at HS0 xw).2.2.2.2.2.2
 refine wp_region_sched (S:=S0) [0,1,3,4,5,2,6,7,8] ZK ZK (fun _ _ _ _ _ h=>h) ?hS (fun hSc=>?_)
 case hS=>
  rw[HS0.out];exact⟨ZI,ZI,ZI,ZI,BL,ZJ,ZJ⟩
 have hne0:Nonempty (WS S0):=⟨⟨_,hSc⟩⟩;simp only[List.map_cons,List.map_nil,List.getD_cons_succ,List.getD_cons_zero]
 repeat
  first
  |((with_reducible refine wpSch_lk ?_ ?_);exact rfl;go_big_quiet_step (fail);(try with_reducible refine wpQuiet_nil ?_);(try dsimp only))
  |((with_reducible refine wpSch_act ?_ ?_ (fun K hK=>?_))
    exact rfl;exact rfl;go_simp;(try go_wp2_with(first|(go_at_call 145;first|(with_reducible refine(h1 _ (hW.trans ((k4 ⟨_,hSc⟩).mono hWs))).mono ?_;(rintro e w9 ⟨rfl,hb9⟩;obtain⟨hc9,hf9⟩:=bcell hb9;have hz9:=hb9.size;try simp at hz9;try have hy9:=Nat.lt_of_succ_le hz9;try have hx9:=Nat.lt_of_succ_lt hy9;try have hw9:=Nat.lt_of_succ_lt hx9))|(with_reducible refine(h2 _ (hW.trans ((k4 ⟨_,hSc⟩).mono hWs))).mono ?_;(rintro e w9 ⟨rfl,hb9⟩;obtain⟨hc9,hf9⟩:=bcell hb9;have hz9:=hb9.size;try simp at hz9;try have hy9:=Nat.lt_of_succ_le hz9;try have hx9:=Nat.lt_of_succ_lt hy9;try have hw9:=Nat.lt_of_succ_lt hx9)))));refine hK.out _ _ ?hS (fun hSc=>?_)
    case hS=>
     first
     |exact hSc
     |(rw[HS0.out]at hSc ⊢;obtain⟨p0,p1,p2,p3,p4,p5,p6⟩:=hSc;exact⟨ZC0,ZC1,ZC2,ZC3,(by first|exact p4.trans (hb9.mono (by have:=p4.size;first|omega|(simp at this ⊢;omega)))|exact BL),(by first|exact Nat.lt_of_lt_of_le p5 hb9.size|exact ZT),ZT6⟩)
    clear hK K)
 refine wpSch_nil ?_;rw[HS0.out]at hSc;obtain⟨p0,p1,p2,p3,p4,p5,p6⟩:=hSc;clear hne0 HS0 k0 k1 k2 k3 k4 k5 k6;go_wp2;go_ret;exact⟨rfl,p4⟩
end Go.Proofs.YtlhhfcleioikoaaGreatDoor
namespace Go.Proofs.YtlhhfcleioikoaaGreatDoor
open Go.RowKit
set_option maxRecDepth 100000
theorem FnBox.newP(w:World)(x y z:Value)(t:TypeId){w':World}(hb:Below (w.heap.size+1) (w.alloc (.cells #[x,y,z] t)) w'):FnBox w' (.pointer (some ⟨w.heap.size,0,none⟩)) (.agg #[x,y,z]):=FnBox.of3 hb
def phiT(F:PFunc)(x:PPhi):Bool:=x.args.all fun v=>tyOf F v==tyOf F x.dst
def termT(F:PFunc)(t:PTerm):Bool:=
 if t.kind=0 then t.t0 !=0 else if t.kind=1 then tyOf F t.var==1&&t.t0 !=0&&t.t1 !=0 else tyOf F t.var==0
set_option maxHeartbeats 400000 in
theorem kphi_calls{W w:World}{fv pv:Value}{F:PFunc}{x:PPhi}(hF:FnV W W.heap.size fv F)(hp:PhiV W W.heap.size pv x)(hW:Below W.heap.size W w)
 (ha:varsB F x.args=true) (hx:inB x.dst F.vars.length=true) :
 Calls Tryz.prog 120 #[fv,pv] w fun e w'=>e=.returned (.bool (phiT F x))∧Below w.heap.size w w':=by
 have hWs:=hW.size;obtain⟨A0,c0,A1,c1,A2,c2,rfl,-⟩:=id hF.open_;obtain⟨A3,c3,A4,c4,rfl,l3,l4,k3,k4,r3,r4⟩:=id hp.open_;have hpr:PredI2 ((w.alloc (.cells #[.slice A0 F.vars.length c0,.slice A1 F.params.length c1,.slice A2 F.blocks.length c2] 26)).alloc (.cells #[.int .i64 x.dst,.slice A3 x.args.length c3,.slice A4 x.froms.length c4] 66)) 144 (.pointer (some ⟨w.heap.size,0,none⟩)) (.pointer (some ⟨w.heap.size+1,0,none⟩)) x.args (fun v=>tyOf F v !=tyOf F x.dst):=by
  intro v hv w1 hb1;have hz:=hb1.size;simp at hz;refine kphi1_calls hF (hW.trans ?_) (FnBox.of3 (w:=w) (t:=26) ?_) ?_ hp (List.all_eq_true.1 ha v hv) hx
  · refine Below.mono (((Below.refl w.heap.size w).alloc (Nat.le_refl _) (.cells #[.slice A0 F.vars.length c0,.slice A1 F.params.length c1,.slice A2 F.blocks.length c2] 26)).alloc ZS (.cells #[.int .i64 x.dst,.slice A3 x.args.length c3,.slice A4 x.froms.length c4] 66) |>.trans (hb1.mono ZX)) hWs
  · refine Below.trans ?_ (hb1.mono ZS)
    exact(Below.refl _ _).alloc ZS _
  · have:=FnBox.of3 (w:=w.alloc (.cells #[.slice A0 F.vars.length c0,.slice A1 F.params.length c1,.slice A2 F.blocks.length c2] 26)) (t:=66) (hb1.mono ZS)
    simpa using this
 go_enter Tryz.func120,Tryz.ntmps120;go_wp2_with(go_at_call 130;refine(containsI2_calls r3 l3 BL _ _ _ _ eg_kphi1 hpr).mono ?_;rintro e w1 ⟨rfl,hb⟩);go_ret;exact⟨ret_bool (by unfold phiT;rw[List.all_eq_not_any_not];simp[bne]),BL⟩
set_option maxHeartbeats 400000 in
theorem kterm_calls{W w:World}{fv:Value}{F:PFunc}(t:PTerm)(hF:FnV W W.heap.size fv F)(hW:Below W.heap.size W w)(hv:t.kind≠0→inB t.var F.vars.length=true) :
 Calls Tryz.prog 122 #[fv,.agg #[.int .i64 t.kind,.int .i64 t.var,.int .i64 t.t0,.int .i64 t.t1]] w fun e w'=>e=.returned (.bool (termT F t))∧Below w.heap.size w w':=by
 have hWs:=hW.size;obtain⟨A0,c0,A1,c1,A2,c2,rfl,-⟩:=id hF.open_
 by_cases h0:t.kind=0
 · have HF:=Lib.hid (show termT F t=(t.t0 !=0) by rw[termT,if_pos h0])
   by_cases h1:t.t0=0
   all_goals
    go_enter Tryz.func122,Tryz.ntmps122;go_wp2;go_ret;exact⟨ret_bool (by rw[HF.out]<;>simp[h1]),BL⟩
 have hk:=fun(w:World) (h:Below W.heap.size W w)=>kindIn_calls hF h (hv h0)
 by_cases h1:t.kind=1
 · have HF:=Lib.hid (show termT F t=(tyOf F t.var==1&&t.t0 !=0&&t.t1 !=0) by rw[termT,if_neg h0,if_pos h1])
   by_cases h2:tyOf F t.var=1
   · by_cases h3:t.t0=0
     all_goals
      go_enter Tryz.func122,Tryz.ntmps122;go_wp2_with(go_at_call 145;refine(hk _ BL).mono ?_;(rintro e w1 ⟨rfl,hb1⟩;obtain⟨hc1,hf1⟩:=bcell hb1;have hz1:=hb1.size;try simp at hz1;try have hy1:=Nat.lt_of_succ_le hz1;try have hx1:=Nat.lt_of_succ_lt hy1;try have hw1:=Nat.lt_of_succ_lt hx1));go_ret;exact⟨ret_bool (by rw[HF.out];simp[h2,h3]),BL⟩
   · go_enter Tryz.func122,Tryz.ntmps122
     go_wp2_with(go_at_call 145;refine(hk _ BL).mono ?_;(rintro e w1 ⟨rfl,hb1⟩;obtain⟨hc1,hf1⟩:=bcell hb1;have hz1:=hb1.size;try simp at hz1;try have hy1:=Nat.lt_of_succ_le hz1;try have hx1:=Nat.lt_of_succ_lt hy1;try have hw1:=Nat.lt_of_succ_lt hx1));go_ret;exact⟨ret_bool (by rw[HF.out];simp[h2]),BL⟩
 · have HF:=Lib.hid (show termT F t=(tyOf F t.var==0) by rw[termT,if_neg h0,if_neg h1])
   go_enter Tryz.func122,Tryz.ntmps122;go_wp2_with(go_at_call 145;refine(hk _ BL).mono ?_;(rintro e w1 ⟨rfl,hb1⟩;obtain⟨hc1,hf1⟩:=bcell hb1;have hz1:=hb1.size;try simp at hz1;try have hy1:=Nat.lt_of_succ_le hz1;try have hx1:=Nat.lt_of_succ_lt hy1;try have hw1:=Nat.lt_of_succ_lt hx1));go_ret;exact⟨ret_bool HF.out.symm,BL⟩
def takesT(F:PFunc):List Int→List Int→Bool
 |a::l,t::m=>tyOf F a==t&&takesT F l m
 |_,_=>true
def instT(F:PFunc)(x:PInst):Bool:=
 if x.op=1 then tyOf F x.dst==tyOf F (ith x.args 0) else takesT F x.args (takesOf x.op)&&(!makesB x.op||tyOf F x.dst==makesT x.op)
theorem takesT_drop{F:PFunc}{l m:List Int}{n:Nat}(ha:n<l.length)(ht:n<m.length):takesT F (l.drop n) (m.drop n)=(tyOf F (ith l n)==ith m n&&takesT F (l.drop (n+1)) (m.drop (n+1))):=by
 rw[drop_ith ha,drop_ith ht];rfl
theorem takesT_end{F:PFunc}{l m:List Int}{n:Nat}(ht:m.length≤n):takesT F (l.drop n) (m.drop n)=true:=by
 rw[List.drop_eq_nil_of_le ht];cases l.drop n<;>rfl
set_option maxHeartbeats 1000000 in
theorem kinst_calls{W w:World}{fv xv:Value}{F:PFunc}{x:PInst}(hF:FnV W W.heap.size fv F)(hx:InstV W W.heap.size xv x)(hW:Below W.heap.size W w)
 (hv:varsB F x.args=true) (hl:x.args.length=(takesOf x.op).length) (hd:makesB x.op=true→inB x.dst F.vars.length=true) :
 Calls Tryz.prog 121 #[fv,xv] w fun e w'=>e=.returned (.bool (instT F x))∧Below w.heap.size w w':=by
 have hWs:=hW.size;obtain⟨A0,c0,A1,c1,A2,c2,rfl,-⟩:=id hF.open_;obtain⟨A3,c3,rfl,l3,k3,r3⟩:=id hx.open_;unfold Len at *;have hany:=fun w=>any_calls (w:=w) x.op
 by_cases h0:x.op=1
 · have HF:=Lib.hid (show instT F x=(tyOf F x.dst==tyOf F (ith x.args 0)) by rw[instT,if_pos h0])
   have hlt:0<x.args.length:=by rw[hl,h0];decide +kernel
   have h1:=fun(w:World) (h:Below W.heap.size W w)=>kindIn_calls hF h (hd (by rw[h0];decide +kernel))
   have h2:=fun(w:World) (h:Below W.heap.size W w)=>kindIn_calls hF h (List.all_eq_true.1 hv _ (mem_of_ith hlt))
   obtain⟨b,off,rfl,hbs,hc⟩:=r3.int hW hlt;rw[show decide (x.op=1)=true by simp[h0]]at hany;rw[Nat.add_zero]at hc;clear h0 hl hd;go_enter Tryz.func121,Tryz.ntmps121;go_wp2_with(go_at_call 146;refine(hany _).mono ?_;rintro e w1 ⟨rfl,rfl⟩);obtain⟨S0,hS0⟩:∃S0:World→Prop,S0=fun w'=>w'.cell? ⟨w.heap.size,0,none⟩=some (.slice A0 F.vars.length c0)∧w'.cell? ⟨w.heap.size,1,none⟩=some (.slice A1 F.params.length c1)∧w'.cell? ⟨w.heap.size,2,none⟩=some (.slice A2 F.blocks.length c2)∧w'.cell? ⟨w.heap.size+1,1,none⟩=some (.int .i64 x.dst)∧w'.cell? ⟨w.heap.size+1,2,none⟩=some (.slice (some ⟨b,off,none⟩) x.args.length c3)∧w'.cell? ⟨b,off,none⟩=some (.int .i64 (ith x.args 0))∧Below w.heap.size w w'∧w.heap.size+1<w'.heap.size∧b<w'.heap.size:=⟨_,rfl⟩
   have HS0:=Lib.hid hS0;clear hS0;have k0:=fun xw=>(WS.at HS0 xw).1
   have k1:=fun xw=>(WS.at HS0 xw).2.1
   have k2:=fun xw=>(WS.at HS0 xw).2.2.1
   have k3:=fun xw=>(WS.at HS0 xw).2.2.2.1
   have k4:=fun xw=>(WS.at HS0 xw).2.2.2.2.1
   have k5:=fun xw=>(WS.at HS0 xw).2.2.2.2.2.1
   have k6:=fun xw=>(WS.at HS0 xw).2.2.2.2.2.2.1
   have k7:=fun xw=>(WS.at HS0 xw).2.2.2.2.2.2.2.1
   have k8:=fun xw=>(WS.at HS0 xw).2.2.2.2.2.2.2.2
   refine wp_region_sched (S:=S0) [0,1,2,4,5,6,7,8,3,9,10,11] ZK ZK (fun _ _ _ _ _ h=>h) ?hS (fun hSc=>?_)
   case hS=>
    rw[HS0.out];exact⟨ZI,ZI,ZI,ZI,ZI,ZI,BL,ZJ,ZJ⟩
   have hne0:Nonempty (WS S0):=⟨⟨_,hSc⟩⟩;simp only[List.map_cons,List.map_nil,List.getD_cons_succ,List.getD_cons_zero]
   repeat
    first
    |((with_reducible refine wpSch_lk ?_ ?_);exact rfl;go_big_quiet_step (fail);(try with_reducible refine wpQuiet_nil ?_);(try dsimp only))
    |((with_reducible refine wpSch_act ?_ ?_ (fun K hK=>?_))
      exact rfl;exact rfl;go_simp;(try go_wp2_with(first|(go_at_call 145;first|(with_reducible refine(h1 _ (hW.trans ((k6 ⟨_,hSc⟩).mono hWs))).mono ?_;(rintro e w9 ⟨rfl,hb9⟩;obtain⟨hc9,hf9⟩:=bcell hb9;have hz9:=hb9.size;try simp at hz9;try have hy9:=Nat.lt_of_succ_le hz9;try have hx9:=Nat.lt_of_succ_lt hy9;try have hw9:=Nat.lt_of_succ_lt hx9))|(with_reducible refine(h2 _ (hW.trans ((k6 ⟨_,hSc⟩).mono hWs))).mono ?_;(rintro e w9 ⟨rfl,hb9⟩;obtain⟨hc9,hf9⟩:=bcell hb9;have hz9:=hb9.size;try simp at hz9;try have hy9:=Nat.lt_of_succ_le hz9;try have hx9:=Nat.lt_of_succ_lt hy9;try have hw9:=Nat.lt_of_succ_lt hx9)))));refine hK.out _ _ ?hS (fun hSc=>?_)
      case hS=>
       first
       |exact hSc
       |(rw[HS0.out]at hSc ⊢;obtain⟨p0,p1,p2,p3,p4,p5,p6,p7,p8⟩:=hSc;exact⟨ZC0,ZC1,ZC2,ZC3,ZC4,ZC5,ZL6,ZT7,ZT8⟩)
      clear hK K)
   refine wpSch_nil ?_;rw[HS0.out]at hSc;obtain⟨p0,p1,p2,p3,p4,p5,p6,p7,p8⟩:=hSc;clear hne0 HS0 k0 k1 k2 k3 k4 k5 k6 k7 k8;go_wp2;go_ret;exact⟨ret_bool HF.out.symm,p6⟩
 have HF:=Lib.hid (show instT F x=(takesT F (x.args.drop 0) ((takesOf x.op).drop 0)&&(!makesB x.op||tyOf F x.dst==makesT x.op)) by rw[instT,if_neg h0];rfl);rw[show decide (x.op=1)=false by simp[h0]]at hany;have htk:=fun w=>takes_calls (w:=w) x.op
 have hmk:=fun w=>makes_calls (w:=w) x.op
 have HL:=Lib.hid hl;clear h0 hl;go_enter Tryz.func121,Tryz.ntmps121;go_wp2_with(first|(go_at_call 146;refine(hany _).mono ?_;rintro e w1 ⟨rfl,rfl⟩)|(go_at_call 147;refine(htk _).mono ?_;(rintro e w5 ⟨A5,c5,rfl,l5,k5,r5,hb5⟩;obtain⟨hc5,hf5⟩:=bcell hb5;have hz5:=hb5.size;try simp at hz5;try have hy5:=Nat.lt_of_succ_le hz5;try have hx5:=Nat.lt_of_succ_lt hy5;try have hw5:=Nat.lt_of_succ_lt hx5)));have hW5:Below w.heap.size w w5:=BL;have hq5:w.heap.size+1<w5.heap.size:=by omega
 go_loopw[5,6,27] (fun _ _ i wr=>∃n:Nat,i=.int .i64 n∧n≤(takesOf x.op).length∧Below w5.heap.size w5 wr∧Hid (instT F x=(takesT F (x.args.drop n) ((takesOf x.op).drop n)&&(!makesB x.op||tyOf F x.dst==makesT x.op)))) (fun _ _ i _=>(takesOf x.op).length-(intOf i).toNat)
 case atStart=>exact⟨0,rfl,Nat.zero_le _,Below.refl _ _,HF⟩
 case round=>
  obtain⟨n,rfl,hn,hb,hf⟩:=hrel;obtain⟨hcr,hfr⟩:=bcell hb;have hqr:=Nat.lt_of_lt_of_le hq5 hb.size;have hqr1:=Nat.lt_of_succ_lt hqr;have hq51:=Nat.lt_of_succ_lt hq5;have hB:=hW5.trans (hb.mono hW5.size);have hWr:=hW.trans (hB.mono hWs)
  by_cases hlt:n<(takesOf x.op).length
  · have hlt2:n<x.args.length:=by rw[HL.out];exact hlt
    obtain⟨b,off,rfl,hbs,hc⟩:=r3.int hWr hlt2;obtain⟨b2,off2,rfl,hbs2,hc2⟩:=r5.int hb hlt;have h1:=fun(w:World) (h:Below W.heap.size W w)=>kindIn_calls hF h (List.all_eq_true.1 hv _ (mem_of_ith hlt2))
    have hd2:=Lib.hid (takesT_drop (F:=F) (l:=x.args) (m:=takesOf x.op) (n:=n) hlt2 hlt)
    by_cases hx:tyOf F (ith x.args n)=ith (takesOf x.op) n
    · have HF2:=Lib.hid (show instT F x=(takesT F (x.args.drop (n+1)) ((takesOf x.op).drop (n+1))&&(!makesB x.op||tyOf F x.dst==makesT x.op)) by rw[hf.out,hd2.out,hx];simp)
      have hx':(tyOf F (ith x.args n) !=ith (takesOf x.op) n)=false:=by simpa using hx
      clear hx;go_wp2_with fail;obtain⟨S0,hS0⟩:∃S0:World→Prop,S0=fun w'=>w'.cell? ⟨w.heap.size,0,none⟩=some (.slice A0 F.vars.length c0)∧w'.cell? ⟨w.heap.size,1,none⟩=some (.slice A1 F.params.length c1)∧w'.cell? ⟨w.heap.size,2,none⟩=some (.slice A2 F.blocks.length c2)∧w'.cell? ⟨w.heap.size+1,0,none⟩=some (.int .i64 x.op)∧w'.cell? ⟨w.heap.size+1,2,none⟩=some (.slice (some ⟨b,off,none⟩) x.args.length c3)∧w'.cell? ⟨b,off+n,none⟩=some (.int .i64 (ith x.args n))∧Below wr.heap.size wr w'∧w.heap.size+1<w'.heap.size∧b<w'.heap.size:=⟨_,rfl⟩
      have HS0:=Lib.hid hS0;clear hS0;have k0:=fun xw=>(WS.at HS0 xw).1
      have k1:=fun xw=>(WS.at HS0 xw).2.1
      have k2:=fun xw=>(WS.at HS0 xw).2.2.1
      have k3:=fun xw=>(WS.at HS0 xw).2.2.2.1
      have k4:=fun xw=>(WS.at HS0 xw).2.2.2.2.1
      have k5:=fun xw=>(WS.at HS0 xw).2.2.2.2.2.1
      have k6:=fun xw=>(WS.at HS0 xw).2.2.2.2.2.2.1
      have k7:=fun xw=>(WS.at HS0 xw).2.2.2.2.2.2.2.1
      have k8:=fun xw=>(WS.at HS0 xw).2.2.2.2.2.2.2.2
      refine wp_region_sched (S:=S0) [0,1,2,3,4,5,7,6,8] ZK ZK (fun _ _ _ _ _ h=>h) ?hS (fun hSc=>?_)
      case hS=>
       rw[HS0.out];exact⟨ZI,ZI,ZI,ZI,ZI,ZI,BL,ZJ,ZJ⟩
      have hne0:Nonempty (WS S0):=⟨⟨_,hSc⟩⟩;simp only[List.map_cons,List.map_nil,List.getD_cons_succ,List.getD_cons_zero]
      repeat
       first
       |((with_reducible refine wpSch_lk ?_ ?_);exact rfl;go_big_quiet_step (fail);(try with_reducible refine wpQuiet_nil ?_);(try dsimp only))
       |((with_reducible refine wpSch_act ?_ ?_ (fun K hK=>?_))
         exact rfl;exact rfl;go_simp;(try go_wp2_with(first|(go_at_call 145;refine(h1 _ (hWr.trans ((k6 ⟨_,hSc⟩).mono hWr.size))).mono ?_;(rintro e w9 ⟨rfl,hb9⟩;obtain⟨hc9,hf9⟩:=bcell hb9;have hz9:=hb9.size;try simp at hz9;try have hy9:=Nat.lt_of_succ_le hz9;try have hx9:=Nat.lt_of_succ_lt hy9;try have hw9:=Nat.lt_of_succ_lt hx9))));refine hK.out _ _ ?hS (fun hSc=>?_)
         case hS=>
          first
          |exact hSc
          |(rw[HS0.out]at hSc ⊢;obtain⟨p0,p1,p2,p3,p4,p5,p6,p7,p8⟩:=hSc;exact⟨ZC0,ZC1,ZC2,ZC3,ZC4,ZC5,ZL6,ZT7,ZT8⟩)
         clear hK K)
      refine wpSch_nil ?_;rw[HS0.out]at hSc;obtain⟨p0,p1,p2,p3,p4,p5,p6,p7,p8⟩:=hSc;clear hne0 HS0 k0 k1 k2 k3 k4 k5 k6 k7 k8;go_wp2;go_roundw
      case rel=>exact⟨n+1,ZN,ZO,hb.trans (p6.mono hb.size),HF2⟩
      case measure=>simp[intOf];omega
    · have HF2:=Lib.hid (show instT F x=false by rw[hf.out,hd2.out,beq_eq_false_iff_ne.2 hx];rfl)
      have hx':(tyOf F (ith x.args n) !=ith (takesOf x.op) n)=true:=by simpa using hx
      clear hx;go_wp2_with fail;obtain⟨S0,hS0⟩:∃S0:World→Prop,S0=fun w'=>w'.cell? ⟨w.heap.size,0,none⟩=some (.slice A0 F.vars.length c0)∧w'.cell? ⟨w.heap.size,1,none⟩=some (.slice A1 F.params.length c1)∧w'.cell? ⟨w.heap.size,2,none⟩=some (.slice A2 F.blocks.length c2)∧w'.cell? ⟨w.heap.size+1,0,none⟩=some (.int .i64 x.op)∧w'.cell? ⟨w.heap.size+1,2,none⟩=some (.slice (some ⟨b,off,none⟩) x.args.length c3)∧w'.cell? ⟨b,off+n,none⟩=some (.int .i64 (ith x.args n))∧Below wr.heap.size wr w'∧w.heap.size+1<w'.heap.size∧b<w'.heap.size:=⟨_,rfl⟩
      have HS0:=Lib.hid hS0;clear hS0;have k0:=fun xw=>(WS.at HS0 xw).1
      have k1:=fun xw=>(WS.at HS0 xw).2.1
      have k2:=fun xw=>(WS.at HS0 xw).2.2.1
      have k3:=fun xw=>(WS.at HS0 xw).2.2.2.1
      have k4:=fun xw=>(WS.at HS0 xw).2.2.2.2.1
      have k5:=fun xw=>(WS.at HS0 xw).2.2.2.2.2.1
      have k6:=fun xw=>(WS.at HS0 xw).2.2.2.2.2.2.1
      have k7:=fun xw=>(WS.at HS0 xw).2.2.2.2.2.2.2.1
      have k8:=fun xw=>(WS.at HS0 xw).2.2.2.2.2.2.2.2
      refine wp_region_sched (S:=S0) [0,1,2,3,4,5,7,6,8] ZK ZK (fun _ _ _ _ _ h=>h) ?hS (fun hSc=>?_)
      case hS=>
       rw[HS0.out];exact⟨ZI,ZI,ZI,ZI,ZI,ZI,BL,ZJ,ZJ⟩
      have hne0:Nonempty (WS S0):=⟨⟨_,hSc⟩⟩;simp only[List.map_cons,List.map_nil,List.getD_cons_succ,List.getD_cons_zero]
      repeat
       first
       |((with_reducible refine wpSch_lk ?_ ?_);exact rfl;go_big_quiet_step (fail);(try with_reducible refine wpQuiet_nil ?_);(try dsimp only))
       |((with_reducible refine wpSch_act ?_ ?_ (fun K hK=>?_))
         exact rfl;exact rfl;go_simp;(try go_wp2_with(first|(go_at_call 145;refine(h1 _ (hWr.trans ((k6 ⟨_,hSc⟩).mono hWr.size))).mono ?_;(rintro e w9 ⟨rfl,hb9⟩;obtain⟨hc9,hf9⟩:=bcell hb9;have hz9:=hb9.size;try simp at hz9;try have hy9:=Nat.lt_of_succ_le hz9;try have hx9:=Nat.lt_of_succ_lt hy9;try have hw9:=Nat.lt_of_succ_lt hx9))));refine hK.out _ _ ?hS (fun hSc=>?_)
         case hS=>
          first
          |exact hSc
          |(rw[HS0.out]at hSc ⊢;obtain⟨p0,p1,p2,p3,p4,p5,p6,p7,p8⟩:=hSc;exact⟨ZC0,ZC1,ZC2,ZC3,ZC4,ZC5,ZL6,ZT7,ZT8⟩)
         clear hK K)
      refine wpSch_nil ?_;rw[HS0.out]at hSc;obtain⟨p0,p1,p2,p3,p4,p5,p6,p7,p8⟩:=hSc;clear hne0 HS0 k0 k1 k2 k3 k4 k5 k6 k7 k8;go_wp2;go_ret;exact⟨ret_bool HF2.out.symm,hB.trans (p6.mono ZO)⟩
  · have HE:=Lib.hid (show instT F x=(!makesB x.op||tyOf F x.dst==makesT x.op) by rw[hf.out,takesT_end ZO,Bool.true_and])
    clear hf hn;cases hm:makesB x.op
    · rw[hm]at HE hmk
      clear hm;go_wp2_with(go_at_call 148;refine(hmk _).mono ?_;(rintro e w1 ⟨rfl,hb1⟩;obtain⟨hc1,hf1⟩:=bcell hb1;have hz1:=hb1.size;try simp at hz1;try have hy1:=Nat.lt_of_succ_le hz1;try have hx1:=Nat.lt_of_succ_lt hy1;try have hw1:=Nat.lt_of_succ_lt hx1));go_ret;exact⟨ret_bool HE.out.symm,BL⟩
    · have h1:=fun(w:World) (h:Below W.heap.size W w)=>kindIn_calls hF h (hd hm)
      rw[hm]at HE hmk;clear hm;go_wp2_with(first|(go_at_call 148;refine(hmk _).mono ?_;(rintro e w1 ⟨rfl,hb1⟩;obtain⟨hc1,hf1⟩:=bcell hb1;have hz1:=hb1.size;try simp at hz1;try have hy1:=Nat.lt_of_succ_le hz1;try have hx1:=Nat.lt_of_succ_lt hy1;try have hw1:=Nat.lt_of_succ_lt hx1))|(go_at_call 145;refine(h1 _ BL).mono ?_;(rintro e w2 ⟨rfl,hb2⟩;obtain⟨hc2,hf2⟩:=bcell hb2;have hz2:=hb2.size;try simp at hz2;try have hy2:=Nat.lt_of_succ_le hz2;try have hx2:=Nat.lt_of_succ_lt hy2;try have hw2:=Nat.lt_of_succ_lt hx2)));go_ret;exact⟨ret_bool HE.out.symm,BL⟩
end Go.Proofs.YtlhhfcleioikoaaGreatDoor
namespace Go.Proofs.YtlhhfcleioikoaaGreatDoor
open Go.RowKit
set_option maxRecDepth 100000
def blkT(F:PFunc)(b:PBlock):Bool:=b.phis.all (phiT F)&&b.insts.all (instT F)&&termT F b.term
def typedP(F:PFunc):Bool:=shapedP F&&F.blocks.all (blkT F)
def errOf(b:Bool):Int:=if b then 0 else 3
theorem mem_of_blk{F:PFunc}{i:Nat}(h:i<F.blocks.length):F.blk i∈F.blocks:=List.mem_of_getElem? (PFunc.blk_get h)
theorem all_of_not{α:Type}{p:α→Bool}{l:List α}(h:(!(l.any fun x=>!p x))=true):∀x∈l,p x=true:=fun x hx=>by
 rw[List.not_any_eq_all_not,List.all_eq_true]at h;have:=h x hx;simpa using this
theorem shaped_blk{F:PFunc}(h:shapedP F=true){n:Nat}(hn:n<F.blocks.length):(∀x∈(F.blk n).phis,phiB F x=true)∧(∀x∈(F.blk n).insts,instB F x=true)∧termB F (F.blk n).term=true:=by
 unfold shapedP at h;simp only[Bool.and_eq_true,List.all_eq_true]at h;have:=h.1.2 _ (mem_of_blk hn);unfold blockB at this;simp only[Bool.and_eq_true]at this;exact⟨all_of_not this.1.1,all_of_not this.1.2,this.2⟩
theorem phiB_parts{F:PFunc}{x:PPhi}(h:phiB F x=true):varsB F x.args=true∧inB x.dst F.vars.length=true:=by
 unfold phiB at h;simp only[Bool.and_eq_true]at h;exact⟨h.1.2,h.1.1.2⟩
theorem instB_parts{F:PFunc}{x:PInst}(h:instB F x=true):varsB F x.args=true∧x.args.length=(takesOf x.op).length∧(makesB x.op=true→inB x.dst F.vars.length=true):=by
 unfold instB at h;simp only[Bool.and_eq_true,decide_eq_true_eq]at h;refine⟨h.1.1.2,h.1.1.1.2,fun hm=>?_⟩;have:=h.1.2;rw[dstB,if_pos hm]at this;exact this
theorem termB_parts{F:PFunc}{t:PTerm}(h:termB F t=true):t.kind≠0→inB t.var F.vars.length=true:=fun h0=>by
 unfold termB at h;rw[if_neg h0]at h
 by_cases h1:t.kind=1
 · rw[if_pos h1]at h
   simp only[Bool.and_eq_true]at h;exact h.1.1
 · rw[if_neg h1]at h
   by_cases h2:t.kind=2
   · rw[if_pos h2]at h
     simp only[Bool.and_eq_true]at h;exact h.1
   · rw[if_neg h2]at h
     cases h
set_option maxHeartbeats 4000000 in
theorem typed_calls{W w:World}{fv:Value}{F:PFunc}(hU:Uni W)(hF:FnV W W.heap.size fv F)(hW:Below W.heap.size W w)(hS:Small F) :
 Calls Tryz.prog 96 #[fv] w fun e w'=>e=.returned (.int .i64 (errOf (typedP F)))∧Below w.heap.size w w':=by
 have hsh:=fun(w:World) (h:Below W.heap.size W w)=>shaped_calls hU hF h hS
 obtain⟨A0,c0,A1,c1,A2,c2,rfl,l0,l1,l2,-,-,-,r0,r1,r2⟩:=id hF.open_;unfold Len at *;have hWs:=hW.size;cases hs:shapedP F
 · have HF:=Lib.hid (show errOf (typedP F)=3 by rw[typedP,hs];rfl)
   rw[hs]at hsh;clear hs;go_enter Tryz.func96,Tryz.ntmps96;go_wp2_with(go_at_call 119;refine(hsh _ BL).mono ?_;(rintro e w1 ⟨rfl,hb1⟩;obtain⟨hc1,hf1⟩:=bcell hb1;have hz1:=hb1.size;try simp at hz1;try have hy1:=Nat.lt_of_succ_le hz1;try have hx1:=Nat.lt_of_succ_lt hy1;try have hw1:=Nat.lt_of_succ_lt hx1));go_ret;exact⟨ret_int HF.out.symm,BL⟩
 have HN:=Lib.hid (show typedP F=F.blocks.all (blkT F) by rw[typedP,hs];rfl);have HS:=Lib.hid hs;rw[hs]at hsh;clear hs;have hb0:=(Below.refl w.heap.size w).alloc (Nat.le_refl _) (.cells #[.slice A0 F.vars.length c0,.slice A1 F.params.length c1,.slice A2 F.blocks.length c2] 26);go_enter Tryz.func96,Tryz.ntmps96;go_wp2_with(go_at_call 119;refine(hsh _ BL).mono ?_;(rintro e w1 ⟨rfl,hb1⟩;obtain⟨hc1,hf1⟩:=bcell hb1;have hz1:=hb1.size;try simp at hz1;try have hy1:=Nat.lt_of_succ_le hz1;try have hx1:=Nat.lt_of_succ_lt hy1;try have hw1:=Nat.lt_of_succ_lt hx1));have hbb:Below (w.heap.size+1) (w.alloc (.cells #[.slice A0 F.vars.length c0,.slice A1 F.params.length c1,.slice A2 F.blocks.length c2] 26)) w1:=by simpa using hb1
 go_loopw[15] (fun i wr=>∃n:Nat,i=.int .i64 n∧n≤F.blocks.length∧Below (w.heap.size+1) (w.alloc (.cells #[.slice A0 F.vars.length c0,.slice A1 F.params.length c1,.slice A2 F.blocks.length c2] 26)) wr∧
  Hid (typedP F=(F.blocks.drop n).all (blkT F))) (fun i _=>F.blocks.length-(intOf i).toNat)
 case atStart=>exact⟨0,rfl,Nat.zero_le _,hbb,HN⟩
 case round=>
  obtain⟨n,rfl,hn,hb,hf⟩:=hrel;have hB:=hb0.trans (hb.mono (Nat.le_succ _));have hWr:Below W.heap.size W wr:=hW.trans (hB.mono hWs);obtain⟨hq,hq0,hq1,hq2⟩:=box3 hb
  by_cases hlt:n<F.blocks.length
  · obtain⟨bb,off,A3,c3,A4,c4,rfl,hbb,hnz,hy0,hy1,hy2,hy3,hy4,hy5,hy6,l3,l4,k3,k4,r3,r4⟩:=r2.blk hWr hlt
    have hd:=Lib.hid (drop_blk hlt);unfold Len at *;obtain⟨HP,HI,HT⟩:=Lib.hid (shaped_blk HS.out hlt) |>.out;replace HP:=Lib.hid HP;replace HI:=Lib.hid HI;have hT:=fun(w:World) (h:Below W.heap.size W w)=>kterm_calls (F.blk n).term hF h (termB_parts HT)
    clear HT;obtain⟨wo,rfl⟩:∃wo:World,wo=wr:=⟨_,rfl⟩;go_wp2
    go_loopw[22] (fun i wr=>∃m:Nat,i=.int .i64 m∧m≤(F.blk n).phis.length∧Below (wo.alloc (.cells #[.string (F.blk n).name,.slice A3 (F.blk n).phis.length c3,.slice A4 (F.blk n).insts.length c4,.int .i64 (F.blk n).term.kind,.int .i64 (F.blk n).term.var,.int .i64 (F.blk n).term.t0,.int .i64 (F.blk n).term.t1] 42)).heap.size (wo.alloc (.cells #[.string (F.blk n).name,.slice A3 (F.blk n).phis.length c3,.slice A4 (F.blk n).insts.length c4,.int .i64 (F.blk n).term.kind,.int .i64 (F.blk n).term.var,.int .i64 (F.blk n).term.t0,.int .i64 (F.blk n).term.t1] 42)) wr∧
     Hid ((F.blk n).phis.all (phiT F)=((F.blk n).phis.drop m).all (phiT F))) (fun i _=>(F.blk n).phis.length-(intOf i).toNat)
    case atStart=>exact⟨0,rfl,Nat.zero_le _,Below.refl _ _,by simp[Hid]⟩
    case round=>
     obtain⟨m,rfl,hm,hbi,hfi⟩:=hrel;obtain⟨hci,hgi⟩:=bcell hbi;have hzi:=hbi.size;simp at hzi;have hqi:=Nat.lt_of_succ_le hzi;have hqj:=Nat.lt_trans hq hqi;have hBi:Below wo.heap.size wo wr:=((Below.refl _ _).alloc (Nat.le_refl _) _).trans (hbi.mono ZS);have hWi:=hWr.trans (hBi.mono hWr.size)
     by_cases hmt:m<(F.blk n).phis.length
     · obtain⟨b5,off5,A5,c5,A6,c6,rfl,hbb5,hx0,hx1,hx2,l5,l6,k5,k6,r5,r6⟩:=r3.phi hWi hmt
       have hcl:=fun(w:World) (h:Below W.heap.size W w)=>kphi_calls hF (x:=(F.blk n).phi m) ⟨_,_,rfl,⟨A5,c5,rfl,l5,k5,r5⟩,A6,c6,rfl,l6,k6,r6⟩ h (phiB_parts (HP.out _ (mem_of_Phi hmt))).1 (phiB_parts (HP.out _ (mem_of_Phi hmt))).2
       have hdi:=Lib.hid (drop_Phi hmt);cases hx:phiT F ((F.blk n).phi m)
       · have HF:=Lib.hid (show errOf (typedP F)=3 by rw[hf.out,hd.out,List.all_cons,blkT,hfi.out,hdi.out,List.all_cons,hx];rfl)
         rw[hx]at hcl;clear hx;go_wp2_with(go_at_call 120;refine(hcl _ (hWi.trans BL)).mono ?_;(rintro e w2 ⟨rfl,hb2⟩;obtain⟨hc2,hf2⟩:=bcell hb2;have hz2:=hb2.size;try simp at hz2;try have hy2:=Nat.lt_of_succ_le hz2;try have hx2:=Nat.lt_of_succ_lt hy2;try have hw2:=Nat.lt_of_succ_lt hx2));go_ret;exact⟨ret_int HF.out.symm,hB.trans ((hBi.trans BL).mono (Nat.le_of_lt hq))⟩
       · have HF:=Lib.hid (show(F.blk n).phis.all (phiT F)=((F.blk n).phis.drop (m+1)).all (phiT F) by rw[hfi.out,hdi.out,List.all_cons,hx];rfl)
         rw[hx]at hcl;clear hx;go_wp2_with(go_at_call 120;refine(hcl _ (hWi.trans BL)).mono ?_;(rintro e w2 ⟨rfl,hb2⟩;obtain⟨hc2,hf2⟩:=bcell hb2;have hz2:=hb2.size;try simp at hz2;try have hy2:=Nat.lt_of_succ_le hz2;try have hx2:=Nat.lt_of_succ_lt hy2;try have hw2:=Nat.lt_of_succ_lt hx2));go_roundw
         case rel=>exact⟨m+1,ZN,ZO,hbi.trans BL,HF⟩
         case measure=>simp[intOf];omega
     · have hfp:=Lib.hid (show(F.blk n).phis.all (phiT F)=true by rw[hfi.out,List.drop_eq_nil_of_le ZO];rfl)
       clear hfi hgi;obtain⟨wp,rfl⟩:∃wp:World,wp=wr:=⟨_,rfl⟩;go_wp2
       go_loopw[34] (fun i wr=>∃m:Nat,i=.int .i64 m∧m≤(F.blk n).insts.length∧Below wp.heap.size wp wr∧
        Hid ((F.blk n).insts.all (instT F)=((F.blk n).insts.drop m).all (instT F))) (fun i _=>(F.blk n).insts.length-(intOf i).toNat)
       case atStart=>exact⟨0,rfl,Nat.zero_le _,Below.refl _ _,by simp[Hid]⟩
       case round=>
        obtain⟨m,rfl,hm,hbk,hfi⟩:=hrel;obtain⟨hck,hgk⟩:=bcell hbk;have hzk:=hbk.size;have hqk:=Nat.lt_of_lt_of_le hqi hzk;have hql:=Nat.lt_trans hq hqk;have hBk:Below wo.heap.size wo wr:=hBi.trans (hbk.mono hBi.size);have hWk:=hWr.trans (hBk.mono hWr.size)
        by_cases hmt:m<(F.blk n).insts.length
        · obtain⟨b5,off5,A5,c5,rfl,hbb5,hx0,hx1,hx2,hx3,l5,k5,r5⟩:=r4.inst hWk hmt
          have hip:=instB_parts (HI.out _ (mem_of_Inst hmt));have hcl:=fun(w:World) (h:Below W.heap.size W w)=>kinst_calls hF (x:=(F.blk n).inst m) ⟨_,rfl,A5,c5,rfl,l5,k5,r5⟩ h hip.1 hip.2.1 hip.2.2
          clear hip;have hdi:=Lib.hid (drop_Inst hmt);cases hx:instT F ((F.blk n).inst m)
          · have HF:=Lib.hid (show errOf (typedP F)=3 by rw[hf.out,hd.out,List.all_cons,blkT,hfi.out,hdi.out,List.all_cons,hx];simp[errOf])
            rw[hx]at hcl;clear hx;go_wp2_with(go_at_call 121;refine(hcl _ (hWk.trans BL)).mono ?_;(rintro e w2 ⟨rfl,hb2⟩;obtain⟨hc2,hf2⟩:=bcell hb2;have hz2:=hb2.size;try simp at hz2;try have hy2:=Nat.lt_of_succ_le hz2;try have hx2:=Nat.lt_of_succ_lt hy2;try have hw2:=Nat.lt_of_succ_lt hx2));go_ret;exact⟨ret_int HF.out.symm,hB.trans ((hBk.trans BL).mono (Nat.le_of_lt hq))⟩
          · have HF:=Lib.hid (show(F.blk n).insts.all (instT F)=((F.blk n).insts.drop (m+1)).all (instT F) by rw[hfi.out,hdi.out,List.all_cons,hx];rfl)
            rw[hx]at hcl;clear hx;go_wp2_with(go_at_call 121;refine(hcl _ (hWk.trans BL)).mono ?_;(rintro e w2 ⟨rfl,hb2⟩;obtain⟨hc2,hf2⟩:=bcell hb2;have hz2:=hb2.size;try simp at hz2;try have hy2:=Nat.lt_of_succ_le hz2;try have hx2:=Nat.lt_of_succ_lt hy2;try have hw2:=Nat.lt_of_succ_lt hx2));go_roundw
            case rel=>exact⟨m+1,ZN,ZO,hbk.trans BL,HF⟩
            case measure=>simp[intOf];omega
        · have hfq:=Lib.hid (show(F.blk n).insts.all (instT F)=true by rw[hfi.out,List.drop_eq_nil_of_le ZO];rfl)
          cases hx:termT F (F.blk n).term
          · have HF:=Lib.hid (show errOf (typedP F)=3 by rw[hf.out,hd.out,List.all_cons,blkT,hx];simp[errOf])
            rw[hx]at hT;clear hx;go_wp2_with(go_at_call 122;refine(hT _ hWk).mono ?_;(rintro e w2 ⟨rfl,hb2⟩;obtain⟨hc2,hf2⟩:=bcell hb2;have hz2:=hb2.size;try simp at hz2;try have hy2:=Nat.lt_of_succ_le hz2;try have hx2:=Nat.lt_of_succ_lt hy2;try have hw2:=Nat.lt_of_succ_lt hx2));go_ret;exact⟨ret_int HF.out.symm,hB.trans ((hBk.trans BL).mono (Nat.le_of_lt hq))⟩
          · have HF:=Lib.hid (show typedP F=(F.blocks.drop (n+1)).all (blkT F) by rw[hf.out,hd.out,List.all_cons,blkT,hfp.out,hfq.out,hx];rfl)
            rw[hx]at hT;clear hx;go_wp2_with(go_at_call 122;refine(hT _ hWk).mono ?_;(rintro e w2 ⟨rfl,hb2⟩;obtain⟨hc2,hf2⟩:=bcell hb2;have hz2:=hb2.size;try simp at hz2;try have hy2:=Nat.lt_of_succ_le hz2;try have hx2:=Nat.lt_of_succ_lt hy2;try have hw2:=Nat.lt_of_succ_lt hx2));go_roundw
            case rel=>exact⟨n+1,ZN,ZO,hb.trans ((hBk.trans BL).mono (Nat.succ_le_of_lt hq)),HF⟩
            case measure=>simp[intOf];omega
  · have hf2:=Lib.hid (show errOf (typedP F)=0 by rw[hf.out,List.drop_eq_nil_of_le ZO];rfl)
    go_wp2;go_ret;exact⟨ret_int hf2.out.symm,hB⟩
end Go.Proofs.YtlhhfcleioikoaaGreatDoor
namespace Go.Proofs.YtlhhfcleioikoaaGreatDoor
open Go.RowKit
set_option maxRecDepth 100000
def endsOf(t:PTerm):List Int:=if t.kind=0 then [t.t0] else if t.kind=1 then(if t.t0=t.t1 then [t.t0] else [t.t0,t.t1]) else []
theorem endsOf_len(t:PTerm):(endsOf t).length≤2:=by
 unfold endsOf;split
 · exact ZS
 · split
   · split<;>simp
   · exact ZS
theorem endsOf_leads{t:PTerm}{b:Int}:b∈endsOf t↔leads t b=true:=by
 unfold endsOf leads
 by_cases h0:t.kind=0
 · simp[h0];omega
 · by_cases h1:t.kind=1
   · by_cases h2:t.t0=t.t1
     · simp[h1,h2];omega
     · simp[h1,h2];omega
   · simp[h0,h1]
theorem RetInts.nil_{w w':World}(hb:Below w.heap.size w w'):RetInts w [] (.returned (.slice none 0 0)) w':=⟨none,0,rfl,by simp[Len],ZS,fun i x hx=>by simp at hx,hb⟩
theorem RetInts.one{w w':World}{b:Nat}{x:Int}{c:Nat}(hc:1≤c)(hb:b<w'.heap.size)(h:w'.cell? ⟨b,0,none⟩=some (.int .i64 x))(hB:Below w.heap.size w w'):RetInts w [x] (.returned (.slice (some ⟨b,0,none⟩) 1 c)) w':=by
 refine⟨_,_,rfl,by simp[Len],hc,?_,hB⟩;intro i y hy
 match i,hy with
 |0,hy=>exact⟨b,0,rfl,hb,by have e:x=y:=Option.some.inj hy;subst e;exact h⟩
 |i+1,hy=>cases(show(none:Option Int)=some y from hy)
theorem RetInts.two{w w':World}{b:Nat}{x y:Int}{c:Nat}(hc:2≤c)(hb:b<w'.heap.size)(h:w'.cell? ⟨b,0,none⟩=some (.int .i64 x))(h1:w'.cell? ⟨b,1,none⟩=some (.int .i64 y))(hB:Below w.heap.size w w'):RetInts w [x,y] (.returned (.slice (some ⟨b,0,none⟩) 2 c)) w':=by
 refine⟨_,_,rfl,by simp[Len],hc,?_,hB⟩;intro i z hz
 match i,hz with
 |0,hz=>exact⟨b,0,rfl,hb,by have e:x=z:=Option.some.inj hz;subst e;exact h⟩
 |1,hz=>exact⟨b,0,rfl,hb,by have e:y=z:=Option.some.inj hz;subst e;exact h1⟩
 |i+2,hz=>cases(show(none:Option Int)=some z from hz)
theorem ends_calls{w:World}(t:PTerm) :
 Calls Tryz.prog 46 #[.agg #[.int .i64 t.kind,.int .i64 t.var,.int .i64 t.t0,.int .i64 t.t1]] w (RetInts w (endsOf t)):=by
 by_cases h0:t.kind=0
 · have HF:=Lib.hid (show endsOf t=[t.t0] by rw[endsOf,if_pos h0])
   go_enter Tryz.func46,Tryz.ntmps46;go_wp2;go_ret;rw[HF.out];exact RetInts.one (Nat.le_refl _) (by first|omega|exact Below.size ZA|(simp;done)|(simp;omega)) ZS BL
 by_cases h1:t.kind=1
 · by_cases h2:t.t0=t.t1
   · have HF:=Lib.hid (show endsOf t=[t.t0] by rw[endsOf,if_neg h0,if_pos h1,if_pos h2])
     go_enter Tryz.func46,Tryz.ntmps46;go_wp2;go_ret;rw[HF.out];exact RetInts.one (Nat.le_refl _) (by first|omega|exact Below.size ZA|(simp;done)|(simp;omega)) (by simp[h2]) BL
   · have HF:=Lib.hid (show endsOf t=[t.t0,t.t1] by rw[endsOf,if_neg h0,if_pos h1,if_neg h2])
     go_enter Tryz.func46,Tryz.ntmps46;go_wp2;go_ret;rw[HF.out];exact RetInts.two (Nat.le_refl _) (by first|omega|exact Below.size ZA|(simp;done)|(simp;omega)) ZS ZS BL
 · have HF:=Lib.hid (show endsOf t=[] by rw[endsOf,if_neg h0,if_neg h1])
   go_enter Tryz.func46,Tryz.ntmps46;go_wp2;go_ret;rw[HF.out];exact RetInts.nil_ BL
theorem right_calls{W w:World}{fv:Value}{F:PFunc}(hU:Uni W)(hF:FnV W W.heap.size fv F)(hW:Below W.heap.size W w)(hS:Small F) :
 Calls Tryz.prog 84 #[fv] w fun e w'=>e=.returned (.bool (typedP F))∧Below w.heap.size w w':=by
 have ht:=fun(w:World) (h:Below W.heap.size W w)=>typed_calls hU hF h hS
 have hWs:=hW.size;obtain⟨A0,c0,A1,c1,A2,c2,rfl,-⟩:=id hF.open_;cases hx:typedP F
 all_goals
  rw[hx]at ht;unfold errOf at ht;clear hx;go_enter Tryz.func84,Tryz.ntmps84;go_wp2_with(go_at_call 96;refine(ht _ BL).mono ?_;(rintro e w1 ⟨rfl,hb1⟩;obtain⟨hc1,hf1⟩:=bcell hb1;have hz1:=hb1.size;try simp at hz1;try have hy1:=Nat.lt_of_succ_le hz1;try have hx1:=Nat.lt_of_succ_lt hy1;try have hw1:=Nat.lt_of_succ_lt hx1));go_ret;exact⟨rfl,BL⟩
end Go.Proofs.YtlhhfcleioikoaaGreatDoor
namespace Go.Proofs.YtlhhfcleioikoaaGreatDoor
open Go.RowKit
theorem own_ne{w:World}{B B' e e' size size' n n':Nat}{v v':Value}{xs xs':List Value}(h:w.ownsRow B e size v n xs)(h':w.ownsRow B' e' size' v' n' xs')(hne:e≠e'){g:Nat}(hg:v.ownBlock=some g):v'.ownBlock≠some g:=by
 intro hg';rcases h.2 with⟨rfl,_⟩|⟨g1,cap,cur,rfl,_,h1,_⟩
 · simp[Value.ownBlock]at hg
 · rcases h'.2 with⟨rfl,_⟩|⟨g2,cap',cur',rfl,_,h2,_⟩
   · simp[Value.ownBlock]at hg'
   · simp only[Value.ownBlock,Option.some.injEq]at hg hg'
     subst hg;subst hg';rw[h1]at h2;simp only[Option.some.injEq,Obj.cells.injEq]at h2;exact hne h2.2.1
theorem own_grown{w a w':World}{base e sz n:Nat}{v:Value}{xs:List Value}{r:Option Nat}(h:w.ownsRow base e sz v n xs)(ha:Below w.heap.size w a)(hg:a.grownBy w' r)(hne:∀g,v.ownBlock=some g→r≠some g):w'.ownsRow base e sz v n xs:=by
 obtain⟨hl,h⟩:=h;refine⟨hl,?_⟩;rcases h with h|⟨g,cap,cur,hv,hb,hh,rest⟩
 · exact .inl h
 · have hlt:=(Array.getElem?_eq_some_iff.1 hh).1
   exact .inr ⟨g,cap,cur,hv,hb,by rw[hg.block g (Nat.lt_of_lt_of_le hlt ha.size) (fun e=>hne g (by subst hv;rfl) e.symm),ha.block g hlt];exact hh,rest⟩
theorem own_lt{w:World}{base e sz n:Nat}{v:Value}{xs:List Value}(h:w.ownsRow base e sz v n xs){g:Nat}(hg:v.ownBlock=some g):base≤g∧g<w.heap.size:=h.lt g hg
theorem own_succ{w:World}{base e sz n:Nat}{v:Value}{xs:List Value}(h:w.ownsRow base e sz v (n+1) xs):∃g cap,v=.slice (some ⟨g,0,none⟩) (n+1) cap∧base≤g∧g<w.heap.size∧n+1≤cap∧cap≤maxLen:=by
 rcases h.2 with⟨_,h0⟩|⟨g,cap,cur,hv,h1,h2,h3,h4,_⟩
 · cases h0
 · exact⟨g,cap,hv,h1,(Array.getElem?_eq_some_iff.1 h2).1,h3,h4⟩
def flatF:List (Nat×Nat)→List Value
 |[]=>[]
 |p::r=>flatF r++[.int .i64 (p.1:Int),.int .i64 (p.2:Int)]
theorem flatF_len:∀l,(flatF l).length=l.length*2
 |[]=>rfl
 |p::r=>by simp[flatF,flatF_len r];omega
theorem flatF_top0(p:Nat×Nat)(r:List (Nat×Nat)):(flatF (p::r))[r.length*2]?=some (.int .i64 (p.1:Int)):=by
 rw[← flatF_len r];simp[flatF]
theorem flatF_top1(p:Nat×Nat)(r:List (Nat×Nat)):(flatF (p::r))[r.length*2+1]?=some (.int .i64 (p.2:Int)):=by
 rw[← flatF_len r];simp[flatF]
theorem flatF_set(b k k':Nat)(r:List (Nat×Nat)):(flatF ((b,k)::r)).set (r.length*2+1) (.int .i64 (k':Int))=flatF ((b,k')::r):=by
 rw[← flatF_len r];simp[flatF]
theorem own_pop{w:World}{base e g cap:Nat}{p:Nat×Nat}{r:List (Nat×Nat)}(h:w.ownsRow base e 2 (.slice (some ⟨g,0,none⟩) (r.length+1) cap) (r.length+1) (flatF (p::r))) :
 w.ownsRow base e 2 (.slice (some ⟨g,0,none⟩) r.length cap) r.length (flatF r):=by
 obtain⟨h1,h2⟩:=h;rcases h2 with⟨h0,_⟩|⟨g',cap',cur,hv,hg,hh,hn,hcap,hsz,htake⟩
 · cases h0
 · cases hv
   refine⟨flatF_len r,.inr ⟨g,cap,cur,rfl,hg,hh,ZO,hcap,hsz,?_⟩⟩;have h3:(cur.toList.take ((r.length+1)*2)).take (r.length*2)=(flatF (p::r)).take (r.length*2):=by rw[htake]
   rw[List.take_take,Nat.min_eq_left ZO]at h3;rw[h3,← flatF_len r,flatF];simp
theorem cell_two_new(w:World)(a b:Value)(t:TypeId):∀j u,[a,b][j]?=some u→(w.alloc (.cells #[a,b] t)).cell? ((⟨w.heap.size,0,none⟩:Addr).add j)=some u:=by
 intro j u hj
 match j,hj with
 |0,hj=>simp at hj;subst hj;simp[Addr.add]
 |1,hj=>simp at hj;subst hj;simp[Addr.add]
 |j+2,hj=>simp at hj
theorem wpList_append2{P:Program}(w:World){ops:Array Oper}{rest:List Oper}{o:Oper}{a:Act}{Q:Exit→Act→World→Prop}(hgd:o.guard=none)(s x:Operand)(t:TypeId)
 (ho:o.op=.call { callee:=.builtin .append,args:=#[s,x],argTypes:=#[t,t] })
 (base:Nat) (e:TypeId) (bytes:Nat) (ht:P.underlying t=some (.slice e)) {z:Value} (hinf:(P.info? e).map (fun i=>(i.zero,i.size,i.bytes))=some (some z,2,bytes)) (hz1:z.cells.size=2)
 (v:Value) (n:Nat) (xs:List Value) (hs:a.eval s=v) (hown:w.ownsRow base e 2 v n xs)
 (N:Nat) (hN:w.heap.size=N) (u1 u2:Value) (hx:a.eval x=.slice (some ⟨N,0,none⟩) 1 1) (h1:u1.oneCell'=true) (h2:u2.oneCell'=true)
 (h63:n<1048576) (hby:bytes≤64) (hbase:base≤w.heap.size)
 (h:∀v' w',w'.ownsRow base e 2 v' (n+1) (xs++[u1,u2])→(w.alloc (.cells #[u1,u2] e)).grownBy w' v.ownBlock→wpList P ops Q rest (a.put o.dst v') w') :
 wpList P ops Q (o::rest) a (w.alloc (.cells #[u1,u2] e)):=by
 subst hN;obtain⟨i,hi,hz,hsz,hb⟩:=info_parts hinf;refine wpList_append_own _ hgd s x t ho base e i z 2 bytes ht hi hz hsz hb hz1 ZD v n xs hs (hown.alloc _) ⟨w.heap.size,0,none⟩ 1 1 [u1,u2] hx rfl (cell_two_new w u1 u2 e) (fun q hq=>by simp at hq;rcases hq with rfl|rfl<;>assumption) (by unfold maxLen;omega) ?_ ZX (fun v' w' a b _=>h v' w' a b)
 calc(n+1)*bytes≤1048576*64:=Nat.mul_le_mul ZO hby
  _≤140737488355328:=by decide
def dfs(E:Nat→List Nat):Nat→List Bool→List Nat→List (Nat×Nat)→List Nat
 |0,_,out,_=>out
 |_+1,_,out,[]=>out
 |f+1,seen,out,(b,k)::r=>
  if k=(E b).length then dfs E f seen (out++[b]) r
  else if seen.getD ((E b).getD k 0) false then dfs E f seen out ((b,k+1)::r)
  else dfs E f (seen.set ((E b).getD k 0) true) out (((E b).getD k 0,0)::(b,k+1)::r)
theorem dfs_nil{E:Nat→List Nat}{f:Nat}{seen:List Bool}{out:List Nat}:dfs E f seen out []=out:=by cases f<;>rfl
theorem dfs_pop{E:Nat→List Nat}{f b k:Nat}{seen:List Bool}{out:List Nat}{r:List (Nat×Nat)}(h:k=(E b).length):dfs E (f+1) seen out ((b,k)::r)=dfs E f seen (out++[b]) r:=by rw[dfs,if_pos h]
theorem dfs_old{E:Nat→List Nat}{f b k c:Nat}{seen:List Bool}{out:List Nat}{r:List (Nat×Nat)}(h:k≠(E b).length)(hc:(E b).getD k 0=c)(hs:seen.getD c false=true) :
 dfs E (f+1) seen out ((b,k)::r)=dfs E f seen out ((b,k+1)::r):=by rw[dfs,if_neg h,hc,if_pos hs]
theorem dfs_new{E:Nat→List Nat}{f b k c:Nat}{seen:List Bool}{out:List Nat}{r:List (Nat×Nat)}(h:k≠(E b).length)(hc:(E b).getD k 0=c)(hs:seen.getD c false=false) :
 dfs E (f+1) seen out ((b,k)::r)=dfs E f (seen.set c true) out ((c,0)::(b,k+1)::r):=by rw[dfs,if_neg h,hc,hs];rfl
def frW(E:Nat→List Nat):List (Nat×Nat)→Nat
 |[]=>0
 |(b,k)::r=>((E b).length-k+1)+frW E r
structure DfsOk (E:Nat→List Nat) (n:Nat) (seen:List Bool) (out:List Nat) (stk:List (Nat×Nat)):Prop where
 len:seen.length=n
 cnt:seen.count true=out.length+stk.length
 frames:∀p∈stk,p.1<n∧p.2≤(E p.1).length
 outs:∀b∈out,b<n
theorem count_set{c:Nat}:∀{seen:List Bool},c<seen.length→seen.getD c false=false→(seen.set c true).count true=seen.count true+1:=by
 induction c with
 |zero=>
  intro seen h hs;cases seen with
  |nil=>simp at h
  |cons a r=>simp at hs;subst hs;simp
 |succ c ih=>
  intro seen h hs;cases seen with
  |nil=>simp at h
  |cons a r=>
   have:=ih (seen:=r) (by simpa using h) (by simpa using hs);simp only[List.set_cons_succ,List.count_cons,this];omega
section
variable {E:Nat→List Nat} {n:Nat} {seen:List Bool} {out:List Nat} {r:List (Nat×Nat)} {b k c:Nat}
theorem DfsOk.room{stk:List (Nat×Nat)}(h:DfsOk E n seen out stk):out.length+stk.length≤n:=by
 rw[← h.cnt,← h.len];exact List.count_le_length
theorem DfsOk.top(h:DfsOk E n seen out ((b,k)::r)):b<n∧k≤(E b).length:=h.frames (b,k) ZS
theorem DfsOk.pop(h:DfsOk E n seen out ((b,k)::r)):DfsOk E n seen (out++[b]) r:=
 ⟨h.len,by rw[h.cnt];simp;omega,fun p hp=>h.frames p (by simp[hp]),fun x hx=>by
   rcases List.mem_append.1 hx with hx|hx
   · exact h.outs x hx
   · simp at hx;subst hx;exact h.top.1⟩
theorem DfsOk.old(h:DfsOk E n seen out ((b,k)::r))(hk:k≠(E b).length):DfsOk E n seen out ((b,k+1)::r):=
 ⟨h.len,by rw[h.cnt];simp,fun p hp=>by
   rcases List.mem_cons.1 hp with hp|hp
   · subst hp;have:=h.top;exact⟨this.1,by show k+1≤(E b).length;omega⟩
   · exact h.frames p (by simp[hp]),h.outs⟩
theorem DfsOk.new(h:DfsOk E n seen out ((b,k)::r))(hk:k≠(E b).length)(hc:c<n)(hs:seen.getD c false=false):DfsOk E n (seen.set c true) out ((c,0)::(b,k+1)::r):=
 ⟨by rw[List.length_set,h.len],by rw[count_set (by rw[h.len];exact hc) hs,h.cnt];simp;omega,fun p hp=>by
   rcases List.mem_cons.1 hp with hp|hp
   · subst hp;exact⟨hc,Nat.zero_le _⟩
   · rcases List.mem_cons.1 hp with hp|hp
     · subst hp;have:=h.top;exact⟨this.1,by show k+1≤(E b).length;omega⟩
     · exact h.frames p (by simp[hp]),h.outs⟩
end
end Go.Proofs.YtlhhfcleioikoaaGreatDoor
namespace Go.Proofs.YtlhhfcleioikoaaGreatDoor
def ChainOk(E:Nat→List Nat):List Nat→Prop
 |[]=>True
 |[x]=>x=0
 |c::b::r=>c∈E b∧ChainOk E (b::r)
def ParOk(E:Nat→List Nat)(S:List Nat):List Nat→Prop
 |[]=>True
 |v::post=>(v=0∨∃p,v∈E p∧(p∈S∨p∈post))∧ParOk E S post
theorem ParOk.mono{E:Nat→List Nat}{S S':List Nat}(h:∀x,x∈S→x∈S'):∀{l},ParOk E S l→ParOk E S' l
 |[],_=>trivial
 |_::_,⟨h1,h2⟩=>⟨by
  rcases h1 with h1|⟨p,a,b|b⟩
  · exact .inl h1
  · exact .inr ⟨p,a,.inl (h p b)⟩
  · exact .inr ⟨p,a,.inr b⟩,ParOk.mono h h2⟩
theorem ParOk.pop{E:Nat→List Nat}{S:List Nat}{b:Nat}(hb:b=0∨∃p,b∈E p∧p∈S):∀{l},ParOk E (b::S) l→ParOk E S (l++[b])
 |[],_=>⟨by
  rcases hb with h|⟨p,h1,h2⟩
  · exact .inl h
  · exact .inr ⟨p,h1,.inl h2⟩,trivial⟩
 |v::post,⟨h1,h2⟩=>⟨by
  rcases h1 with h1|⟨p,a,b|b⟩
  · exact .inl h1
  · rcases List.mem_cons.1 b with b|b
    · exact .inr ⟨p,a,.inr (by subst b;simp)⟩
    · exact .inr ⟨p,a,.inl b⟩
  · exact .inr ⟨p,a,.inr (by simp[b])⟩,ParOk.pop hb h2⟩
structure DfsInv (E:Nat→List Nat) (n:Nat) (seen:List Bool) (out:List Nat) (stk:List (Nat×Nat)):Prop where
 len:seen.length=n
 cnt:seen.count true=out.length+stk.length
 nod:(out++stk.map (·.1)).Nodup
 mem:∀v,seen.getD v false=true↔v∈out∨v∈stk.map (·.1)
 clo:∀v∈out,∀c∈E v,seen.getD c false=true
 pre:∀p∈stk,∀c∈(E p.1).take p.2,seen.getD c false=true
 ple:∀p∈stk,p.2≤(E p.1).length
 top:stk=[]→out.getLast?=some 0
 chn:ChainOk E (stk.map (·.1))
 par:ParOk E (stk.map (·.1)) out
structure DfsFin (E:Nat→List Nat) (n:Nat) (out:List Nat):Prop where
 nod:out.Nodup
 lt:∀v∈out,v<n
 clo:∀v∈out,∀c∈E v,c∈out
 last:out.getLast?=some 0
 par:ParOk E [] out
section
variable {E:Nat→List Nat} {n:Nat} {seen:List Bool} {out:List Nat} {r:List (Nat×Nat)} {b k c:Nat}
theorem getD_true_lt{l:List Bool}{v:Nat}(h:l.getD v false=true):v<l.length:=by
 rcases Nat.lt_or_ge v l.length with h'|h'
 · exact h'
 · rw[show l.getD v false=false by simp[List.getD,h']]at h;cases h
theorem getD_set_true{l:List Bool}{c v:Nat}(hc:c<l.length):(l.set c true).getD v false=true↔v=c∨l.getD v false=true:=by
 by_cases h:c=v
 · subst h;simp[List.getD,hc]
 · have:¬v=c:=fun e=>h e.symm
   simp[List.getD,h,this]
theorem DfsInv.fin(h:DfsInv E n seen out []):DfsFin E n out:=by
 have hm:∀v,seen.getD v false=true↔v∈out:=fun v=>by simpa using h.mem v
 exact⟨by simpa using h.nod,fun v hv=>by rw[← h.len];exact getD_true_lt ((hm v).2 hv),fun v hv c hc=>(hm c).1 (h.clo v hv c hc),h.top rfl,by simpa using h.par⟩
theorem ChainOk.tail:∀{l:List Nat},ChainOk E (b::l)→ChainOk E l∧(b=0∨∃p,b∈E p∧p∈l)∧(l=[]→b=0)
 |[],h=>⟨trivial,.inl h,fun _=>h⟩
 |_::_,h=>⟨h.2,.inr ⟨_,h.1,ZS⟩,fun e=>by cases e⟩
theorem DfsInv.pop(h:DfsInv E n seen out ((b,k)::r))(hk:k=(E b).length):DfsInv E n seen (out++[b]) r:=by
 obtain⟨c1,c2,c3⟩:=ChainOk.tail (E:=E) (b:=b) (l:=r.map (·.1)) (by simpa using h.chn);refine⟨h.len,by rw[h.cnt];simp;omega,by simpa using h.nod,fun v=>by rw[h.mem v];simp[or_assoc],?_,fun p hp=>h.pre p (by simp[hp]),fun p hp=>h.ple p (by simp[hp]),?_,c1,?_⟩
 · intro v hv c hc
   rcases List.mem_append.1 hv with hv|hv
   · exact h.clo v hv c hc
   · simp at hv
     subst hv;refine h.pre (v,k) ZS c ?_;simpa[hk]using hc
 · intro e
   subst e;simp[c3 rfl]
 · exact ParOk.pop c2 (by simpa using h.par)
theorem DfsInv.old(h:DfsInv E n seen out ((b,k)::r))(hk:k≠(E b).length)(hc:(E b).getD k 0=c)(hs:seen.getD c false=true):DfsInv E n seen out ((b,k+1)::r):=by
 have hle:=h.ple (b,k) ZS;have hlt:k<(E b).length:=by simp at hle;omega
 refine⟨h.len,by rw[h.cnt];simp,by simpa using h.nod,fun v=>by rw[h.mem v];simp,h.clo,fun p hp=>?_,fun p hp=>?_,(fun e=>by cases e),by simpa using h.chn,by simpa using h.par⟩
 · rcases List.mem_cons.1 hp with hp|hp
   · subst hp
     intro d hd;simp only[List.take_succ_eq_append_getElem hlt,List.mem_append,List.mem_singleton]at hd;rcases hd with hd|hd
     · exact h.pre (b,k) ZS d hd
     · subst hd
       have:(E b).getD k 0=(E b)[k]:=by simp[hlt]
       rw[← this,hc];exact hs
   · exact h.pre p (by simp[hp])
 · rcases List.mem_cons.1 hp with hp|hp
   · subst hp;exact hlt
   · exact h.ple p (by simp[hp])
theorem DfsInv.new(h:DfsInv E n seen out ((b,k)::r))(hk:k≠(E b).length)(hc:(E b).getD k 0=c)(hs:seen.getD c false=false)(hcn:c<n):DfsInv E n (seen.set c true) out ((c,0)::(b,k+1)::r):=by
 have hle:=h.ple (b,k) ZS;have hlt:k<(E b).length:=by simp at hle;omega
 have hget:(E b)[k]=c:=by
  have:(E b).getD k 0=(E b)[k]:=by simp[hlt]
  rw[← this,hc]
 have hup:∀v,seen.getD v false=true→(seen.set c true).getD v false=true:=fun v hv=>(getD_set_true (by rw[h.len];exact hcn)).2 (.inr hv)
 have hcc:(seen.set c true).getD c false=true:=(getD_set_true (by rw[h.len];exact hcn)).2 (.inl rfl);have hno:¬(c∈out∨c∈((b,k)::r).map (·.1)):=fun e=>by
  rw[(h.mem c).2 e]at hs;cases hs
 refine⟨by rw[List.length_set,h.len],by rw[count_set (by rw[h.len];exact hcn) hs,h.cnt];simp;omega,?_,fun v=>?_,fun v hv d hd=>hup d (h.clo v hv d hd),fun p hp=>?_,fun p hp=>?_,(fun e=>by cases e),?_,ParOk.mono (fun x hx=>by simp at hx ⊢;exact .inr hx) h.par⟩
 · have hnod:=h.nod
   simp only[List.map_cons,List.nodup_append,List.nodup_cons,List.mem_cons]at hnod hno ⊢;obtain⟨h1,⟨h2,h3⟩,h4⟩:=hnod;refine⟨h1,⟨fun e=>hno (.inr e),h2,h3⟩,fun x hx y hy=>?_⟩;rcases hy with hy|hy
   · intro e
     exact hno (.inl (by rw[← hy,← e];exact hx))
   · exact h4 x hx y hy
 · rw[getD_set_true (by rw[h.len];exact hcn),h.mem v]
   simp;constructor
   · rintro(e|e|e|e)
     · exact .inr (.inl e)
     · exact .inl e
     · exact .inr (.inr (.inl e))
     · exact .inr (.inr (.inr e))
   · rintro(e|e|e|e)
     · exact .inr (.inl e)
     · exact .inl e
     · exact .inr (.inr (.inl e))
     · exact .inr (.inr (.inr e))
 · rcases List.mem_cons.1 hp with hp|hp
   · subst hp;intro d hd;simp at hd
   · rcases List.mem_cons.1 hp with hp|hp
     · subst hp
       intro d hd;simp only[List.take_succ_eq_append_getElem hlt,List.mem_append,List.mem_singleton]at hd;rcases hd with hd|hd
       · exact hup d (h.pre (b,k) ZS d hd)
       · subst hd;rw[hget];exact hcc
     · intro d hd;exact hup d (h.pre p (by simp[hp]) d hd)
 · rcases List.mem_cons.1 hp with hp|hp
   · subst hp;exact Nat.zero_le _
   · rcases List.mem_cons.1 hp with hp|hp
     · subst hp;exact hlt
     · exact h.ple p (by simp[hp])
 · exact⟨by rw[← hget];exact List.getElem_mem hlt,by simpa using h.chn⟩
theorem DfsInv.room{stk:List (Nat×Nat)}(h:DfsInv E n seen out stk):out.length+stk.length≤n:=by
 rw[← h.cnt,← h.len];exact List.count_le_length
theorem dfs_fin(hE:∀v,(E v).length≤2)(hl:∀v,v<n→∀c∈E v,c<n):∀(f:Nat) (seen:List Bool) (out:List Nat) (stk:List (Nat×Nat)),DfsInv E n seen out stk→frW E stk+4*(n-(out.length+stk.length))≤f→DfsFin E n (dfs E f seen out stk)
 |0,seen,out,stk,h,hf=>by
  cases stk with
  |nil=>exact h.fin
  |cons p r=>obtain⟨b,k⟩:=p;simp[frW]at hf
 |f+1,seen,out,stk,h,hf=>by
  cases stk with
  |nil=>exact h.fin
  |cons p r=>
   obtain⟨b,k⟩:=p;have hb:b<n:=by
    rw[← h.len];exact getD_true_lt ((h.mem b).2 (.inr ZS))
   by_cases hk:k=(E b).length
   · rw[dfs_pop hk]
     refine dfs_fin hE hl f _ _ _ (h.pop hk) ?_;simp only[frW,List.length_cons,List.length_append,List.length_nil]at hf ⊢;omega
   · have hle:=h.ple (b,k) ZS
     have hlt:k<(E b).length:=by simp at hle;omega
     obtain⟨c,hc⟩:∃c,(E b).getD k 0=c:=⟨_,rfl⟩;have hcn:c<n:=by
      refine hl b hb c ?_;have:(E b).getD k 0=(E b)[k]:=by simp[hlt]
      rw[← hc,this];exact List.getElem_mem hlt
     cases hs:seen.getD c false
     · rw[dfs_new hk hc hs]
       have h':=h.new hk hc hs hcn;refine dfs_fin hE hl f _ _ _ h' ?_;have hr:=h'.room;have he:=hE c;have e1:(E (b,k).1).length=(E b).length:=rfl;simp only[frW,List.length_cons]at hf hr hle ⊢;omega
     · rw[dfs_old hk hc hs]
       refine dfs_fin hE hl f _ _ _ (h.old hk hc hs) ?_;simp only[frW,List.length_cons]at hf ⊢;omega
theorem DfsInv.start(hn:0<n):DfsInv E n ((List.replicate n false).set 0 true) [] [(0,0)]:=by
 refine⟨ZS,?_,ZS,fun v=>?_,ZS,fun p hp=>by simp at hp;subst hp;simp,fun p hp=>by simp at hp;subst hp;simp,(fun e=>by cases e),rfl,trivial⟩
 · rw[count_set (by simpa using hn) (by cases n<;>simp[List.replicate_succ])]
   simp[List.count_replicate]
 rw[getD_set_true (by simpa using hn)];simp[List.getD,List.getElem?_replicate];intro h;split at h<;>simp at h
theorem DfsFin.start(hE:∀v,(E v).length≤2)(hl:∀v,v<n→∀c∈E v,c<n)(hn:0<n):DfsFin E n (dfs E (4*n) ((List.replicate n false).set 0 true) [] [(0,0)]):=by
 refine dfs_fin hE hl _ _ _ _ (DfsInv.start hn) ?_;have:=hE 0;simp[frW];omega
end
end Go.Proofs.YtlhhfcleioikoaaGreatDoor
