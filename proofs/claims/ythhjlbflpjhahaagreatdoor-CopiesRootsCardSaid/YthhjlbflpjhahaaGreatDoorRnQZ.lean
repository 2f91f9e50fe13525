/- What a run went through (plain law of DomRuns): each block that is not seen is avoided by the way so far. -/
import Derived.Test.YthhjlbflpjhahaaGreatDoorRunSZ
import Derived.Test.YthhjlbflpjhahaaGreatDoorNewZ
import Derived.Test.YthhjlbflpjhahaaGreatDoorSchZ
import Derived.Test.YthhjlbflpjhahaaGreatDoorPredsZ
import Derived.Test.YthhjlbflpjhahaaGreatDoorSBeZ
import Derived.Test.YthhjlbflpjhahaaGreatDoorMkRowsZ
namespace Go.Proofs.YthhjlbflpjhahaaGreatDoor
open Go.RowKit
set_option maxRecDepth 100000
section
variable {F:PFunc} {seen:List Bool} {a b c:Nat}
end
set_option maxHeartbeats 4000000 in
theorem YpU{W w:World}{D:Nat→Prop}{nb gi gb ga n:Nat}{vr vt:Value}{vrs:List Value}{s:RSt}{F:PFunc}{A0 A1 A2:Option Addr}{c0 c1 c2:Nat}
 (hF:FnV W W.heap.size (.agg #[.slice A0 F.vars.length c0,.slice A1 F.params.length c1,.slice A2 F.blocks.length c2]) F) (hW:Below W.heap.size W w)
 (h:RunO w D (.slice A0 F.vars.length c0) (.slice A1 F.params.length c1) (.slice A2 F.blocks.length c2) nb gi gb ga n vr vt vrs s) (hb:s.block<F.blocks.length)
 (hv:(F.blk s.block).term.kind≠0→∃k:Nat,(F.blk s.block).term.var=k∧k<n) :
 Calls Tryz.prog 59 #[.pointer (some ⟨nb,0,none⟩)] w fun e w'=>e=.returned (.int .i64 (Yby F s))∧Below w.heap.size w w':=by
 obtain⟨A0',c0',A1',c1',A2',c2',hfe,l0,l1,l2,-,-,-,r0,r1,r2⟩:=id hF.open_;simp only[Value.agg.injEq,Array.mk.injEq,List.cons.injEq,Value.slice.injEq,true_and,and_true]at hfe;obtain⟨⟨rfl,rfl⟩,⟨rfl,rfl⟩,rfl,rfl⟩:=hfe;unfold Len at *;obtain⟨bb,off,A3,c3,A4,c4,rfl,hbb,-,hy0,hy1,hy2,hy3,hy4,hy5,hy6,-⟩:=r2.blk hW hb;have xl:=h.box.lt;have k2:=h.box.cell 2;have k4:=h.box.cell 4;have k7:=h.box.cell 7;have k8:=h.box.cell 8;replace k2:w.cell? ⟨nb,2,none⟩=some (.slice (some ⟨bb,off,none⟩) F.blocks.length c2):=k2;replace k4:w.cell? ⟨nb,4,none⟩=some (.slice (some ⟨gb,0,none⟩) n n):=k4;replace k7:w.cell? ⟨nb,7,none⟩=some (.int .i64 (s.block:Int)):=k7;replace k8:w.cell? ⟨nb,8,none⟩=some (.int .i64 (s.pc:Int)):=k8;have hbn:(s.block:Int)<(F.blocks.length:Int):=by omega
 have HB:=Lh h.bools;clear h hF r0 r1 r2;have hgb:=(HB.out.lt gb rfl).2;obtain⟨kv,hkv⟩:∃k:Nat,k=(F.blk s.block).term.var.toNat:=⟨_,rfl⟩;have hz:(F.blk s.block).term.kind≠0→kv<n∧(F.blk s.block).term.var=(kv:Int):=fun e=>by
  obtain⟨k,h1,h2⟩:=hv e;rw[h1]at hkv;simp at hkv;subst hkv;exact⟨h2,h1⟩
 have HN:=Lh (show Yby F s=(if s.pc<(F.blk s.block).insts.length∨(F.blk s.block).term.kind=2 then -1 else if(F.blk s.block).term.kind=0∨s.bools.getD kv false=true then(F.blk s.block).term.t0 else(F.blk s.block).term.t1) by rw[hkv];rfl);clear hkv hv;generalize (F.blk s.block).insts.length=il at *;generalize (F.blk s.block).phis.length=pl0 at *;generalize (F.blk s.block).term.kind=kd at *;generalize (F.blk s.block).term.var=vr0 at *;generalize (F.blk s.block).term.t0=t0 at *;generalize (F.blk s.block).term.t1=t1 at *;generalize (F.blk s.block).name=nm at *;obtain⟨oz,hoz⟩:∃o,w.cell? ⟨gb,kv,none⟩=o:=⟨_,rfl⟩
 by_cases h1:s.pc<il
 · have h2:(s.pc:Int)<(il:Int):=by omega
   have HX:=Lh (HN.out.trans (if_pos (.inl h1)));clear hz;go_enter Tryz.func59,Tryz.ntmps59;go_wp2_with fail;obtain⟨S0,hS0⟩:∃S0:World→Prop,S0=fun w'=>w'.cell? ⟨nb,8,none⟩=some (.int .i64 (s.pc:Int))∧w'.cell? ⟨nb,4,none⟩=some (.slice (some ⟨gb,0,none⟩) n n)∧w'.cell? ⟨nb,2,none⟩=some (.slice (some ⟨bb,off,none⟩) F.blocks.length c2)∧w'.cell? ⟨nb,7,none⟩=some (.int .i64 (s.block:Int))∧w'.cell? ⟨bb,off+s.block*7,none⟩=some (.string nm)∧w'.cell? ⟨bb,off+s.block*7+1,none⟩=some (.slice A3 pl0 c3)∧w'.cell? ⟨bb,off+s.block*7+2,none⟩=some (.slice A4 il c4)∧w'.cell? ⟨bb,off+s.block*7+3,none⟩=some (.int .i64 kd)∧w'.cell? ⟨bb,off+s.block*7+4,none⟩=some (.int .i64 vr0)∧w'.cell? ⟨bb,off+s.block*7+5,none⟩=some (.int .i64 t0)∧w'.cell? ⟨bb,off+s.block*7+6,none⟩=some (.int .i64 t1)∧w'.cell? ⟨gb,kv,none⟩=oz∧Below w.heap.size w w'∧nb<w'.heap.size∧bb<w'.heap.size∧gb<w'.heap.size:=⟨_,rfl⟩
   have HS0:=Lh hS0;clear hS0;have k0:=fun xw=>(WS.at HS0 xw).1
   have k1:=fun xw=>(WS.at HS0 xw).2.1
   have k2:=fun xw=>(WS.at HS0 xw).2.2.1
   have k3:=fun xw=>(WS.at HS0 xw).2.2.2.1
   have k4:=fun xw=>(WS.at HS0 xw).2.2.2.2.1
   have k5:=fun xw=>(WS.at HS0 xw).2.2.2.2.2.1
   have k6:=fun xw=>(WS.at HS0 xw).2.2.2.2.2.2.1
   have k7:=fun xw=>(WS.at HS0 xw).2.2.2.2.2.2.2.1
   have k8:=fun xw=>(WS.at HS0 xw).2.2.2.2.2.2.2.2.1
   have k9:=fun xw=>(WS.at HS0 xw).2.2.2.2.2.2.2.2.2.1
   have k10:=fun xw=>(WS.at HS0 xw).2.2.2.2.2.2.2.2.2.2.1
   have k11:=fun xw=>(WS.at HS0 xw).2.2.2.2.2.2.2.2.2.2.2.1
   have k12:=fun xw=>(WS.at HS0 xw).2.2.2.2.2.2.2.2.2.2.2.2.1
   have k13:=fun xw=>(WS.at HS0 xw).2.2.2.2.2.2.2.2.2.2.2.2.2.1
   have k14:=fun xw=>(WS.at HS0 xw).2.2.2.2.2.2.2.2.2.2.2.2.2.2.1
   have k15:=fun xw=>(WS.at HS0 xw).2.2.2.2.2.2.2.2.2.2.2.2.2.2.2
   refine YB (S:=S0) [0,1,2,3,4,5,6,7,8,9,10,11,12] ZK ZK (fun _ _ _ _ _ h=>h) ?hS (fun hSc=>?_)
   case hS=>
    rw[HS0.out];exact⟨ZI,ZI,ZI,ZI,ZI,ZI,ZI,ZI,ZI,ZI,ZI,ZI,BL,ZJ,ZJ,ZJ⟩
   have hne0:Nonempty (WS S0):=⟨⟨_,hSc⟩⟩;simp only[List.map_cons,List.map_nil,Ld,Le]
   repeat
    first
    |((with_reducible refine YC ?_ ?_);exact rfl;go_big_quiet_step (fail);(try with_reducible refine wpQuiet_nil ?_);(try dsimp only))
    |((with_reducible refine YS ?_ ?_ (fun K hK=>?_))
      exact rfl;exact rfl;go_simp;(try go_wp2_with(fail));refine hK.out _ _ ?hS (fun hSc=>?_)
      case hS=>
       first
       |exact hSc
       |(rw[HS0.out]at hSc ⊢;obtain⟨p0,p1,p2,p3,p4,p5,p6,p7,p8,p9,p10,p11,p12,p13,p14,p15⟩:=hSc;exact⟨ZC,ZC,ZC,ZC,ZC,ZC,ZC,ZC,ZC,ZC,ZC,ZC,BL,ZT,ZT,ZT⟩)
      clear hK K)
   refine YD ?_;rw[HS0.out]at hSc;obtain⟨p0,p1,p2,p3,p4,p5,p6,p7,p8,p9,p10,p11,p12,p13,p14,p15⟩:=hSc;clear hne0 HS0 k0 k1 k2 k3 k4 k5 k6 k7 k8 k9 k10 k11 k12 k13 k14 k15;go_wp2
   go_quiet (fail)
   go_wp2;go_ret;rw[HX.out]
   first|exact⟨rfl,YE BL _⟩|exact⟨rfl,YE (YE BL _) _⟩
 have h2:decide ((s.pc:Int)<(il:Int))=false:=decide_eq_false ZO;have h3:decide (s.pc<il)=false:=decide_eq_false h1
 by_cases e2:kd=2
 · have HX:=Lh (HN.out.trans (if_pos (.inr e2)))
   have e2b:(kd==2)=true:=by rw[e2];rfl
   clear hz e2;go_enter Tryz.func59,Tryz.ntmps59;go_wp2_with fail;obtain⟨S0,hS0⟩:∃S0:World→Prop,S0=fun w'=>w'.cell? ⟨nb,8,none⟩=some (.int .i64 (s.pc:Int))∧w'.cell? ⟨nb,4,none⟩=some (.slice (some ⟨gb,0,none⟩) n n)∧w'.cell? ⟨nb,2,none⟩=some (.slice (some ⟨bb,off,none⟩) F.blocks.length c2)∧w'.cell? ⟨nb,7,none⟩=some (.int .i64 (s.block:Int))∧w'.cell? ⟨bb,off+s.block*7,none⟩=some (.string nm)∧w'.cell? ⟨bb,off+s.block*7+1,none⟩=some (.slice A3 pl0 c3)∧w'.cell? ⟨bb,off+s.block*7+2,none⟩=some (.slice A4 il c4)∧w'.cell? ⟨bb,off+s.block*7+3,none⟩=some (.int .i64 kd)∧w'.cell? ⟨bb,off+s.block*7+4,none⟩=some (.int .i64 vr0)∧w'.cell? ⟨bb,off+s.block*7+5,none⟩=some (.int .i64 t0)∧w'.cell? ⟨bb,off+s.block*7+6,none⟩=some (.int .i64 t1)∧w'.cell? ⟨gb,kv,none⟩=oz∧Below w.heap.size w w'∧nb<w'.heap.size∧bb<w'.heap.size∧gb<w'.heap.size:=⟨_,rfl⟩
   have HS0:=Lh hS0;clear hS0;have k0:=fun xw=>(WS.at HS0 xw).1
   have k1:=fun xw=>(WS.at HS0 xw).2.1
   have k2:=fun xw=>(WS.at HS0 xw).2.2.1
   have k3:=fun xw=>(WS.at HS0 xw).2.2.2.1
   have k4:=fun xw=>(WS.at HS0 xw).2.2.2.2.1
   have k5:=fun xw=>(WS.at HS0 xw).2.2.2.2.2.1
   have k6:=fun xw=>(WS.at HS0 xw).2.2.2.2.2.2.1
   have k7:=fun xw=>(WS.at HS0 xw).2.2.2.2.2.2.2.1
   have k8:=fun xw=>(WS.at HS0 xw).2.2.2.2.2.2.2.2.1
   have k9:=fun xw=>(WS.at HS0 xw).2.2.2.2.2.2.2.2.2.1
   have k10:=fun xw=>(WS.at HS0 xw).2.2.2.2.2.2.2.2.2.2.1
   have k11:=fun xw=>(WS.at HS0 xw).2.2.2.2.2.2.2.2.2.2.2.1
   have k12:=fun xw=>(WS.at HS0 xw).2.2.2.2.2.2.2.2.2.2.2.2.1
   have k13:=fun xw=>(WS.at HS0 xw).2.2.2.2.2.2.2.2.2.2.2.2.2.1
   have k14:=fun xw=>(WS.at HS0 xw).2.2.2.2.2.2.2.2.2.2.2.2.2.2.1
   have k15:=fun xw=>(WS.at HS0 xw).2.2.2.2.2.2.2.2.2.2.2.2.2.2.2
   refine YB (S:=S0) [0,1,2,3,4,5,6,7,8,9,10,11,12] ZK ZK (fun _ _ _ _ _ h=>h) ?hS (fun hSc=>?_)
   case hS=>
    rw[HS0.out];exact⟨ZI,ZI,ZI,ZI,ZI,ZI,ZI,ZI,ZI,ZI,ZI,ZI,BL,ZJ,ZJ,ZJ⟩
   have hne0:Nonempty (WS S0):=⟨⟨_,hSc⟩⟩;simp only[List.map_cons,List.map_nil,Ld,Le]
   repeat
    first
    |((with_reducible refine YC ?_ ?_);exact rfl;go_big_quiet_step (fail);(try with_reducible refine wpQuiet_nil ?_);(try dsimp only))
    |((with_reducible refine YS ?_ ?_ (fun K hK=>?_))
      exact rfl;exact rfl;go_simp;(try go_wp2_with(fail));refine hK.out _ _ ?hS (fun hSc=>?_)
      case hS=>
       first
       |exact hSc
       |(rw[HS0.out]at hSc ⊢;obtain⟨p0,p1,p2,p3,p4,p5,p6,p7,p8,p9,p10,p11,p12,p13,p14,p15⟩:=hSc;exact⟨ZC,ZC,ZC,ZC,ZC,ZC,ZC,ZC,ZC,ZC,ZC,ZC,BL,ZT,ZT,ZT⟩)
      clear hK K)
   refine YD ?_;rw[HS0.out]at hSc;obtain⟨p0,p1,p2,p3,p4,p5,p6,p7,p8,p9,p10,p11,p12,p13,p14,p15⟩:=hSc;clear hne0 HS0 k0 k1 k2 k3 k4 k5 k6 k7 k8 k9 k10 k11 k12 k13 k14 k15;go_wp2
   go_quiet (fail)
   go_wp2;go_ret;rw[HX.out]
   first|exact⟨rfl,YE BL _⟩|exact⟨rfl,YE (YE BL _) _⟩
 have e3:(kd==2)=false:=by rw[beq_eq_false_iff_ne];exact e2
 have HX:=Lh (HN.out.trans (if_neg (fun e=>e.elim h1 e2)))
 by_cases e4:kd=0
 · have HY:=Lh (HX.out.trans (if_pos (.inl e4)))
   have e4b:(kd==0)=true:=by rw[e4];rfl
   clear hz e4 e2;go_enter Tryz.func59,Tryz.ntmps59;go_wp2_with fail;obtain⟨S0,hS0⟩:∃S0:World→Prop,S0=fun w'=>w'.cell? ⟨nb,8,none⟩=some (.int .i64 (s.pc:Int))∧w'.cell? ⟨nb,4,none⟩=some (.slice (some ⟨gb,0,none⟩) n n)∧w'.cell? ⟨nb,2,none⟩=some (.slice (some ⟨bb,off,none⟩) F.blocks.length c2)∧w'.cell? ⟨nb,7,none⟩=some (.int .i64 (s.block:Int))∧w'.cell? ⟨bb,off+s.block*7,none⟩=some (.string nm)∧w'.cell? ⟨bb,off+s.block*7+1,none⟩=some (.slice A3 pl0 c3)∧w'.cell? ⟨bb,off+s.block*7+2,none⟩=some (.slice A4 il c4)∧w'.cell? ⟨bb,off+s.block*7+3,none⟩=some (.int .i64 kd)∧w'.cell? ⟨bb,off+s.block*7+4,none⟩=some (.int .i64 vr0)∧w'.cell? ⟨bb,off+s.block*7+5,none⟩=some (.int .i64 t0)∧w'.cell? ⟨bb,off+s.block*7+6,none⟩=some (.int .i64 t1)∧w'.cell? ⟨gb,kv,none⟩=oz∧Below w.heap.size w w'∧nb<w'.heap.size∧bb<w'.heap.size∧gb<w'.heap.size:=⟨_,rfl⟩
   have HS0:=Lh hS0;clear hS0;have k0:=fun xw=>(WS.at HS0 xw).1
   have k1:=fun xw=>(WS.at HS0 xw).2.1
   have k2:=fun xw=>(WS.at HS0 xw).2.2.1
   have k3:=fun xw=>(WS.at HS0 xw).2.2.2.1
   have k4:=fun xw=>(WS.at HS0 xw).2.2.2.2.1
   have k5:=fun xw=>(WS.at HS0 xw).2.2.2.2.2.1
   have k6:=fun xw=>(WS.at HS0 xw).2.2.2.2.2.2.1
   have k7:=fun xw=>(WS.at HS0 xw).2.2.2.2.2.2.2.1
   have k8:=fun xw=>(WS.at HS0 xw).2.2.2.2.2.2.2.2.1
   have k9:=fun xw=>(WS.at HS0 xw).2.2.2.2.2.2.2.2.2.1
   have k10:=fun xw=>(WS.at HS0 xw).2.2.2.2.2.2.2.2.2.2.1
   have k11:=fun xw=>(WS.at HS0 xw).2.2.2.2.2.2.2.2.2.2.2.1
   have k12:=fun xw=>(WS.at HS0 xw).2.2.2.2.2.2.2.2.2.2.2.2.1
   have k13:=fun xw=>(WS.at HS0 xw).2.2.2.2.2.2.2.2.2.2.2.2.2.1
   have k14:=fun xw=>(WS.at HS0 xw).2.2.2.2.2.2.2.2.2.2.2.2.2.2.1
   have k15:=fun xw=>(WS.at HS0 xw).2.2.2.2.2.2.2.2.2.2.2.2.2.2.2
   refine YB (S:=S0) [0,1,2,3,4,5,6,7,8,9,10,11,12] ZK ZK (fun _ _ _ _ _ h=>h) ?hS (fun hSc=>?_)
   case hS=>
    rw[HS0.out];exact⟨ZI,ZI,ZI,ZI,ZI,ZI,ZI,ZI,ZI,ZI,ZI,ZI,BL,ZJ,ZJ,ZJ⟩
   have hne0:Nonempty (WS S0):=⟨⟨_,hSc⟩⟩;simp only[List.map_cons,List.map_nil,Ld,Le]
   repeat
    first
    |((with_reducible refine YC ?_ ?_);exact rfl;go_big_quiet_step (fail);(try with_reducible refine wpQuiet_nil ?_);(try dsimp only))
    |((with_reducible refine YS ?_ ?_ (fun K hK=>?_))
      exact rfl;exact rfl;go_simp;(try go_wp2_with(fail));refine hK.out _ _ ?hS (fun hSc=>?_)
      case hS=>
       first
       |exact hSc
       |(rw[HS0.out]at hSc ⊢;obtain⟨p0,p1,p2,p3,p4,p5,p6,p7,p8,p9,p10,p11,p12,p13,p14,p15⟩:=hSc;exact⟨ZC,ZC,ZC,ZC,ZC,ZC,ZC,ZC,ZC,ZC,ZC,ZC,BL,ZT,ZT,ZT⟩)
      clear hK K)
   refine YD ?_;rw[HS0.out]at hSc;obtain⟨p0,p1,p2,p3,p4,p5,p6,p7,p8,p9,p10,p11,p12,p13,p14,p15⟩:=hSc;clear hne0 HS0 k0 k1 k2 k3 k4 k5 k6 k7 k8 k9 k10 k11 k12 k13 k14 k15;go_wp2
   go_quiet (fail)
   go_wp2
   go_quiet (fail)
   go_wp2;go_ret;rw[HY.out]
   first|exact⟨rfl,YE BL _⟩|exact⟨rfl,YE (YE BL _) _⟩
 · obtain⟨hk1,hk2⟩:=hz e4
   have e4b:(kd==0)=false:=by rw[beq_eq_false_iff_ne];exact e4
   have hkn:(kv:Int)<(n:Int):=by omega
   obtain⟨z,hzz⟩:∃z,s.bools.getD kv false=z:=⟨_,rfl⟩;have hoz2:oz=some (.bool z):=by rw[← hoz,← hzz];exact Y9 HB.out hk1
   have HY:=Lh (show Yby F s=if z=true then t0 else t1 by
    rw[HX.out,← hzz];cases s.bools.getD kv false
    · rw[if_neg (by simp[e4]),if_neg ZS]
    · rw[if_pos (.inr rfl),if_pos rfl])
   have HK2:=Lh hk2;have HO2:=Lh hoz2;clear hz e4 e2 hzz hoz2 hk2;go_enter Tryz.func59,Tryz.ntmps59;go_wp2_with fail;obtain⟨S0,hS0⟩:∃S0:World→Prop,S0=fun w'=>w'.cell? ⟨nb,8,none⟩=some (.int .i64 (s.pc:Int))∧w'.cell? ⟨nb,4,none⟩=some (.slice (some ⟨gb,0,none⟩) n n)∧w'.cell? ⟨nb,2,none⟩=some (.slice (some ⟨bb,off,none⟩) F.blocks.length c2)∧w'.cell? ⟨nb,7,none⟩=some (.int .i64 (s.block:Int))∧w'.cell? ⟨bb,off+s.block*7,none⟩=some (.string nm)∧w'.cell? ⟨bb,off+s.block*7+1,none⟩=some (.slice A3 pl0 c3)∧w'.cell? ⟨bb,off+s.block*7+2,none⟩=some (.slice A4 il c4)∧w'.cell? ⟨bb,off+s.block*7+3,none⟩=some (.int .i64 kd)∧w'.cell? ⟨bb,off+s.block*7+4,none⟩=some (.int .i64 vr0)∧w'.cell? ⟨bb,off+s.block*7+5,none⟩=some (.int .i64 t0)∧w'.cell? ⟨bb,off+s.block*7+6,none⟩=some (.int .i64 t1)∧w'.cell? ⟨gb,kv,none⟩=oz∧Below w.heap.size w w'∧nb<w'.heap.size∧bb<w'.heap.size∧gb<w'.heap.size:=⟨_,rfl⟩
   have HS0:=Lh hS0;clear hS0;have k0:=fun xw=>(WS.at HS0 xw).1
   have k1:=fun xw=>(WS.at HS0 xw).2.1
   have k2:=fun xw=>(WS.at HS0 xw).2.2.1
   have k3:=fun xw=>(WS.at HS0 xw).2.2.2.1
   have k4:=fun xw=>(WS.at HS0 xw).2.2.2.2.1
   have k5:=fun xw=>(WS.at HS0 xw).2.2.2.2.2.1
   have k6:=fun xw=>(WS.at HS0 xw).2.2.2.2.2.2.1
   have k7:=fun xw=>(WS.at HS0 xw).2.2.2.2.2.2.2.1
   have k8:=fun xw=>(WS.at HS0 xw).2.2.2.2.2.2.2.2.1
   have k9:=fun xw=>(WS.at HS0 xw).2.2.2.2.2.2.2.2.2.1
   have k10:=fun xw=>(WS.at HS0 xw).2.2.2.2.2.2.2.2.2.2.1
   have k11:=fun xw=>(WS.at HS0 xw).2.2.2.2.2.2.2.2.2.2.2.1
   have k12:=fun xw=>(WS.at HS0 xw).2.2.2.2.2.2.2.2.2.2.2.2.1
   have k13:=fun xw=>(WS.at HS0 xw).2.2.2.2.2.2.2.2.2.2.2.2.2.1
   have k14:=fun xw=>(WS.at HS0 xw).2.2.2.2.2.2.2.2.2.2.2.2.2.2.1
   have k15:=fun xw=>(WS.at HS0 xw).2.2.2.2.2.2.2.2.2.2.2.2.2.2.2
   refine YB (S:=S0) [0,1,2,3,4,5,6,7,8,9,10,11,12] ZK ZK (fun _ _ _ _ _ h=>h) ?hS (fun hSc=>?_)
   case hS=>
    rw[HS0.out];exact⟨ZI,ZI,ZI,ZI,ZI,ZI,ZI,ZI,ZI,ZI,ZI,ZI,BL,ZJ,ZJ,ZJ⟩
   have hne0:Nonempty (WS S0):=⟨⟨_,hSc⟩⟩;simp only[List.map_cons,List.map_nil,Ld,Le]
   repeat
    first
    |((with_reducible refine YC ?_ ?_);exact rfl;go_big_quiet_step (fail);(try with_reducible refine wpQuiet_nil ?_);(try dsimp only))
    |((with_reducible refine YS ?_ ?_ (fun K hK=>?_))
      exact rfl;exact rfl;go_simp;(try go_wp2_with(fail));refine hK.out _ _ ?hS (fun hSc=>?_)
      case hS=>
       first
       |exact hSc
       |(rw[HS0.out]at hSc ⊢;obtain⟨p0,p1,p2,p3,p4,p5,p6,p7,p8,p9,p10,p11,p12,p13,p14,p15⟩:=hSc;exact⟨ZC,ZC,ZC,ZC,ZC,ZC,ZC,ZC,ZC,ZC,ZC,ZC,BL,ZT,ZT,ZT⟩)
      clear hK K)
   refine YD ?_;rw[HS0.out]at hSc;obtain⟨p0,p1,p2,p3,p4,p5,p6,p7,p8,p9,p10,p11,p12,p13,p14,p15⟩:=hSc;clear hne0 HS0 k0 k1 k2 k3 k4 k5 k6 k7 k8 k9 k10 k11 k12 k13 k14 k15;rw[HO2.out]at p11 hoz;have hk2:=HK2.out;clear HK2 HO2;subst hk2;cases z
   · have HZ:=Lh (HY.out.trans (if_neg ZS))
     go_wp2
     go_quiet (fail)
     go_wp2
     go_quiet (fail)
     go_wp2;go_ret;rw[HZ.out]
     first|exact⟨rfl,YE BL _⟩|exact⟨rfl,YE (YE BL _) _⟩
   · have HZ:=Lh (HY.out.trans (if_pos rfl))
     go_wp2
     go_quiet (fail)
     go_wp2
     go_quiet (fail)
     go_wp2;go_ret;rw[HZ.out]
     first|exact⟨rfl,YE BL _⟩|exact⟨rfl,YE (YE BL _) _⟩
def Yal:List Int→List Int→Int→List Int
 |f::fs,a::l,b=>if f=b then a::Yal fs l b else Yal fs l b
 |_,_,_=>[]
def Ybh(ps:List PPhi)(b:Int):List Int:=ps.flatMap fun p=>Yal p.froms p.args b
def takesR(F:PFunc)(s:RSt):List Int:=
 if s.pc<(F.blk s.block).insts.length then((F.blk s.block).inst s.pc).args
 else(if(F.blk s.block).term.kind=0 then [] else [(F.blk s.block).term.var])++(if Yby F s<0 then [] else Ybh (F.blk (Yby F s).toNat).phis s.block)
theorem YjK:∀{fs l:List Int} {b a:Int},a∈Yal fs l b→∃j,j<fs.length∧j<l.length∧ith fs j=b∧ith l j=a
 |f::fs,x::l,b,a,h=>by
  unfold Yal at h;have next:a∈Yal fs l b→∃j,j<(f::fs).length∧j<(x::l).length∧ith (f::fs) j=b∧ith (x::l) j=a:=fun h=>by
   obtain⟨j,h1,h2,h3,h4⟩:=YjK h;exact⟨j+1,by simpa using h1,by simpa using h2,by simpa[ith]using h3,by simpa[ith]using h4⟩
  split at h
  · rename_i e
    rcases List.mem_cons.1 h with rfl|h
    · exact⟨0,ZS,ZS,by simpa[ith]using e,by simp[ith]⟩
    · exact next h
  · exact next h
 |[],_,_,_,h=>by simp[Yal]at h
 |_::_,[],_,_,h=>by simp[Yal]at h
section
variable {F:PFunc} {s:RSt} {made:List Nat} {b c m v:Nat} {a:Int}
end
def RowI(w:World)(v:Value)(l:List Int):Prop:=∃A c,v=.slice A l.length c∧l.length≤c∧l.length≤281474976710656∧Rd w.heap.size A l 1 (Yi w)
theorem RowI.below{w w':World}{v:Value}{l:List Int}(h:RowI w v l)(hb:Below w.heap.size w w'):RowI w' v l:=by
 obtain⟨A,c,rfl,h1,h2,h3⟩:=h;refine⟨A,c,rfl,h1,h2,h3.keep hb.size fun b o x hbl hx=>?_⟩;unfold Yi at *;rw[hb.cell (p:=⟨b,o,none⟩) hbl];exact hx
theorem RowI.own{w:World}{B n:Nat}{v:Value}{l:List Int}(h:w.ownsRow B 3 1 v n (l.map (Value.int .i64)))(hn:l.length=n)(hl:n≤1048576):RowI w v l:=by
 subst hn
 by_cases h0:l.length=0
 · obtain rfl:=List.eq_nil_of_length_eq_zero h0
   obtain⟨A,c,rfl⟩:=Yh h;exact⟨A,c,rfl,Nz _,Nz _,fun i x hx=>by simp at hx⟩
 · obtain⟨g,cap,rfl,hgl,hc⟩:=Ydr h ZO
   refine⟨_,_,rfl,hc,ZO,fun i x hx=>⟨g,0,rfl,hgl,?_⟩⟩;have hi:i<l.length:=(List.getElem?_eq_some_iff.1 hx).1;unfold Yi;rw[Nat.zero_add,Nat.mul_one,h.cellAt i ZO,List.getElem?_map,hx];rfl
theorem RowI.at{w:World}{v:Value}{l:List Int}(h:RowI w v l){k:Nat}(hk:k<l.length):∃g o c,v=.slice (some ⟨g,o,none⟩) l.length c∧g<w.heap.size∧w.cell? ⟨g,o+k,none⟩=some (.int .i64 (ith l k)):=by
 obtain⟨A,c,rfl,-,-,h3⟩:=h;obtain⟨g,o,rfl,hg,hr⟩:=h3 k _ (Yaa hk);exact⟨g,o,c,rfl,hg,by simpa[Yi]using hr⟩
def YjL(F:PFunc):Prop:=∀i,i<F.blocks.length→(F.blk i).phis.length≤400∧∀p∈(F.blk i).phis,p.args.length≤400∧p.froms.length≤400
theorem YgW:∀(fs l:List Int) (b:Int),(Yal fs l b).length≤fs.length
 |f::fs,a::l,b=>by
  unfold Yal;have:=YgW fs l b;split<;>simp<;>omega
 |[],_,_=>by simp[Yal]
 |_::_,[],_=>by simp[Yal]
theorem YjM:∀(fs l:List Int) (b:Int) (j:Nat),j<fs.length→fs.length=l.length→Yal (fs.take (j+1)) (l.take (j+1)) b=Yal (fs.take j) (l.take j) b++if ith fs j=b then [ith l j] else []
 |f::fs,a::l,b,0,_,_=>by
  by_cases e:f=b<;>simp[Yal,ith,e]
 |f::fs,a::l,b,j+1,h,e=>by
  have:=YjM fs l b j (by simpa using h) (by simpa using e);simp only[List.take_succ_cons]at this ⊢;simp only[Yal,this,ith,Ld];split<;>simp
 |[],_,_,_,h,_=>by simp at h
 |_::_,[],_,_,_,e=>by simp at e
theorem YpW(ps:List PPhi)(p:PPhi)(b:Int):Ybh (ps++[p]) b=Ybh ps b++Yal p.froms p.args b:=by simp[Ybh]
theorem YjN:∀(ps:List PPhi) (b:Int),(∀p∈ps,p.froms.length≤400)→(Ybh ps b).length≤400*ps.length
 |[],_,_=>by simp[Ybh]
 |p::ps,b,h=>by
  have h1:=YjN ps b fun q hq=>h q (by simp[hq])
  have h2:=YgW p.froms p.args b;have h3:=h p ZS;have h4:Ybh (p::ps) b=Yal p.froms p.args b++Ybh ps b:=by simp[Ybh]
  rw[h4,List.length_append,List.length_cons];omega
section
variable {W w:World} {D:Nat→Prop} {nb gi gb ga:Nat} {vr vt:Value} {vrs:List Value} {s:RSt} {F:PFunc} {A0 A1 A2:Option Addr} {c0 c1 c2:Nat}
def YpX(w wx:World)(A4:Option Addr)(il c4:Nat)(kd vr0:Int):Prop:=w.heap.size<wx.heap.size∧Below w.heap.size w wx∧wx.cell? ⟨w.heap.size,2,none⟩=some (.slice A4 il c4)∧wx.cell? ⟨w.heap.size,3,none⟩=some (.int .i64 kd)∧wx.cell? ⟨w.heap.size,4,none⟩=some (.int .i64 vr0)
def Ybi(kd vr0:Int):List Int:=if kd=0 then [] else [vr0]
theorem YpY(kd vr0:Int):(Ybi kd vr0).length≤1:=by
 unfold Ybi;split<;>simp
def Ybz(F:PFunc)(c b:Nat)(pre:List Int)(k:Nat):List Int:=pre++Ybh ((F.blk c).phis.take k) b
theorem YpZ{F:PFunc}{c b:Nat}{pre:List Int}:Ybz F c b pre 0=pre:=by simp[Ybz,Ybh]
theorem Yp0{F:PFunc}{c b:Nat}{pre:List Int}:Ybz F c b pre (F.blk c).phis.length=pre++Ybh (F.blk c).phis b:=by rw[Ybz,List.take_length]
theorem Yp1{F:PFunc}{c b k:Nat}{pre:List Int}(hk:k<(F.blk c).phis.length):Ybz F c b pre (k+1)=Ybz F c b pre k++Yal ((F.blk c).phi k).froms ((F.blk c).phi k).args b:=by
 rw[Ybz,List.take_add_one,PBlock.phi_get hk,Option.toList_some,YpW,← List.append_assoc];rfl
theorem YjO{F:PFunc}{c b k:Nat}{pre:List Int}(h:∀p∈(F.blk c).phis,p.froms.length≤400):(Ybz F c b pre k).length≤pre.length+400*(F.blk c).phis.length:=by
 have h1:=YjN ((F.blk c).phis.take k) b fun p hp=>h p (List.mem_of_mem_take hp)
 have h2:((F.blk c).phis.take k).length≤(F.blk c).phis.length:=by rw[List.length_take];omega
 have h3:400*((F.blk c).phis.take k).length≤400*(F.blk c).phis.length:=Nat.mul_le_mul_left _ h2;rw[Ybz,List.length_append];omega
set_option maxHeartbeats 16000000 in
theorem Yp2(hF:FnV W W.heap.size (.agg #[.slice A0 F.vars.length c0,.slice A1 F.params.length c1,.slice A2 F.blocks.length c2]) F)(hT:Yd F=true)(hP:YjL F)(hW:Below W.heap.size W w)(hI:RInv F s)
 (h:RunO w D (.slice A0 F.vars.length c0) (.slice A1 F.params.length c1) (.slice A2 F.blocks.length c2) nb gi gb ga F.vars.length vr vt vrs s) :
 Calls Tryz.prog 34 #[.pointer (some ⟨nb,0,none⟩)] w fun e w'=>∃v,e=.returned v∧RowI w' v (takesR F s)∧Below w.heap.size w w':=by
 obtain⟨A0',c0',A1',c1',A2',c2',hfe,l0,l1,l2,-,-,-,r0,r1,r2⟩:=id hF.open_;simp only[Value.agg.injEq,Array.mk.injEq,List.cons.injEq,Value.slice.injEq,true_and,and_true]at hfe;obtain⟨⟨rfl,rfl⟩,⟨rfl,rfl⟩,rfl,rfl⟩:=hfe;unfold Len at *;have hSh:=YcH hT;obtain⟨bb,off,A3,c3,A4,c4,rfl,hbb,-,hy0,hy1,hy2,hy3,hy4,hy5,hy6,lp,li,kp,ki,rp,ri⟩:=r2.blk hW hI.blk;have hbn:(s.block:Int)<(F.blocks.length:Int):=by have:=hI.blk;omega
 have HNX:=Lh (fun(w':World) (hb:Below w.heap.size w w')=>YpU hF (hW.trans (hb.mono hW.size)) (h.below hb) hI.blk (fun e0=>by
  obtain⟨h1,h2⟩:=Ydm hT hI.blk e0;obtain⟨k,hk⟩:=Int.eq_ofNat_of_zero_le h1
  exact⟨k,hk,ZO⟩))
 have HRO:=Lh (fun(w':World) (hb:Below w.heap.size w w')=>h.below hb);have HFP:=Lh hP;have xl:=h.box.lt;have k2:=h.box.cell 2;have k7:=h.box.cell 7;have k8:=h.box.cell 8;replace k2:w.cell? ⟨nb,2,none⟩=some (.slice (some ⟨bb,off,none⟩) F.blocks.length c2):=k2;replace k7:w.cell? ⟨nb,7,none⟩=some (.int .i64 (s.block:Int)):=k7;replace k8:w.cell? ⟨nb,8,none⟩=some (.int .i64 (s.pc:Int)):=k8;have R2:=Lh r2;have HRI:=Lh ri;have HWW:=Lh hW;have HTY:=Lh hT;have HI:=Lh hI;clear h hF r0 r1 r2 ri rp hT hP hW hI hSh;obtain⟨il,hil⟩:∃n,n=(F.blk s.block).insts.length:=⟨_,rfl⟩;obtain⟨pl,hpl⟩:∃n,n=(F.blk s.block).phis.length:=⟨_,rfl⟩;obtain⟨kd,hkd⟩:∃n,n=(F.blk s.block).term.kind:=⟨_,rfl⟩;obtain⟨vr0,hvr⟩:∃n,n=(F.blk s.block).term.var:=⟨_,rfl⟩;obtain⟨t0,ht0⟩:∃n,n=(F.blk s.block).term.t0:=⟨_,rfl⟩;obtain⟨t1,ht1⟩:∃n,n=(F.blk s.block).term.t1:=⟨_,rfl⟩;obtain⟨nm,hnm⟩:∃n,n=(F.blk s.block).name:=⟨_,rfl⟩;rw[← hnm]at hy0;rw[← hpl]at hy1;rw[← hil]at hy2 li ki;rw[← hkd]at hy3;rw[← hvr]at hy4;rw[← ht0]at hy5;rw[← ht1]at hy6;have HIL:=Lh hil;have HKD:=Lh hkd;have HVR:=Lh hvr;clear hil hpl hkd hvr ht0 ht1 hnm lp kp;go_enter Tryz.func34,Tryz.ntmps34
 go_upto_region 1 with fail
 go_cut[3] (fun s3 wx=>s3=.pointer (some ⟨w.heap.size,0,none⟩)∧YpX w wx A4 il c4 kd vr0)
 case first=>as_aux_lemma=>
  obtain⟨S0,hS0⟩:∃S0:World→Prop,S0=fun w'=>w'.cell? ⟨nb,2,none⟩=some (.slice (some ⟨bb,off,none⟩) F.blocks.length c2)∧w'.cell? ⟨nb,7,none⟩=some (.int .i64 (s.block:Int))∧w'.cell? ⟨bb,off+s.block*7,none⟩=some (.string nm)∧w'.cell? ⟨bb,off+s.block*7+1,none⟩=some (.slice A3 pl c3)∧w'.cell? ⟨bb,off+s.block*7+2,none⟩=some (.slice A4 il c4)∧w'.cell? ⟨bb,off+s.block*7+3,none⟩=some (.int .i64 kd)∧w'.cell? ⟨bb,off+s.block*7+4,none⟩=some (.int .i64 vr0)∧w'.cell? ⟨bb,off+s.block*7+5,none⟩=some (.int .i64 t0)∧w'.cell? ⟨bb,off+s.block*7+6,none⟩=some (.int .i64 t1)∧Below w.heap.size w w'∧nb<w'.heap.size∧bb<w'.heap.size:=⟨_,rfl⟩
  have HS0:=Lh hS0;clear hS0;have k0:=fun xw=>(WS.at HS0 xw).1
  have k1:=fun xw=>(WS.at HS0 xw).2.1
  have k2:=fun xw=>(WS.at HS0 xw).2.2.1
  have k3:=fun xw=>(WS.at HS0 xw).2.2.2.1
  have k4:=fun xw=>(WS.at HS0 xw).2.2.2.2.1
  have k5:=fun xw=>(WS.at HS0 xw).2.2.2.2.2.1
  have k6:=fun xw=>(WS.at HS0 xw).2.2.2.2.2.2.1
  have k7:=fun xw=>(WS.at HS0 xw).2.2.2.2.2.2.2.1
  have k8:=fun xw=>(WS.at HS0 xw).2.2.2.2.2.2.2.2.1
  have k9:=fun xw=>(WS.at HS0 xw).2.2.2.2.2.2.2.2.2.1
  have k10:=fun xw=>(WS.at HS0 xw).2.2.2.2.2.2.2.2.2.2.1
  have k11:=fun xw=>(WS.at HS0 xw).2.2.2.2.2.2.2.2.2.2.2
  refine YZ (S:=S0) [12] ZK ?hS (fun hSc hcl=>?_)
  case hS=>
   rw[HS0.out];exact⟨ZI,ZI,ZI,ZI,ZI,ZI,ZI,ZI,ZI,BL,ZJ,ZJ⟩
  have hne0:Nonempty (WS S0):=⟨⟨_,hSc⟩⟩;have hneT:Nonempty (WS (fun _=>True)):=match hne0 with|⟨x⟩=>⟨⟨x.w,trivial⟩⟩
  refine YT [(0,0),(1,0),(2,0),(3,0),(4,0),(5,0),(6,0),(7,0),(8,0),(9,0),(10,0),(11,1)] 1 rfl ZK (fun _ _ _ _ _ h=>h) hSc hcl ?_
  all_goals
   (try simp only[List.map_cons,List.map_nil,Ld,Le])
   repeat
    first
    |((with_reducible refine YU ?_ ?_);exact rfl;dsimp only;go_big_quiet_step (fail);(try with_reducible refine wpQuiet_nil ?_);(try dsimp only))
    |((with_reducible refine YV ?_ ?_);exact rfl;dsimp only;go_big_quiet_step (fail);(try with_reducible refine wpQuiet_nil ?_);(try dsimp only))
    |((with_reducible refine YaI ?_ ?_ (fun K hK=>?_))
      exact rfl;exact rfl;dsimp only;go_simp;(try go_wp2_with(fail));refine hK.out _ _ ?hS (fun hSc=>?_)
      case hS=>
       first
       |exact hSc
       |(rw[HS0.out]at hSc ⊢;obtain⟨p0,p1,p2,p3,p4,p5,p6,p7,p8,p9,p10,p11⟩:=hSc;exact⟨ZC,ZC,ZC,ZC,ZC,ZC,ZC,ZC,ZC,BL,ZT,ZT⟩)
      clear hK K)
   (try(refine YW ?_;intro hSc hcl))
  all_goals
   refine Y0 [12] rfl ZK ?_;simp only[List.map_cons,List.map_nil,Ld,Le];rw[HS0.out]at hSc;obtain⟨p0,p1,p2,p3,p4,p5,p6,p7,p8,p9,p10,p11⟩:=hSc;clear hne0 hneT hcl HS0 k0 k1 k2 k3 k4 k5 k6 k7 k8 k9 k10 k11;go_wp2_with fail
   go_meet
   exact⟨rfl,ZS,BL,by go_simp,by go_simp,by go_simp⟩
 case rest=>as_aux_lemma=>
  obtain⟨rfl,hlx,hbx,b2,b3,b4⟩:=hcut;have k8x:=(hbx.cell (p:=⟨nb,8,none⟩) xl).trans k8;have xlx:=Nt xl hbx.size;have HBX:=Lh hbx
  by_cases h1:s.pc<il
  · as_aux_lemma=>
    have h2:(s.pc:Int)<(il:Int):=by omega
    have hpl:s.pc<(F.blk s.block).insts.length:=by rw[← HIL.out];exact h1
    obtain⟨ib,io,A5,c5,rfl,ibl,q0,q1,q2,q3,l5,k5,r5⟩:=HRI.out.inst (HWW.out.trans (hbx.mono HWW.out.size)) hpl;have HM:=Lh (show takesR F s=((F.blk s.block).inst s.pc).args from if_pos hpl);have HR5:=Lh r5;have HL5:=Lh l5;have HK5:=Lh k5;clear hpl r5 q0 q1 q3 hbx h1 k7 l5 k5;generalize ((F.blk s.block).inst s.pc)=x at *;go_wp2
    go_quiet (fail)
    obtain⟨w1,hw1⟩:∃w1:World,w1=wc.drewN nq:=⟨_,rfl⟩;rw[← hw1];have h01:Below wc.heap.size wc w1:=by rw[hw1];exact bdrewN (Br _ _) _
    have d2:=(h01.cell (p:=⟨w.heap.size,2,none⟩) hlx).trans b2;have d8:=(h01.cell (p:=⟨nb,8,none⟩) xlx).trans k8x;have dq:=(h01.cell (p:=⟨ib,io+s.pc*4+2,none⟩) ibl).trans q2;have s0:=Nt hlx h01.size;have s1:=Nt xlx h01.size;have s2:=Nt ibl h01.size;have HB1:=Lh (HBX.out.trans (h01.mono HBX.out.size));clear h01 hw1 b2 b3 b4 k8x q2 hlx xlx ibl;go_wp2
    go_quiet (fail)
    obtain⟨w2,hw2⟩:∃w2:World,w2=w1.drewN nq:=⟨_,rfl⟩;rw[← hw2];have hb2:Below w.heap.size w w2:=by rw[hw2];exact bdrewN HB1.out _
    clear hw2;go_wp2;go_ret;rw[HM.out];refine⟨_,rfl,⟨A5,c5,rfl,HK5.out,HL5.out,HR5.out.keep (HWW.out.trans (hb2.mono HWW.out.size)).size fun b o y hy hc=>?_⟩,hb2⟩;unfold Yi at *;rw[(HWW.out.trans (hb2.mono HWW.out.size)).cell (p:=⟨b,o,none⟩) hy];exact hc
  · as_aux_lemma=>
    have h2:decide ((s.pc:Int)<(il:Int))=false:=decide_eq_false ZO;have h3:decide (s.pc<il)=false:=decide_eq_false h1;have hpl:¬s.pc<(F.blk s.block).insts.length:=by rw[← HIL.out];exact h1
    have HM:=Lh (show takesR F s=(if kd=0 then [] else [vr0])++(if Yby F s<0 then [] else Ybh (F.blk (Yby F s).toNat).phis s.block) by rw[HKD.out,HVR.out];exact if_neg hpl);have HSP:=Lh (Yds HTY.out HI.out);clear hpl h1 hbx;go_wp2
    go_quiet (fail)
    obtain⟨w1,hw1⟩:∃w1:World,w1=wc.drewN nq:=⟨_,rfl⟩;rw[← hw1];have h01:Below wc.heap.size wc w1:=by rw[hw1];exact bdrewN (Br _ _) _
    have d3:=(h01.cell (p:=⟨w.heap.size,3,none⟩) hlx).trans b3;have d4:=(h01.cell (p:=⟨w.heap.size,4,none⟩) hlx).trans b4;have s0:=Nt hlx h01.size;have hb1:Below w.heap.size w w1:=HBX.out.trans (h01.mono HBX.out.size);have hsz1:=hb1.size;clear h01 hw1 b2 b3 b4 k8x hlx xlx
    go_upto_if 40 with fail
    go_cut[4] (fun s4 wx=>wx.ownsRow w.heap.size 3 1 s4 (Ybi kd vr0).length ((Ybi kd vr0).map (Value.int .i64))∧Below w.heap.size w wx)
    case first=>as_aux_lemma=>
     by_cases e0:kd=0
     · have f0:(kd !=0)=false:=by simp[e0]
       have HT0:=Lh (show Ybi kd vr0=[]from if_pos e0);clear e0;go_wp2
       go_meet
       rw[HT0.out];exact⟨World.ownsRow_nil _ _ _ _,hb1⟩
     · have f0:(kd !=0)=true:=by rw[bne_iff_ne];exact e0
       have HT0:=Lh (show Ybi kd vr0=[vr0]from if_neg e0);clear e0;go_wp2_with(at_builtin;refine YcA _ rfl _ _ 23 rfl w.heap.size 3 8 Tryz.underlying23 Tryz.info3 rfl _ _ _ rfl (World.ownsRow_nil _ _ _ _) _ rfl (.int .i64 vr0) (by rfl) rfl ZO ZD hsz1 ?_;intro v' w8 hown8 hg8 hfr8;obtain⟨A8,c8,hv8⟩:=Yh hown8;subst hv8)
       go_meet
       rw[HT0.out];exact⟨hown8,Ybj (World.ownsRow_nil _ _ 3 1) hg8 hb1 (Nr _) hsz1⟩
    case rest=>as_aux_lemma=>
     obtain⟨ho4,hb4⟩:=hcut;obtain⟨A9,c9,rfl⟩:=Yh ho4;go_wp2_with fail;refine(HNX.out wc hb4).mono ?_;rintro e w2 ⟨rfl,hb2⟩;have hB2:=hb4.trans (hb2.mono hb4.size);have ho2:=Yl ho4 hb2;have htl:=YpY kd vr0;rcases HSP.out with⟨-,hn,-⟩|⟨c,hc,hn,-⟩
     · as_aux_lemma=>
       have HM2:=Lh (show takesR F s=Ybi kd vr0 by rw[HM.out,hn,if_pos (show(-1:Int)<0 from ZD),List.append_nil];rfl);have HO2:=Lh ho2;rw[hn];clear hn ho4 ho2;go_wp2;go_ret;rw[HM2.out];exact⟨_,rfl,RowI.own HO2.out rfl ZO,hB2⟩
     · as_aux_lemma=>
       have HM2:=Lh (show takesR F s=Ybi kd vr0++Ybh (F.blk c).phis s.block by rw[HM.out,hn,if_neg (show ¬(c:Int)<0 from ZO),Int.toNat_natCast];rfl);rw[hn];have hcl:=YbC HTY.out HI.out.blk c hc;obtain⟨bb2,off2,A5,c5,A6,c6,he2,hbb2,-,u0,u1,u2,u3,u4,u5,u6,lp5,-,kp5,-,rp5,-⟩:=R2.out.blk (HWW.out.trans (hB2.mono HWW.out.size)) hcl;cases he2;obtain⟨hpn,hpf⟩:=HFP.out c hcl;have k2x:=(hB2.cell (p:=⟨nb,2,none⟩) xl).trans k2;have xl2:=Nt xl hB2.size;have hci:(c:Int)<(F.blocks.length:Int):=by omega
       have HB2:=Lh hB2;have HRP:=Lh rp5;have HO2:=Lh ho2;have HTP:=Lh (fun k (hk:k<(F.blk c).phis.length)=>Ydl HTY.out hcl hk);have HPF:=Lh hpf;clear hn hB2 hb2 hb1 u0 u2 u3 u4 u5 u6 k8 k2 hbb rp5 ho2 ho4 hb4 hpf;go_wp2
       go_loopw[61,4] (fun x v4 wr=>∃k:Nat,x=.int .i64 k∧k≤(F.blk c).phis.length∧wr.ownsRow w.heap.size 3 1 v4 (Ybz F c s.block (Ybi kd vr0) k).length ((Ybz F c s.block (Ybi kd vr0) k).map (Value.int .i64))∧Below w.heap.size w wr) (fun x _ _=>(F.blk c).phis.length-(intOf x).toNat)
       case atStart=>exact⟨0,rfl,Nz _,by rw[YpZ];exact HO2.out,HB2.out⟩
       case round=>as_aux_lemma=>
        obtain⟨k,rfl,hk,ho,hb⟩:=hrel;obtain⟨Aw,cw,rfl⟩:=Yh ho;have hsz:=hb.size
        by_cases hkl:k<(F.blk c).phis.length
        · have hWr:=HWW.out.trans (hb.mono HWW.out.size)
          obtain⟨b5,off5,A7,c7,A8,c8,rfl,hbb5,z0,z1,z2,l7,l8,k7a,k8a,r7,r8⟩:=HRP.out.phi hWr hkl;have hki:(k:Int)<((F.blk c).phis.length:Int):=by omega
          have htk:=YjO (F:=F) (c:=c) (b:=s.block) (pre:=Ybi kd vr0) (k:=k) (fun q hq=>(HPF.out q hq).2);have HTK:=Lh (Yp1 (F:=F) (b:=s.block) (pre:=Ybi kd vr0) hkl);obtain⟨hpa,-,-⟩:=HTP.out k hkl;have hpb:=(HPF.out _ (Ybk hkl)).2;have HPA:=Lh hpa;have HR7:=Lh r7;have HR8:=Lh r8;unfold Len at *;generalize Ybz F c s.block (Ybi kd vr0) k=T at *;generalize (F.blk c).phi k=p at *;have HS:=Lh (show(Value.slice Aw T.length cw).ownBlock=some wr.heap.size→False from fun e=>Nat.lt_irrefl _ (Yv ho e).2);have HO:=Lh ho;have HB:=Lh hb;obtain⟨wq,rfl⟩:∃wq:World,wq=wr:=⟨_,rfl⟩;clear r7 r8 ho hb hWr hpa;go_wp2;clear z0 z1 z2 hbb5
          go_loopw[68,4] (fun y v4 wr=>∃j:Nat,y=.int .i64 j∧j≤p.froms.length∧wr.ownsRow w.heap.size 3 1 v4 (T++Yal (p.froms.take j) (p.args.take j) s.block).length ((T++Yal (p.froms.take j) (p.args.take j) s.block).map (Value.int .i64))∧(v4.ownBlock=some wq.heap.size→False)∧BoxAt wr wq.heap.size #[.int .i64 p.dst,.slice A7 p.args.length c7,.slice A8 p.froms.length c8] 64∧Below w.heap.size w wr) (fun x _ _=>p.froms.length-(intOf x).toNat)
          case atStart=>exact⟨0,rfl,Nz _,by simpa[Yal]using HO.out.alloc _,HS.out,BoxAt.new _ _ _,HB.out.alloc hsz _⟩
          case round=>as_aux_lemma=>
           clear HO HB HS hsz;obtain⟨j,rfl,hj,ho,hne,hbx,hb⟩:=hrel;obtain⟨Aw,cw,rfl⟩:=Yh ho;have hsz:=hb.size;have hpl:=YgW (p.froms.take j) (p.args.take j) s.block;have htl2:(p.froms.take j).length≤400:=by rw[List.length_take];omega
           have q1:=hbx.cell 1;have q2:=hbx.cell 2;have ql:=hbx.lt;replace q1:wr.cell? ⟨wq.heap.size,1,none⟩=some (.slice A7 p.args.length c7):=q1;replace q2:wr.cell? ⟨wq.heap.size,2,none⟩=some (.slice A8 p.froms.length c8):=q2
           by_cases hjl:j<p.froms.length
           · have hWr:=HWW.out.trans (hb.mono HWW.out.size)
             obtain⟨b8,o8,rfl,hb8,y8⟩:=HR8.out.int hWr hjl;have hja2:j<p.args.length:=by rw[HPA.out];exact hjl
             obtain⟨b7,o7,rfl,hb7,y7⟩:=HR7.out.int hWr hja2;have hji:(j:Int)<(p.froms.length:Int):=by omega
             have hja:(j:Int)<(p.args.length:Int):=by omega
             have k7x:=(hb.cell (p:=⟨nb,7,none⟩) xl).trans k7;have xlx:=Nt xl hsz;have HPT:=Lh (YjM p.froms p.args s.block j hjl HPA.out.symm);have HNE:=Lh hne;generalize Yal (p.froms.take j) (p.args.take j) s.block=Q at *;have HO:=Lh ho;have HBX:=Lh hbx;have HB:=Lh hb;have hql:T.length+Q.length<1048576:=by omega
             have HQL:=Lh hql;clear ho hne hbx hb hWr hql
             by_cases e:ith p.froms j=(s.block:Int)
             · have f1:(ith p.froms j==(s.block:Int))=true:=by simp[e]
               have HP2:=Lh (HPT.out.trans (by rw[if_pos e]));clear e;generalize ith p.froms j=fj at *;generalize ith p.args j=aj at *;go_wp2
               go_quiet (fail)
               obtain⟨wz,hwz⟩:∃wz:World,wz=wr.drewN nq:=⟨_,rfl⟩;rw[← hwz];have hbz:Below wr.heap.size wr wz:=by rw[hwz];exact bdrewN (Br _ _) _
               have q1z:=(hbz.cell (p:=⟨wq.heap.size,1,none⟩) ql).trans q1;have y7z:=(hbz.cell (p:=⟨b7,o7+j,none⟩) hb7).trans y7;have qlz:=Nt ql hbz.size;have b7z:=Nt hb7 hbz.size;have hoz:=Yl HO.out hbz;have HBXz:=Lh (HBX.out.below hbz ql);have HBz:=Lh (HB.out.trans (hbz.mono HB.out.size));have hszz:=HBz.out.size;have hlen:(T++Q).length<1048576:=by rw[List.length_append];exact HQL.out
               clear hwz hbz q1 q2 y7 y8 ql hb7 hb8 k7x xlx HO HBX;go_wp2_with(at_builtin;refine YcA _ rfl _ _ 23 rfl w.heap.size 3 8 Tryz.underlying23 Tryz.info3 rfl _ _ _ rfl hoz _ rfl (.int .i64 aj) (by rfl) rfl ZO ZD hszz ?_;intro v' w8 hown8 hg8 hfr8;obtain⟨A8,c8,hv8⟩:=Yh hown8;subst hv8);go_roundw
               case rel=>
                refine⟨j+1,ZN,ZO,?_,?_,(HBXz.out.alloc _).grown hg8 (fun e=>HNE.out e),Ybj hoz hg8 HBz.out (Nr _) hszz⟩
                · rw[HP2.out,← List.append_assoc]
                  simpa[Nat.add_assoc]using hown8
                · intro e
                  rcases hfr8 _ (by simpa using e)with e|e
                  · exact HNE.out e
                  · exact ZO
               case measure=>simp[intOf];omega
             · have f1:(ith p.froms j==(s.block:Int))=false:=by rw[beq_eq_false_iff_ne];exact e
               have HP2:=Lh (HPT.out.trans (by rw[if_neg e,List.append_nil]));clear e;generalize ith p.froms j=fj at *;go_wp2
               go_quiet (fail)
               obtain⟨wz,hwz⟩:∃wz:World,wz=wr.drewN nq:=⟨_,rfl⟩;rw[← hwz];have hbz:Below wr.heap.size wr wz:=by rw[hwz];exact bdrewN (Br _ _) _
               have HOz:=Lh (Yl HO.out hbz);have HBXz:=Lh (HBX.out.below hbz ql);have HBz:=Lh (HB.out.trans (hbz.mono HB.out.size));clear hwz hbz;go_wp2;go_roundw
               case rel=>exact⟨j+1,ZN,ZO,by rw[HP2.out];exact HOz.out,HNE.out,HBXz.out,HBz.out⟩
               case measure=>simp[intOf];omega
           · obtain rfl:j=p.froms.length:=by omega
             have hq:T++Yal (p.froms.take p.froms.length) (p.args.take p.froms.length) s.block=Ybz F c s.block (Ybi kd vr0) (k+1):=by rw[List.take_length,← HPA.out,List.take_length,← HTK.out]
             rw[hq]at ho ⊢;clear hq;have HO:=Lh ho;have HB:=Lh hb;clear ho hb;go_wp2;go_roundw
             case rel=>exact⟨k+1,ZN,ZO,HO.out,HB.out⟩
             case measure=>simp[intOf];omega
        · obtain rfl:k=(F.blk c).phis.length:=by omega
          have htk:=YjO (F:=F) (c:=c) (b:=s.block) (pre:=Ybi kd vr0) (k:=(F.blk c).phis.length) (fun q hq=>(HPF.out q hq).2);have HO:=Lh ho;have HB:=Lh hb;clear ho hb;go_wp2;go_ret;rw[HM2.out,← Yp0];exact⟨_,rfl,RowI.own HO.out rfl ZO,HB.out⟩
end
end Go.Proofs.YthhjlbflpjhahaaGreatDoor
