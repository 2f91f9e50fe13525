/- The walk of (*World).Next of the document's run. -/
import Derived.Test.YthhpbkfngcflcaaGreatDoorRunS
import Derived.Test.YthhpbkfngcflcaaGreatDoorSch
import Derived.Test.YthhpbkfngcflcaaGreatDoorPreds
namespace Go.Proofs.YthhpbkfngcflcaaGreatDoor
open Go.RowKit
set_option maxRecDepth 100000
set_option maxHeartbeats 4000000 in
theorem next_calls {W w : World} {D : Nat → Prop} {nb gi gb ga n : Nat} {vr vt : Value} {vrs : List Value} {s : RSt} {F : PFunc} {A0 A1 A2 : Option Addr} {c0 c1 c2 : Nat}
 (hF : FnV W W.heap.size (.agg #[.slice A0 F.vars.length c0, .slice A1 F.params.length c1, .slice A2 F.blocks.length c2]) F) (hW : Below W.heap.size W w)
 (h : RunO w D (.slice A0 F.vars.length c0) (.slice A1 F.params.length c1) (.slice A2 F.blocks.length c2) nb gi gb ga n vr vt vrs s) (hb : s.block < F.blocks.length)
 (hv : (F.blk s.block).term.kind ≠ 0 → ∃ k : Nat, (F.blk s.block).term.var = k ∧ k < n) :
 Calls Tryz.prog 74 #[.pointer (some ⟨nb, 0, none⟩)] w fun e w' => e = .returned (.int .i64 (nextR F s)) ∧ Below w.heap.size w w' := by
 obtain ⟨A0', c0', A1', c1', A2', c2', hfe, l0, l1, l2, -, -, -, r0, r1, r2⟩ := id hF.open_
 simp only [Value.agg.injEq, Array.mk.injEq, List.cons.injEq, Value.slice.injEq, true_and, and_true] at hfe
 obtain ⟨⟨rfl, rfl⟩, ⟨rfl, rfl⟩, rfl, rfl⟩ := hfe
 unfold Len at *
 obtain ⟨bb, off, A3, c3, A4, c4, rfl, hbb, -, hy0, hy1, hy2, hy3, hy4, hy5, hy6, -⟩ := r2.blk hW hb
 have xl := h.box.lt
 have k2 := h.box.cell 2
 have k4 := h.box.cell 4
 have k7 := h.box.cell 7
 have k8 := h.box.cell 8
 replace k2 : w.cell? ⟨nb, 2, none⟩ = some (.slice (some ⟨bb, off, none⟩) F.blocks.length c2) := k2
 replace k4 : w.cell? ⟨nb, 4, none⟩ = some (.slice (some ⟨gb, 0, none⟩) n n) := k4
 replace k7 : w.cell? ⟨nb, 7, none⟩ = some (.int .i64 (s.block : Int)) := k7
 replace k8 : w.cell? ⟨nb, 8, none⟩ = some (.int .i64 (s.pc : Int)) := k8
 have hbn : (s.block : Int) < (F.blocks.length : Int) := by omega
 have HB := Lib.hid h.bools
 clear h hF r0 r1 r2
 have hgb := (HB.out.lt gb rfl).2
 obtain ⟨kv, hkv⟩ : ∃ k : Nat, k = (F.blk s.block).term.var.toNat := ⟨_, rfl⟩
 have hz : (F.blk s.block).term.kind ≠ 0 → kv < n ∧ (F.blk s.block).term.var = (kv : Int) := fun e => by
  obtain ⟨k, h1, h2⟩ := hv e
  rw [h1] at hkv
  simp at hkv
  subst hkv
  exact ⟨h2, h1⟩
 have HN := Lib.hid (show nextR F s = (if s.pc < (F.blk s.block).insts.length ∨ (F.blk s.block).term.kind = 2 then -1 else if (F.blk s.block).term.kind = 0 ∨ s.bools.getD kv false = true then (F.blk s.block).term.t0 else (F.blk s.block).term.t1) by rw [hkv]; rfl)
 clear hkv hv
 generalize (F.blk s.block).insts.length = il at *
 generalize (F.blk s.block).phis.length = pl0 at *
 generalize (F.blk s.block).term.kind = kd at *
 generalize (F.blk s.block).term.var = vr0 at *
 generalize (F.blk s.block).term.t0 = t0 at *
 generalize (F.blk s.block).term.t1 = t1 at *
 generalize (F.blk s.block).name = nm at *
 obtain ⟨oz, hoz⟩ : ∃ o, w.cell? ⟨gb, kv, none⟩ = o := ⟨_, rfl⟩
 by_cases h1 : s.pc < il
 · have h2 : (s.pc : Int) < (il : Int) := by omega
   have HX := Lib.hid (HN.out.trans (if_pos (.inl h1)))
   clear hz
   go_enter Tryz.func74, Tryz.ntmps74
   go_wp2_with fail
   obtain ⟨S0, hS0⟩ : ∃ S0 : World → Prop, S0 = fun w' => w'.cell? ⟨nb, 8, none⟩ = some (.int .i64 (s.pc : Int)) ∧ w'.cell? ⟨nb, 4, none⟩ = some (.slice (some ⟨gb, 0, none⟩) n n) ∧ w'.cell? ⟨nb, 2, none⟩ = some (.slice (some ⟨bb, off, none⟩) F.blocks.length c2) ∧ w'.cell? ⟨nb, 7, none⟩ = some (.int .i64 (s.block : Int)) ∧ w'.cell? ⟨bb, off + s.block * 7, none⟩ = some (.string nm) ∧ w'.cell? ⟨bb, off + s.block * 7 + 1, none⟩ = some (.slice A3 pl0 c3) ∧ w'.cell? ⟨bb, off + s.block * 7 + 2, none⟩ = some (.slice A4 il c4) ∧ w'.cell? ⟨bb, off + s.block * 7 + 3, none⟩ = some (.int .i64 kd) ∧ w'.cell? ⟨bb, off + s.block * 7 + 4, none⟩ = some (.int .i64 vr0) ∧ w'.cell? ⟨bb, off + s.block * 7 + 5, none⟩ = some (.int .i64 t0) ∧ w'.cell? ⟨bb, off + s.block * 7 + 6, none⟩ = some (.int .i64 t1) ∧ w'.cell? ⟨gb, kv, none⟩ = oz ∧ Below w.heap.size w w' ∧ nb < w'.heap.size ∧ bb < w'.heap.size ∧ gb < w'.heap.size := ⟨_, rfl⟩
   have HS0 := Lib.hid hS0
   clear hS0
   have k0 := fun xw => (WS.at HS0 xw).1
   have k1 := fun xw => (WS.at HS0 xw).2.1
   have k2 := fun xw => (WS.at HS0 xw).2.2.1
   have k3 := fun xw => (WS.at HS0 xw).2.2.2.1
   have k4 := fun xw => (WS.at HS0 xw).2.2.2.2.1
   have k5 := fun xw => (WS.at HS0 xw).2.2.2.2.2.1
   have k6 := fun xw => (WS.at HS0 xw).2.2.2.2.2.2.1
   have k7 := fun xw => (WS.at HS0 xw).2.2.2.2.2.2.2.1
   have k8 := fun xw => (WS.at HS0 xw).2.2.2.2.2.2.2.2.1
   have k9 := fun xw => (WS.at HS0 xw).2.2.2.2.2.2.2.2.2.1
   have k10 := fun xw => (WS.at HS0 xw).2.2.2.2.2.2.2.2.2.2.1
   have k11 := fun xw => (WS.at HS0 xw).2.2.2.2.2.2.2.2.2.2.2.1
   have k12 := fun xw => (WS.at HS0 xw).2.2.2.2.2.2.2.2.2.2.2.2.1
   have k13 := fun xw => (WS.at HS0 xw).2.2.2.2.2.2.2.2.2.2.2.2.2.1
   have k14 := fun xw => (WS.at HS0 xw).2.2.2.2.2.2.2.2.2.2.2.2.2.2.1
   have k15 := fun xw => (WS.at HS0 xw).2.2.2.2.2.2.2.2.2.2.2.2.2.2.2
   refine wp_region_sched (S := S0) [0, 1, 2, 3, 4, 5, 6, 7, 8, 9, 10, 11, 12] ZK ZK (fun _ _ _ _ _ h => h) ?hS (fun hSc => ?_)
   case hS =>
    rw [HS0.out]
    exact ⟨ZI, ZI, ZI, ZI, ZI, ZI, ZI, ZI, ZI, ZI, ZI, ZI, BL, ZJ, ZJ, ZJ⟩
   have hne0 : Nonempty (WS S0) := ⟨⟨_, hSc⟩⟩
   simp only [List.map_cons, List.map_nil, List.getD_cons_succ, List.getD_cons_zero]
   repeat
    first
    | ((with_reducible refine wpSch_lk ?_ ?_); exact rfl; go_big_quiet_step (fail); (try with_reducible refine wpQuiet_nil ?_); (try dsimp only))
    | ((with_reducible refine wpSch_act ?_ ?_ (fun K hK => ?_))
       exact rfl
       exact rfl
       go_simp
       (try go_wp2_with (fail))
       refine hK.out _ _ ?hS (fun hSc => ?_)
       case hS =>
        first
        | exact hSc
        | (rw [HS0.out] at hSc ⊢; obtain ⟨p0, p1, p2, p3, p4, p5, p6, p7, p8, p9, p10, p11, p12, p13, p14, p15⟩ := hSc; exact ⟨ZC, ZC, ZC, ZC, ZC, ZC, ZC, ZC, ZC, ZC, ZC, ZC, BL, ZT, ZT, ZT⟩)
       clear hK K)
   refine wpSch_nil ?_
   rw [HS0.out] at hSc
   obtain ⟨p0, p1, p2, p3, p4, p5, p6, p7, p8, p9, p10, p11, p12, p13, p14, p15⟩ := hSc
   clear hne0 HS0 k0 k1 k2 k3 k4 k5 k6 k7 k8 k9 k10 k11 k12 k13 k14 k15
   go_wp2
   go_quiet (fail)
   go_wp2
   go_ret
   rw [HX.out]
   first | exact ⟨rfl, bdrewM BL _⟩ | exact ⟨rfl, bdrewM (bdrewM BL _) _⟩
 have h2 : decide ((s.pc : Int) < (il : Int)) = false := decide_eq_false ZO
 have h3 : decide (s.pc < il) = false := decide_eq_false h1
 by_cases e2 : kd = 2
 · have HX := Lib.hid (HN.out.trans (if_pos (.inr e2)))
   have e2b : (kd == 2) = true := by rw [e2]; rfl
   clear hz e2
   go_enter Tryz.func74, Tryz.ntmps74
   go_wp2_with fail
   obtain ⟨S0, hS0⟩ : ∃ S0 : World → Prop, S0 = fun w' => w'.cell? ⟨nb, 8, none⟩ = some (.int .i64 (s.pc : Int)) ∧ w'.cell? ⟨nb, 4, none⟩ = some (.slice (some ⟨gb, 0, none⟩) n n) ∧ w'.cell? ⟨nb, 2, none⟩ = some (.slice (some ⟨bb, off, none⟩) F.blocks.length c2) ∧ w'.cell? ⟨nb, 7, none⟩ = some (.int .i64 (s.block : Int)) ∧ w'.cell? ⟨bb, off + s.block * 7, none⟩ = some (.string nm) ∧ w'.cell? ⟨bb, off + s.block * 7 + 1, none⟩ = some (.slice A3 pl0 c3) ∧ w'.cell? ⟨bb, off + s.block * 7 + 2, none⟩ = some (.slice A4 il c4) ∧ w'.cell? ⟨bb, off + s.block * 7 + 3, none⟩ = some (.int .i64 kd) ∧ w'.cell? ⟨bb, off + s.block * 7 + 4, none⟩ = some (.int .i64 vr0) ∧ w'.cell? ⟨bb, off + s.block * 7 + 5, none⟩ = some (.int .i64 t0) ∧ w'.cell? ⟨bb, off + s.block * 7 + 6, none⟩ = some (.int .i64 t1) ∧ w'.cell? ⟨gb, kv, none⟩ = oz ∧ Below w.heap.size w w' ∧ nb < w'.heap.size ∧ bb < w'.heap.size ∧ gb < w'.heap.size := ⟨_, rfl⟩
   have HS0 := Lib.hid hS0
   clear hS0
   have k0 := fun xw => (WS.at HS0 xw).1
   have k1 := fun xw => (WS.at HS0 xw).2.1
   have k2 := fun xw => (WS.at HS0 xw).2.2.1
   have k3 := fun xw => (WS.at HS0 xw).2.2.2.1
   have k4 := fun xw => (WS.at HS0 xw).2.2.2.2.1
   have k5 := fun xw => (WS.at HS0 xw).2.2.2.2.2.1
   have k6 := fun xw => (WS.at HS0 xw).2.2.2.2.2.2.1
   have k7 := fun xw => (WS.at HS0 xw).2.2.2.2.2.2.2.1
   have k8 := fun xw => (WS.at HS0 xw).2.2.2.2.2.2.2.2.1
   have k9 := fun xw => (WS.at HS0 xw).2.2.2.2.2.2.2.2.2.1
   have k10 := fun xw => (WS.at HS0 xw).2.2.2.2.2.2.2.2.2.2.1
   have k11 := fun xw => (WS.at HS0 xw).2.2.2.2.2.2.2.2.2.2.2.1
   have k12 := fun xw => (WS.at HS0 xw).2.2.2.2.2.2.2.2.2.2.2.2.1
   have k13 := fun xw => (WS.at HS0 xw).2.2.2.2.2.2.2.2.2.2.2.2.2.1
   have k14 := fun xw => (WS.at HS0 xw).2.2.2.2.2.2.2.2.2.2.2.2.2.2.1
   have k15 := fun xw => (WS.at HS0 xw).2.2.2.2.2.2.2.2.2.2.2.2.2.2.2
   refine wp_region_sched (S := S0) [0, 1, 2, 3, 4, 5, 6, 7, 8, 9, 10, 11, 12] ZK ZK (fun _ _ _ _ _ h => h) ?hS (fun hSc => ?_)
   case hS =>
    rw [HS0.out]
    exact ⟨ZI, ZI, ZI, ZI, ZI, ZI, ZI, ZI, ZI, ZI, ZI, ZI, BL, ZJ, ZJ, ZJ⟩
   have hne0 : Nonempty (WS S0) := ⟨⟨_, hSc⟩⟩
   simp only [List.map_cons, List.map_nil, List.getD_cons_succ, List.getD_cons_zero]
   repeat
    first
    | ((with_reducible refine wpSch_lk ?_ ?_); exact rfl; go_big_quiet_step (fail); (try with_reducible refine wpQuiet_nil ?_); (try dsimp only))
    | ((with_reducible refine wpSch_act ?_ ?_ (fun K hK => ?_))
       exact rfl
       exact rfl
       go_simp
       (try go_wp2_with (fail))
       refine hK.out _ _ ?hS (fun hSc => ?_)
       case hS =>
        first
        | exact hSc
        | (rw [HS0.out] at hSc ⊢; obtain ⟨p0, p1, p2, p3, p4, p5, p6, p7, p8, p9, p10, p11, p12, p13, p14, p15⟩ := hSc; exact ⟨ZC, ZC, ZC, ZC, ZC, ZC, ZC, ZC, ZC, ZC, ZC, ZC, BL, ZT, ZT, ZT⟩)
       clear hK K)
   refine wpSch_nil ?_
   rw [HS0.out] at hSc
   obtain ⟨p0, p1, p2, p3, p4, p5, p6, p7, p8, p9, p10, p11, p12, p13, p14, p15⟩ := hSc
   clear hne0 HS0 k0 k1 k2 k3 k4 k5 k6 k7 k8 k9 k10 k11 k12 k13 k14 k15
   go_wp2
   go_quiet (fail)
   go_wp2
   go_ret
   rw [HX.out]
   first | exact ⟨rfl, bdrewM BL _⟩ | exact ⟨rfl, bdrewM (bdrewM BL _) _⟩
 have e3 : (kd == 2) = false := by rw [beq_eq_false_iff_ne]; exact e2
 have HX := Lib.hid (HN.out.trans (if_neg (fun e => e.elim h1 e2)))
 by_cases e4 : kd = 0
 · have HY := Lib.hid (HX.out.trans (if_pos (.inl e4)))
   have e4b : (kd == 0) = true := by rw [e4]; rfl
   clear hz e4 e2
   go_enter Tryz.func74, Tryz.ntmps74
   go_wp2_with fail
   obtain ⟨S0, hS0⟩ : ∃ S0 : World → Prop, S0 = fun w' => w'.cell? ⟨nb, 8, none⟩ = some (.int .i64 (s.pc : Int)) ∧ w'.cell? ⟨nb, 4, none⟩ = some (.slice (some ⟨gb, 0, none⟩) n n) ∧ w'.cell? ⟨nb, 2, none⟩ = some (.slice (some ⟨bb, off, none⟩) F.blocks.length c2) ∧ w'.cell? ⟨nb, 7, none⟩ = some (.int .i64 (s.block : Int)) ∧ w'.cell? ⟨bb, off + s.block * 7, none⟩ = some (.string nm) ∧ w'.cell? ⟨bb, off + s.block * 7 + 1, none⟩ = some (.slice A3 pl0 c3) ∧ w'.cell? ⟨bb, off + s.block * 7 + 2, none⟩ = some (.slice A4 il c4) ∧ w'.cell? ⟨bb, off + s.block * 7 + 3, none⟩ = some (.int .i64 kd) ∧ w'.cell? ⟨bb, off + s.block * 7 + 4, none⟩ = some (.int .i64 vr0) ∧ w'.cell? ⟨bb, off + s.block * 7 + 5, none⟩ = some (.int .i64 t0) ∧ w'.cell? ⟨bb, off + s.block * 7 + 6, none⟩ = some (.int .i64 t1) ∧ w'.cell? ⟨gb, kv, none⟩ = oz ∧ Below w.heap.size w w' ∧ nb < w'.heap.size ∧ bb < w'.heap.size ∧ gb < w'.heap.size := ⟨_, rfl⟩
   have HS0 := Lib.hid hS0
   clear hS0
   have k0 := fun xw => (WS.at HS0 xw).1
   have k1 := fun xw => (WS.at HS0 xw).2.1
   have k2 := fun xw => (WS.at HS0 xw).2.2.1
   have k3 := fun xw => (WS.at HS0 xw).2.2.2.1
   have k4 := fun xw => (WS.at HS0 xw).2.2.2.2.1
   have k5 := fun xw => (WS.at HS0 xw).2.2.2.2.2.1
   have k6 := fun xw => (WS.at HS0 xw).2.2.2.2.2.2.1
   have k7 := fun xw => (WS.at HS0 xw).2.2.2.2.2.2.2.1
   have k8 := fun xw => (WS.at HS0 xw).2.2.2.2.2.2.2.2.1
   have k9 := fun xw => (WS.at HS0 xw).2.2.2.2.2.2.2.2.2.1
   have k10 := fun xw => (WS.at HS0 xw).2.2.2.2.2.2.2.2.2.2.1
   have k11 := fun xw => (WS.at HS0 xw).2.2.2.2.2.2.2.2.2.2.2.1
   have k12 := fun xw => (WS.at HS0 xw).2.2.2.2.2.2.2.2.2.2.2.2.1
   have k13 := fun xw => (WS.at HS0 xw).2.2.2.2.2.2.2.2.2.2.2.2.2.1
   have k14 := fun xw => (WS.at HS0 xw).2.2.2.2.2.2.2.2.2.2.2.2.2.2.1
   have k15 := fun xw => (WS.at HS0 xw).2.2.2.2.2.2.2.2.2.2.2.2.2.2.2
   refine wp_region_sched (S := S0) [0, 1, 2, 3, 4, 5, 6, 7, 8, 9, 10, 11, 12] ZK ZK (fun _ _ _ _ _ h => h) ?hS (fun hSc => ?_)
   case hS =>
    rw [HS0.out]
    exact ⟨ZI, ZI, ZI, ZI, ZI, ZI, ZI, ZI, ZI, ZI, ZI, ZI, BL, ZJ, ZJ, ZJ⟩
   have hne0 : Nonempty (WS S0) := ⟨⟨_, hSc⟩⟩
   simp only [List.map_cons, List.map_nil, List.getD_cons_succ, List.getD_cons_zero]
   repeat
    first
    | ((with_reducible refine wpSch_lk ?_ ?_); exact rfl; go_big_quiet_step (fail); (try with_reducible refine wpQuiet_nil ?_); (try dsimp only))
    | ((with_reducible refine wpSch_act ?_ ?_ (fun K hK => ?_))
       exact rfl
       exact rfl
       go_simp
       (try go_wp2_with (fail))
       refine hK.out _ _ ?hS (fun hSc => ?_)
       case hS =>
        first
        | exact hSc
        | (rw [HS0.out] at hSc ⊢; obtain ⟨p0, p1, p2, p3, p4, p5, p6, p7, p8, p9, p10, p11, p12, p13, p14, p15⟩ := hSc; exact ⟨ZC, ZC, ZC, ZC, ZC, ZC, ZC, ZC, ZC, ZC, ZC, ZC, BL, ZT, ZT, ZT⟩)
       clear hK K)
   refine wpSch_nil ?_
   rw [HS0.out] at hSc
   obtain ⟨p0, p1, p2, p3, p4, p5, p6, p7, p8, p9, p10, p11, p12, p13, p14, p15⟩ := hSc
   clear hne0 HS0 k0 k1 k2 k3 k4 k5 k6 k7 k8 k9 k10 k11 k12 k13 k14 k15
   go_wp2
   go_quiet (fail)
   go_wp2
   go_quiet (fail)
   go_wp2
   go_ret
   rw [HY.out]
   first | exact ⟨rfl, bdrewM BL _⟩ | exact ⟨rfl, bdrewM (bdrewM BL _) _⟩
 · obtain ⟨hk1, hk2⟩ := hz e4
   have e4b : (kd == 0) = false := by rw [beq_eq_false_iff_ne]; exact e4
   have hkn : (kv : Int) < (n : Int) := by omega
   obtain ⟨z, hzz⟩ : ∃ z, s.bools.getD kv false = z := ⟨_, rfl⟩
   have hoz2 : oz = some (.bool z) := by rw [← hoz, ← hzz]; exact own_boo HB.out hk1
   have HY := Lib.hid (show nextR F s = if z = true then t0 else t1 by
    rw [HX.out, ← hzz]
    cases s.bools.getD kv false
    · rw [if_neg (by simp [e4]), if_neg ZS]
    · rw [if_pos (.inr rfl), if_pos rfl])
   have HK2 := Lib.hid hk2
   have HO2 := Lib.hid hoz2
   clear hz e4 e2 hzz hoz2 hk2
   go_enter Tryz.func74, Tryz.ntmps74
   go_wp2_with fail
   obtain ⟨S0, hS0⟩ : ∃ S0 : World → Prop, S0 = fun w' => w'.cell? ⟨nb, 8, none⟩ = some (.int .i64 (s.pc : Int)) ∧ w'.cell? ⟨nb, 4, none⟩ = some (.slice (some ⟨gb, 0, none⟩) n n) ∧ w'.cell? ⟨nb, 2, none⟩ = some (.slice (some ⟨bb, off, none⟩) F.blocks.length c2) ∧ w'.cell? ⟨nb, 7, none⟩ = some (.int .i64 (s.block : Int)) ∧ w'.cell? ⟨bb, off + s.block * 7, none⟩ = some (.string nm) ∧ w'.cell? ⟨bb, off + s.block * 7 + 1, none⟩ = some (.slice A3 pl0 c3) ∧ w'.cell? ⟨bb, off + s.block * 7 + 2, none⟩ = some (.slice A4 il c4) ∧ w'.cell? ⟨bb, off + s.block * 7 + 3, none⟩ = some (.int .i64 kd) ∧ w'.cell? ⟨bb, off + s.block * 7 + 4, none⟩ = some (.int .i64 vr0) ∧ w'.cell? ⟨bb, off + s.block * 7 + 5, none⟩ = some (.int .i64 t0) ∧ w'.cell? ⟨bb, off + s.block * 7 + 6, none⟩ = some (.int .i64 t1) ∧ w'.cell? ⟨gb, kv, none⟩ = oz ∧ Below w.heap.size w w' ∧ nb < w'.heap.size ∧ bb < w'.heap.size ∧ gb < w'.heap.size := ⟨_, rfl⟩
   have HS0 := Lib.hid hS0
   clear hS0
   have k0 := fun xw => (WS.at HS0 xw).1
   have k1 := fun xw => (WS.at HS0 xw).2.1
   have k2 := fun xw => (WS.at HS0 xw).2.2.1
   have k3 := fun xw => (WS.at HS0 xw).2.2.2.1
   have k4 := fun xw => (WS.at HS0 xw).2.2.2.2.1
   have k5 := fun xw => (WS.at HS0 xw).2.2.2.2.2.1
   have k6 := fun xw => (WS.at HS0 xw).2.2.2.2.2.2.1
   have k7 := fun xw => (WS.at HS0 xw).2.2.2.2.2.2.2.1
   have k8 := fun xw => (WS.at HS0 xw).2.2.2.2.2.2.2.2.1
   have k9 := fun xw => (WS.at HS0 xw).2.2.2.2.2.2.2.2.2.1
   have k10 := fun xw => (WS.at HS0 xw).2.2.2.2.2.2.2.2.2.2.1
   have k11 := fun xw => (WS.at HS0 xw).2.2.2.2.2.2.2.2.2.2.2.1
   have k12 := fun xw => (WS.at HS0 xw).2.2.2.2.2.2.2.2.2.2.2.2.1
   have k13 := fun xw => (WS.at HS0 xw).2.2.2.2.2.2.2.2.2.2.2.2.2.1
   have k14 := fun xw => (WS.at HS0 xw).2.2.2.2.2.2.2.2.2.2.2.2.2.2.1
   have k15 := fun xw => (WS.at HS0 xw).2.2.2.2.2.2.2.2.2.2.2.2.2.2.2
   refine wp_region_sched (S := S0) [0, 1, 2, 3, 4, 5, 6, 7, 8, 9, 10, 11, 12] ZK ZK (fun _ _ _ _ _ h => h) ?hS (fun hSc => ?_)
   case hS =>
    rw [HS0.out]
    exact ⟨ZI, ZI, ZI, ZI, ZI, ZI, ZI, ZI, ZI, ZI, ZI, ZI, BL, ZJ, ZJ, ZJ⟩
   have hne0 : Nonempty (WS S0) := ⟨⟨_, hSc⟩⟩
   simp only [List.map_cons, List.map_nil, List.getD_cons_succ, List.getD_cons_zero]
   repeat
    first
    | ((with_reducible refine wpSch_lk ?_ ?_); exact rfl; go_big_quiet_step (fail); (try with_reducible refine wpQuiet_nil ?_); (try dsimp only))
    | ((with_reducible refine wpSch_act ?_ ?_ (fun K hK => ?_))
       exact rfl
       exact rfl
       go_simp
       (try go_wp2_with (fail))
       refine hK.out _ _ ?hS (fun hSc => ?_)
       case hS =>
        first
        | exact hSc
        | (rw [HS0.out] at hSc ⊢; obtain ⟨p0, p1, p2, p3, p4, p5, p6, p7, p8, p9, p10, p11, p12, p13, p14, p15⟩ := hSc; exact ⟨ZC, ZC, ZC, ZC, ZC, ZC, ZC, ZC, ZC, ZC, ZC, ZC, BL, ZT, ZT, ZT⟩)
       clear hK K)
   refine wpSch_nil ?_
   rw [HS0.out] at hSc
   obtain ⟨p0, p1, p2, p3, p4, p5, p6, p7, p8, p9, p10, p11, p12, p13, p14, p15⟩ := hSc
   clear hne0 HS0 k0 k1 k2 k3 k4 k5 k6 k7 k8 k9 k10 k11 k12 k13 k14 k15
   rw [HO2.out] at p11 hoz
   have hk2 := HK2.out
   clear HK2 HO2
   subst hk2
   cases z
   · have HZ := Lib.hid (HY.out.trans (if_neg ZS))
     go_wp2
     go_quiet (fail)
     go_wp2
     go_quiet (fail)
     go_wp2
     go_ret
     rw [HZ.out]
     first | exact ⟨rfl, bdrewM BL _⟩ | exact ⟨rfl, bdrewM (bdrewM BL _) _⟩
   · have HZ := Lib.hid (HY.out.trans (if_pos rfl))
     go_wp2
     go_quiet (fail)
     go_wp2
     go_quiet (fail)
     go_wp2
     go_ret
     rw [HZ.out]
     first | exact ⟨rfl, bdrewM BL _⟩ | exact ⟨rfl, bdrewM (bdrewM BL _) _⟩
def pairsAt : List Int → List Int → Int → List Int
 | f :: fs, a :: l, b => if f = b then a :: pairsAt fs l b else pairsAt fs l b
 | _, _, _ => []
def takesP (ps : List PPhi) (b : Int) : List Int := ps.flatMap fun p => pairsAt p.froms p.args b
def takesR (F : PFunc) (s : RSt) : List Int :=
 if s.pc < (F.blk s.block).insts.length then ((F.blk s.block).inst s.pc).args
 else (if (F.blk s.block).term.kind = 0 then [] else [(F.blk s.block).term.var]) ++ (if nextR F s < 0 then [] else takesP (F.blk (nextR F s).toNat).phis s.block)
def makesR (F : PFunc) (s : RSt) : List Int :=
 if s.pc < (F.blk s.block).insts.length then (if 0 ≤ ((F.blk s.block).inst s.pc).dst then [((F.blk s.block).inst s.pc).dst] else [])
 else if nextR F s < 0 then [] else (F.blk (nextR F s).toNat).phis.map (·.dst)
end Go.Proofs.YthhpbkfngcflcaaGreatDoor
