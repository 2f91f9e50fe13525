/- The reference's Same and Alike: of two outcomes that are the same they say so. -/
import Derived.Test.YtjboifobjggbbaaGreatDoorSame
import Derived.Test.YtjboifobjggbbaaGreatDoorRunR
namespace Go.Proofs.YtjboifobjggbbaaGreatDoor
open Go.RowKit
set_option maxRecDepth 100000
theorem ar8 : (Tryz.prog).underlying 46 = some (.array 8 3) := by kernel_rfl
theorem eq8 (a b c d e f g h : Int) (w : World) : (Op.equalIn 10000 46 (.agg #[.int .i64 a, .int .i64 b, .int .i64 c, .int .i64 d, .int .i64 e, .int .i64 f, .int .i64 g, .int .i64 h]) (.agg #[.int .i64 a, .int .i64 b, .int .i64 c, .int .i64 d, .int .i64 e, .int .i64 f, .int .i64 g, .int .i64 h])).run Tryz.prog w = .ok true w := by
 show (Op.equalIn (9998 + 1 + 1) 46 (.agg #[.int .i64 a, .int .i64 b, .int .i64 c, .int .i64 d, .int .i64 e, .int .i64 f, .int .i64 g, .int .i64 h]) (.agg #[.int .i64 a, .int .i64 b, .int .i64 c, .int .i64 d, .int .i64 e, .int .i64 f, .int .i64 g, .int .i64 h])).run Tryz.prog w = _
 generalize 9998 = k
 have h1 := fun (x y : Int) => run_equalIn_int (P := Tryz.prog) w k 3 .i64 .i64 x y ZK
 generalize k + 1 = k1 at *
 have p0 : (part 3 #[.int .i64 a, .int .i64 b, .int .i64 c, .int .i64 d, .int .i64 e, .int .i64 f, .int .i64 g, .int .i64 h] 0).run Tryz.prog w = .ok (.int .i64 a) w := by kernel_rfl
 have p1 : (part 3 #[.int .i64 a, .int .i64 b, .int .i64 c, .int .i64 d, .int .i64 e, .int .i64 f, .int .i64 g, .int .i64 h] 1).run Tryz.prog w = .ok (.int .i64 b) w := by kernel_rfl
 have p2 : (part 3 #[.int .i64 a, .int .i64 b, .int .i64 c, .int .i64 d, .int .i64 e, .int .i64 f, .int .i64 g, .int .i64 h] 2).run Tryz.prog w = .ok (.int .i64 c) w := by kernel_rfl
 have p3 : (part 3 #[.int .i64 a, .int .i64 b, .int .i64 c, .int .i64 d, .int .i64 e, .int .i64 f, .int .i64 g, .int .i64 h] 3).run Tryz.prog w = .ok (.int .i64 d) w := by kernel_rfl
 have p4 : (part 3 #[.int .i64 a, .int .i64 b, .int .i64 c, .int .i64 d, .int .i64 e, .int .i64 f, .int .i64 g, .int .i64 h] 4).run Tryz.prog w = .ok (.int .i64 e) w := by kernel_rfl
 have p5 : (part 3 #[.int .i64 a, .int .i64 b, .int .i64 c, .int .i64 d, .int .i64 e, .int .i64 f, .int .i64 g, .int .i64 h] 5).run Tryz.prog w = .ok (.int .i64 f) w := by kernel_rfl
 have p6 : (part 3 #[.int .i64 a, .int .i64 b, .int .i64 c, .int .i64 d, .int .i64 e, .int .i64 f, .int .i64 g, .int .i64 h] 6).run Tryz.prog w = .ok (.int .i64 g) w := by kernel_rfl
 have p7 : (part 3 #[.int .i64 a, .int .i64 b, .int .i64 c, .int .i64 d, .int .i64 e, .int .i64 f, .int .i64 g, .int .i64 h] 7).run Tryz.prog w = .ok (.int .i64 h) w := by kernel_rfl
 simp [List.range', Op.equalIn, run_underlying ar8, h1, p0, p1, p2, p3, p4, p5, p6, p7, Result.andThen]
set_option maxHeartbeats 4000000 in
theorem alikeSame_calls {W w : World} {s : RSt} {A A' : Option Addr} {c c' : Nat} (h : Rd W.heap.size A s.trace 1 (IntC W)) (h' : Rd W.heap.size A' s.trace 1 (IntC W)) (hW : Below W.heap.size W w) (hl : s.trace.length ≤ 281474976710656) :
 Calls Tryz.prog 59 #[outV s (.slice A s.trace.length c), outV s (.slice A' s.trace.length c')] w fun e w' => e = .returned (.bool true) ∧ Below w.heap.size w w' := by
 unfold outV
 obtain ⟨b0, hb0⟩ : ∃ b0 : Array Value, b0 = #[.int .i64 s.ending, .int .i64 s.value, .int .i64 s.trap, .slice A s.trace.length c, .int .i64 s.steps, .int .i64 (ith s.checks 0), .int .i64 (ith s.checks 1), .int .i64 (ith s.checks 2), .int .i64 (ith s.checks 3), .int .i64 (ith s.checks 4), .int .i64 (ith s.checks 5), .int .i64 (ith s.checks 6), .int .i64 (ith s.checks 7)] := ⟨_, rfl⟩
 obtain ⟨b1, hb1⟩ : ∃ b1 : Array Value, b1 = #[.int .i64 s.ending, .int .i64 s.value, .int .i64 s.trap, .slice A' s.trace.length c', .int .i64 s.steps, .int .i64 (ith s.checks 0), .int .i64 (ith s.checks 1), .int .i64 (ith s.checks 2), .int .i64 (ith s.checks 3), .int .i64 (ith s.checks 4), .int .i64 (ith s.checks 5), .int .i64 (ith s.checks 6), .int .i64 (ith s.checks 7)] := ⟨_, rfl⟩
 have hbb : Below w.heap.size w ((w.alloc (.cells b0 48)).alloc (.cells b1 48)) := BL
 obtain ⟨wb, hwb⟩ : ∃ wb, wb = ((w.alloc (.cells b0 48)).alloc (.cells b1 48)) := ⟨_, rfl⟩
 have x0 : BoxAt wb w.heap.size b0 48 := by rw [hwb]; exact (BoxAt.new _ _ _).alloc _
 have x1 : BoxAt wb (w.heap.size + 1) b1 48 := by
  rw [hwb]
  have := BoxAt.new (w.alloc (.cells b0 48)) b1 48
  simpa using this
 rw [← hwb] at hbb
 rw [hb0] at x0
 rw [hb1] at x1
 rw [hb0, hb1] at hwb
 clear hb0 hb1
 have z0 := x0.cell 0
 have z1 := x0.cell 1
 have z2 := x0.cell 2
 have z3 := x0.cell 3
 have y0 := x1.cell 0
 have y1 := x1.cell 1
 have y2 := x1.cell 2
 have y3 := x1.cell 3
 have l0 := x0.lt
 have l1 := x1.lt
 simp at z0 z1 z2 z3 y0 y1 y2 y3
 go_enter Tryz.func59, Tryz.ntmps59
 go_upto_region 1 with fail
 rw [← hwb]
 clear hwb
 go_wp2_with fail
 clear z0 z1 z2 z3 y0 y1 y2 y3 l0 l1
 go_loopw [37] (fun i wr => ∃ n : Nat, i = .int .i64 n ∧ n ≤ s.trace.length ∧ Below wb.heap.size wb wr) (fun i _ => s.trace.length - (intOf i).toNat)
 case atStart => exact ⟨0, rfl, Nat.zero_le _, Below.refl _ _⟩
 case round => as_aux_lemma =>
  obtain ⟨n, rfl, hn, hb⟩ := hrel
  have hB := hbb.trans (hb.mono hbb.size)
  have hWr := hW.trans (hB.mono hW.size)
  have v0 := x0.below hb x0.lt
  have v1 := x1.below hb x1.lt
  have q0 := v0.cell 3
  have q1 := v1.cell 3
  have l0 := v0.lt
  have l1 := v1.lt
  simp at q0 q1
  by_cases hlt : n < s.trace.length
  · obtain ⟨b, off, rfl, hbl, hc⟩ := h.int hWr hlt
    obtain ⟨b2, off2, rfl, hbl2, hc2⟩ := h'.int hWr hlt
    go_wp2_with fail
    go_quiet (fail)
    go_wp2_with fail
    go_roundw
    case rel => exact ⟨n + 1, ZN, ZO, bdrewN hb _⟩
    case measure => simp [intOf]; omega
  · go_wp2
    go_ret
    exact ⟨rfl, hB⟩
set_option maxHeartbeats 8000000 in
theorem outSame_calls {W w : World} {s : RSt} {A A' : Option Addr} {c c' : Nat} (h : Rd W.heap.size A s.trace 1 (IntC W)) (h' : Rd W.heap.size A' s.trace 1 (IntC W)) (hW : Below W.heap.size W w) (hl : s.trace.length ≤ 281474976710656) :
 Calls Tryz.prog 22 #[outV s (.slice A s.trace.length c), outV s (.slice A' s.trace.length c')] w fun e w' => e = .returned (.bool true) ∧ Below w.heap.size w w' := by
 have HA := Lib.hid (fun (w' : World) (hb : Below W.heap.size W w') => alikeSame_calls (c := c) (c' := c') h h' hb hl)
 unfold outV at *
 obtain ⟨b0, hb0⟩ : ∃ b0 : Array Value, b0 = #[.int .i64 s.ending, .int .i64 s.value, .int .i64 s.trap, .slice A s.trace.length c, .int .i64 s.steps, .int .i64 (ith s.checks 0), .int .i64 (ith s.checks 1), .int .i64 (ith s.checks 2), .int .i64 (ith s.checks 3), .int .i64 (ith s.checks 4), .int .i64 (ith s.checks 5), .int .i64 (ith s.checks 6), .int .i64 (ith s.checks 7)] := ⟨_, rfl⟩
 obtain ⟨b1, hb1⟩ : ∃ b1 : Array Value, b1 = #[.int .i64 s.ending, .int .i64 s.value, .int .i64 s.trap, .slice A' s.trace.length c', .int .i64 s.steps, .int .i64 (ith s.checks 0), .int .i64 (ith s.checks 1), .int .i64 (ith s.checks 2), .int .i64 (ith s.checks 3), .int .i64 (ith s.checks 4), .int .i64 (ith s.checks 5), .int .i64 (ith s.checks 6), .int .i64 (ith s.checks 7)] := ⟨_, rfl⟩
 have hbb : Below w.heap.size w ((w.alloc (.cells b0 48)).alloc (.cells b1 48)) := BL
 obtain ⟨wb, hwb⟩ : ∃ wb, wb = ((w.alloc (.cells b0 48)).alloc (.cells b1 48)) := ⟨_, rfl⟩
 have x0 : BoxAt wb w.heap.size b0 48 := by rw [hwb]; exact (BoxAt.new _ _ _).alloc _
 have x1 : BoxAt wb (w.heap.size + 1) b1 48 := by
  rw [hwb]
  have := BoxAt.new (w.alloc (.cells b0 48)) b1 48
  simpa using this
 rw [← hwb] at hbb
 rw [hb0] at x0
 rw [hb1] at x1
 rw [hb0, hb1] at hwb
 clear hb0 hb1
 have hu := Tryz.underlying48
 have hin : (Tryz.prog.info? 48).map (·.size) = some ([.int .i64 s.ending, .int .i64 s.value, .int .i64 s.trap, .slice A s.trace.length c, .int .i64 s.steps, .int .i64 (ith s.checks 0), .int .i64 (ith s.checks 1), .int .i64 (ith s.checks 2), .int .i64 (ith s.checks 3), .int .i64 (ith s.checks 4), .int .i64 (ith s.checks 5), .int .i64 (ith s.checks 6), .int .i64 (ith s.checks 7)] : List Value).length := by kernel_rfl
 have hr0 : wb.rangeAt w.heap.size 0 ([.int .i64 s.ending, .int .i64 s.value, .int .i64 s.trap, .slice A s.trace.length c, .int .i64 s.steps, .int .i64 (ith s.checks 0), .int .i64 (ith s.checks 1), .int .i64 (ith s.checks 2), .int .i64 (ith s.checks 3), .int .i64 (ith s.checks 4), .int .i64 (ith s.checks 5), .int .i64 (ith s.checks 6), .int .i64 (ith s.checks 7)] : List Value) := by
  have := World.rangeAt_of_block (w := wb) (b := w.heap.size) x0 0 13
  simpa using this
 have hr1 : wb.rangeAt (w.heap.size + 1) 0 ([.int .i64 s.ending, .int .i64 s.value, .int .i64 s.trap, .slice A' s.trace.length c', .int .i64 s.steps, .int .i64 (ith s.checks 0), .int .i64 (ith s.checks 1), .int .i64 (ith s.checks 2), .int .i64 (ith s.checks 3), .int .i64 (ith s.checks 4), .int .i64 (ith s.checks 5), .int .i64 (ith s.checks 6), .int .i64 (ith s.checks 7)] : List Value) := by
  have := World.rangeAt_of_block (w := wb) (b := w.heap.size + 1) x1 0 13
  simpa using this
 have heq := eq8 (ith s.checks 0) (ith s.checks 1) (ith s.checks 2) (ith s.checks 3) (ith s.checks 4) (ith s.checks 5) (ith s.checks 6) (ith s.checks 7)
 go_enter Tryz.func22, Tryz.ntmps22
 go_upto_region 1 with fail
 rw [← hwb]
 have hcall := HA.out wb (hW.trans (hbb.mono hW.size))
 clear HA hwb
 go_wp2_with (first
  | (refine wpList_load_mid rfl 48 _ rfl w.heap.size 0 rfl [.int .i64 s.ending, .int .i64 s.value, .int .i64 s.trap, .slice A s.trace.length c, .int .i64 s.steps, .int .i64 (ith s.checks 0), .int .i64 (ith s.checks 1), .int .i64 (ith s.checks 2), .int .i64 (ith s.checks 3), .int .i64 (ith s.checks 4), .int .i64 (ith s.checks 5), .int .i64 (ith s.checks 6), .int .i64 (ith s.checks 7)] _ hr0 hu rfl hin ?_)
  | (refine wpList_load_mid rfl 48 _ rfl (w.heap.size + 1) 0 rfl [.int .i64 s.ending, .int .i64 s.value, .int .i64 s.trap, .slice A' s.trace.length c', .int .i64 s.steps, .int .i64 (ith s.checks 0), .int .i64 (ith s.checks 1), .int .i64 (ith s.checks 2), .int .i64 (ith s.checks 3), .int .i64 (ith s.checks 4), .int .i64 (ith s.checks 5), .int .i64 (ith s.checks 6), .int .i64 (ith s.checks 7)] _ hr1 hu rfl hin ?_)
  | (go_at_call 59; refine hcall.mono ?_; rintro e w5 ⟨rfl, hb5⟩
     have v0 := x0.below hb5 x0.lt
     have v1 := x1.below hb5 x1.lt
     have z4 := v0.cell 4
     have z5 := v0.cell 5
     have z6 := v0.cell 6
     have z7 := v0.cell 7
     have z8 := v0.cell 8
     have z9 := v0.cell 9
     have z10 := v0.cell 10
     have z11 := v0.cell 11
     have z12 := v0.cell 12
     have y4 := v1.cell 4
     have y5 := v1.cell 5
     have y6 := v1.cell 6
     have y7 := v1.cell 7
     have y8 := v1.cell 8
     have y9 := v1.cell 9
     have y10 := v1.cell 10
     have y11 := v1.cell 11
     have y12 := v1.cell 12
     have l0 := v0.lt
     have l1 := v1.lt
     simp at z4 z5 z6 z7 z8 z9 z10 z11 z12 y4 y5 y6 y7 y8 y9 y10 y11 y12))
 go_ret
 exact ⟨rfl, hbb.trans (hb5.mono hbb.size)⟩
end Go.Proofs.YtjboifobjggbbaaGreatDoor
