/- The walk of the law LoopReduces: it returns true, whatever the program. -/
import Derived.Test.YteajnaabbddohaaGreatDoorLpLive
import Derived.Test.YteajnaabbddohaaGreatDoorLpRf
namespace Go.Proofs.YteajnaabbddohaaGreatDoor
open Go.RowKit
set_option maxRecDepth 100000

set_option maxHeartbeats 4000000 in
theorem reduces_law {W : World} {fv : Value} {F : PFunc} (hU : Uni W) (hF : FnV W W.heap.size fv F) :
    Calls Tryz.prog 3 #[fv] W fun e w' => e = .returned (.bool true) ∧ Below W.heap.size W w' := by
  have hlv := fun (w : World) (h : Below W.heap.size W w) => livesL_calls hU h
  have hty := fun (w : World) (h : Below W.heap.size W w) => lawTyped_calls hU hF h
  obtain ⟨w, rfl⟩ : ∃ w : World, w = W := ⟨_, rfl⟩
  obtain ⟨A0, c0, A1, c1, A2, c2, rfl, l0, l1, l2, -, -, -, r0, r1, r2⟩ := id hF.open_
  unfold Len at *
  have hb0 := (Below.refl w.heap.size w).alloc (Nat.le_refl _) (.cells #[.slice A0 F.vars.length c0, .slice A1 F.params.length c1, .slice A2 F.blocks.length c2] 26)
  cases hx : lawT F
  · rw [hx] at hty
    clear hx
    go_enter Tryz.func3, Tryz.ntmps3
    go_wp2_with fail
    refine (hlv _ (by (focus repeat (first | assumption | exact Below.refl _ _ | refine Below.drew ?_ | refine Below.alloc ?_ (by first | omega | exact Below.size (by assumption) | (simp; done) | (simp; omega)) _ | refine Below.setCell ?_ (by first | omega | exact Below.size (by assumption) | (simp; done) | (simp; omega)) _ | refine below_setRow ?_ (by first | omega | exact Below.size (by assumption) | (simp; done) | (simp; omega)) _ | (refine Below.trans ?_ (Below.mono (by assumption) ?_); rotate_left; exact (by first | omega | exact Below.size (by assumption) | (simp; done) | (simp; omega))))))).mono ?_
    (rintro e w1 ⟨rfl, hb1⟩; obtain ⟨hc1, hf1⟩ := bcell hb1; have hz1 := hb1.size; try simp at hz1; try have hy1 := Nat.lt_of_succ_le hz1; try have hx1 := Nat.lt_of_succ_lt hy1; try have hw1 := Nat.lt_of_succ_lt hx1)
    go_wp2_with fail
    refine (hty _ (by (focus repeat (first | assumption | exact Below.refl _ _ | refine Below.drew ?_ | refine Below.alloc ?_ (by first | omega | exact Below.size (by assumption) | (simp; done) | (simp; omega)) _ | refine Below.setCell ?_ (by first | omega | exact Below.size (by assumption) | (simp; done) | (simp; omega)) _ | refine below_setRow ?_ (by first | omega | exact Below.size (by assumption) | (simp; done) | (simp; omega)) _ | (refine Below.trans ?_ (Below.mono (by assumption) ?_); rotate_left; exact (by first | omega | exact Below.size (by assumption) | (simp; done) | (simp; omega))))))).mono ?_
    (rintro e w2 ⟨rfl, hb2⟩; obtain ⟨hc2, hf2⟩ := bcell hb2; have hz2 := hb2.size; try simp at hz2; try have hy2 := Nat.lt_of_succ_le hz2; try have hx2 := Nat.lt_of_succ_lt hy2; try have hw2 := Nat.lt_of_succ_lt hx2)
    go_wp2_with fail
    refine (hlv _ (by (focus repeat (first | assumption | exact Below.refl _ _ | refine Below.drew ?_ | refine Below.alloc ?_ (by first | omega | exact Below.size (by assumption) | (simp; done) | (simp; omega)) _ | refine Below.setCell ?_ (by first | omega | exact Below.size (by assumption) | (simp; done) | (simp; omega)) _ | refine below_setRow ?_ (by first | omega | exact Below.size (by assumption) | (simp; done) | (simp; omega)) _ | (refine Below.trans ?_ (Below.mono (by assumption) ?_); rotate_left; exact (by first | omega | exact Below.size (by assumption) | (simp; done) | (simp; omega))))))).mono ?_
    (rintro e w3 ⟨rfl, hb3⟩; obtain ⟨hc3, hf3⟩ := bcell hb3; have hz3 := hb3.size; try simp at hz3; try have hy3 := Nat.lt_of_succ_le hz3; try have hx3 := Nat.lt_of_succ_lt hy3; try have hw3 := Nat.lt_of_succ_lt hx3)
    go_wp2
    go_ret
    exact ⟨rfl, by (focus repeat (first | assumption | exact Below.refl _ _ | refine Below.drew ?_ | refine Below.alloc ?_ (by first | omega | exact Below.size (by assumption) | (simp; done) | (simp; omega)) _ | refine Below.setCell ?_ (by first | omega | exact Below.size (by assumption) | (simp; done) | (simp; omega)) _ | refine below_setRow ?_ (by first | omega | exact Below.size (by assumption) | (simp; done) | (simp; omega)) _ | (refine Below.trans ?_ (Below.mono (by assumption) ?_); rotate_left; exact (by first | omega | exact Below.size (by assumption) | (simp; done) | (simp; omega)))))⟩
  rw [hx] at hty
  have hx2 : fewB F = true ∧ typedP F = true := by
    unfold lawT at hx
    simpa using hx
  have hS := few_small hx2.1
  have hT := hx2.2
  have hn := fun (w' : World) (h : Below w.heap.size w w') => loopNew_calls hU hF h hS hT
  have hrr := fun (w' : World) (h : Below w.heap.size w w') => refReduces_calls hF h hT
  clear hx hx2 hT hS
  go_enter Tryz.func3, Tryz.ntmps3
  go_wp2_with fail
  refine (hlv _ (by (focus repeat (first | assumption | exact Below.refl _ _ | refine Below.drew ?_ | refine Below.alloc ?_ (by first | omega | exact Below.size (by assumption) | (simp; done) | (simp; omega)) _ | refine Below.setCell ?_ (by first | omega | exact Below.size (by assumption) | (simp; done) | (simp; omega)) _ | refine below_setRow ?_ (by first | omega | exact Below.size (by assumption) | (simp; done) | (simp; omega)) _ | (refine Below.trans ?_ (Below.mono (by assumption) ?_); rotate_left; exact (by first | omega | exact Below.size (by assumption) | (simp; done) | (simp; omega))))))).mono ?_
  (rintro e w1 ⟨rfl, hb1⟩; obtain ⟨hc1, hf1⟩ := bcell hb1; have hz1 := hb1.size; try simp at hz1; try have hy1 := Nat.lt_of_succ_le hz1; try have hx1 := Nat.lt_of_succ_lt hy1; try have hw1 := Nat.lt_of_succ_lt hx1)
  go_wp2_with fail
  refine (hty _ (by (focus repeat (first | assumption | exact Below.refl _ _ | refine Below.drew ?_ | refine Below.alloc ?_ (by first | omega | exact Below.size (by assumption) | (simp; done) | (simp; omega)) _ | refine Below.setCell ?_ (by first | omega | exact Below.size (by assumption) | (simp; done) | (simp; omega)) _ | refine below_setRow ?_ (by first | omega | exact Below.size (by assumption) | (simp; done) | (simp; omega)) _ | (refine Below.trans ?_ (Below.mono (by assumption) ?_); rotate_left; exact (by first | omega | exact Below.size (by assumption) | (simp; done) | (simp; omega))))))).mono ?_
  (rintro e w2 ⟨rfl, hb2⟩; obtain ⟨hc2, hf2⟩ := bcell hb2; have hz2 := hb2.size; try simp at hz2; try have hy2 := Nat.lt_of_succ_le hz2; try have hx2 := Nat.lt_of_succ_lt hy2; try have hw2 := Nat.lt_of_succ_lt hx2)
  go_wp2_with fail
  refine (hn _ (by (focus repeat (first | assumption | exact Below.refl _ _ | refine Below.drew ?_ | refine Below.alloc ?_ (by first | omega | exact Below.size (by assumption) | (simp; done) | (simp; omega)) _ | refine Below.setCell ?_ (by first | omega | exact Below.size (by assumption) | (simp; done) | (simp; omega)) _ | refine below_setRow ?_ (by first | omega | exact Below.size (by assumption) | (simp; done) | (simp; omega)) _ | (refine Below.trans ?_ (Below.mono (by assumption) ?_); rotate_left; exact (by first | omega | exact Below.size (by assumption) | (simp; done) | (simp; omega))))))).mono ?_
  rintro e w3 ⟨nb, mb, ve, vs, es, clk, rfl, hN, hb3⟩
  have hX2 : Below (w.heap.size + 1) (w.alloc (.cells #[.slice A0 F.vars.length c0, .slice A1 F.params.length c1, .slice A2 F.blocks.length c2] 26)) w2 := by
    refine Below.trans ?_ (hb2.mono (by omega))
    simpa using hb1
  have hX3 := hX2.trans (hb3.mono (by have := hX2.size; simpa using this))
  obtain ⟨p, p0, p1, p2⟩ := box3 hX3
  have hB3 : Below w.heap.size w w3 := hb0.trans (hX3.mono (Nat.le_succ _))
  have hrd := fun (w' : World) (h : Below w3.heap.size w3 w') => reducible_calls (hN.below h)
  generalize redB F = z at *
  clear hc1 hf1 hc2 hf2 hN hlv hty hn hb3 hb1 hb2 hX2
  go_wp2_with fail
  obtain ⟨S0, hS0⟩ : ∃ S0 : World → Prop, S0 = fun w' => w'.cell? ⟨w.heap.size, 0, none⟩ = some (.slice A0 F.vars.length c0) ∧ w'.cell? ⟨w.heap.size, 1, none⟩ = some (.slice A1 F.params.length c1) ∧ w'.cell? ⟨w.heap.size, 2, none⟩ = some (.slice A2 F.blocks.length c2) ∧ Below w3.heap.size w3 w' ∧ w.heap.size < w'.heap.size := ⟨_, rfl⟩
  have HS0 := Lib.hid hS0
  clear hS0
  have k0 : ∀ xw : WS S0, xw.w.cell? ⟨w.heap.size, 0, none⟩ = some (.slice A0 F.vars.length c0) := fun xw => by have hp := cast (congrFun HS0.out xw.w) xw.h; exact hp.1
  have k1 : ∀ xw : WS S0, xw.w.cell? ⟨w.heap.size, 1, none⟩ = some (.slice A1 F.params.length c1) := fun xw => by have hp := cast (congrFun HS0.out xw.w) xw.h; exact hp.2.1
  have k2 : ∀ xw : WS S0, xw.w.cell? ⟨w.heap.size, 2, none⟩ = some (.slice A2 F.blocks.length c2) := fun xw => by have hp := cast (congrFun HS0.out xw.w) xw.h; exact hp.2.2.1
  have k3 : ∀ xw : WS S0, Below w3.heap.size w3 xw.w := fun xw => by have hp := cast (congrFun HS0.out xw.w) xw.h; exact hp.2.2.2.1
  have k4 : ∀ xw : WS S0, w.heap.size < xw.w.heap.size := fun xw => by have hp := cast (congrFun HS0.out xw.w) xw.h; exact hp.2.2.2.2
  refine wp_region_tree (S := S0) (by kernel_rfl) ?hS (fun hSc => ?_)
  case hS =>
    rw [HS0.out]
    refine ⟨?_, ?_, ?_, ?_, ?_⟩
    · first | assumption | (go_keep; done) | (go_simp; done)
    · first | assumption | (go_keep; done) | (go_simp; done)
    · first | assumption | (go_keep; done) | (go_simp; done)
    · (focus repeat (first | assumption | exact Below.refl _ _ | refine Below.drew ?_ | refine Below.alloc ?_ (by first | omega | exact Below.size (by assumption) | (simp; done) | (simp; omega)) _ | refine Below.setCell ?_ (by first | omega | exact Below.size (by assumption) | (simp; done) | (simp; omega)) _ | refine below_setRow ?_ (by first | omega | exact Below.size (by assumption) | (simp; done) | (simp; omega)) _ | (refine Below.trans ?_ (Below.mono (by assumption) ?_); rotate_left; exact (by first | omega | exact Below.size (by assumption) | (simp; done) | (simp; omega)))))
    · first | omega | (rw [heap_drew]; omega) | (simp; done) | (simp; omega)
  have hne0 : Nonempty (WS S0) := ⟨⟨_, hSc⟩⟩
  refine wpTree_run [(0, false), (1, false), (2, false), (3, false), (5, false), (4, true), (6, true), (7, false), (8, false), (9, false)] 0 rfl (by kernel_rfl) (fun _ _ _ _ _ h => h) hSc ?_
  simp only [List.map_cons, List.map_nil, List.getD_cons_succ, List.getD_cons_zero]
  refine wpSchR_looks (L1 := [(_, false), (_, false), (_, false), (_, false), (_, false)]) (L2 := _) rfl ?_
  simp only [List.map_cons, List.map_nil]
  iterate 5 (go_big_quiet_step (fail))
  refine wpQuiet_nil ?_
  (try dsimp only)
  refine wpSchR_act rfl (fun K hK => ?_)
  go_simp
  (try go_wp2_with (first | (go_at_call 13; refine (hrd _ (by (focus repeat (first | assumption | exact Below.refl _ _ | refine Below.drew ?_ | refine Below.alloc ?_ (by first | omega | exact Below.size (by assumption) | (simp; done) | (simp; omega)) _ | refine Below.setCell ?_ (by first | omega | exact Below.size (by assumption) | (simp; done) | (simp; omega)) _ | refine below_setRow ?_ (by first | omega | exact Below.size (by assumption) | (simp; done) | (simp; omega)) _ | (refine Below.trans ?_ (Below.mono (by assumption) ?_); rotate_left; exact (by first | omega | exact Below.size (by assumption) | (simp; done) | (simp; omega))))))).mono ?_; rintro e w9 ⟨rfl, rfl⟩) | (go_at_call 14; refine (hrr _ (by (focus repeat (first | assumption | exact Below.refl _ _ | refine Below.drew ?_ | refine Below.alloc ?_ (by first | omega | exact Below.size (by assumption) | (simp; done) | (simp; omega)) _ | refine Below.setCell ?_ (by first | omega | exact Below.size (by assumption) | (simp; done) | (simp; omega)) _ | refine below_setRow ?_ (by first | omega | exact Below.size (by assumption) | (simp; done) | (simp; omega)) _ | (refine Below.trans ?_ (Below.mono (by assumption) ?_); rotate_left; exact (by first | omega | exact Below.size (by assumption) | (simp; done) | (simp; omega))))))).mono ?_; rintro e w9 ⟨rfl, hb9⟩; obtain ⟨hc9, hf9⟩ := bcell hb9; have hz9 := hb9.size; (try simp at hz9))))
  refine hK.out _ _ ?hS (fun hSc => ?_)
  case hS =>
    first
    | exact hSc
    | (rw [HS0.out] at hSc ⊢; obtain ⟨p0, p1, p2, p3, p4⟩ := hSc; exact ⟨(hc9 _ _ (by first | assumption | omega)).trans p0, (hc9 _ _ (by first | assumption | omega)).trans p1, (hc9 _ _ (by first | assumption | omega)).trans p2, p3.trans (hb9.mono (by have := p3.size; first | omega | (simp at this ⊢; omega))), Nat.lt_of_lt_of_le p4 hb9.size⟩)
  clear hK K
  refine wpSchR_act rfl (fun K hK => ?_)
  go_simp
  (try go_wp2_with (first | (go_at_call 13; refine (hrd _ (by (focus repeat (first | assumption | exact Below.refl _ _ | refine Below.drew ?_ | refine Below.alloc ?_ (by first | omega | exact Below.size (by assumption) | (simp; done) | (simp; omega)) _ | refine Below.setCell ?_ (by first | omega | exact Below.size (by assumption) | (simp; done) | (simp; omega)) _ | refine below_setRow ?_ (by first | omega | exact Below.size (by assumption) | (simp; done) | (simp; omega)) _ | (refine Below.trans ?_ (Below.mono (by assumption) ?_); rotate_left; exact (by first | omega | exact Below.size (by assumption) | (simp; done) | (simp; omega))))))).mono ?_; rintro e w9 ⟨rfl, rfl⟩) | (go_at_call 14; refine (hrr _ (by (focus repeat (first | assumption | exact Below.refl _ _ | refine Below.drew ?_ | refine Below.alloc ?_ (by first | omega | exact Below.size (by assumption) | (simp; done) | (simp; omega)) _ | refine Below.setCell ?_ (by first | omega | exact Below.size (by assumption) | (simp; done) | (simp; omega)) _ | refine below_setRow ?_ (by first | omega | exact Below.size (by assumption) | (simp; done) | (simp; omega)) _ | (refine Below.trans ?_ (Below.mono (by assumption) ?_); rotate_left; exact (by first | omega | exact Below.size (by assumption) | (simp; done) | (simp; omega))))))).mono ?_; rintro e w9 ⟨rfl, hb9⟩; obtain ⟨hc9, hf9⟩ := bcell hb9; have hz9 := hb9.size; (try simp at hz9))))
  refine hK.out _ _ ?hS (fun hSc => ?_)
  case hS =>
    first
    | exact hSc
    | (rw [HS0.out] at hSc ⊢; obtain ⟨p0, p1, p2, p3, p4⟩ := hSc; exact ⟨(hc9 _ _ (by first | assumption | omega)).trans p0, (hc9 _ _ (by first | assumption | omega)).trans p1, (hc9 _ _ (by first | assumption | omega)).trans p2, p3.trans (hb9.mono (by have := p3.size; first | omega | (simp at this ⊢; omega))), Nat.lt_of_lt_of_le p4 hb9.size⟩)
  clear hK K
  refine wpSchR_looks (L1 := [(_, false), (_, false), (_, false)]) (L2 := _) rfl ?_
  simp only [List.map_cons, List.map_nil]
  iterate 3 (go_big_quiet_step (fail))
  refine wpQuiet_nil ?_
  (try dsimp only)
  refine wpSchR_nil ?_
  intro hSc
  refine wpTree_end (by kernel_rfl) ?_
  rw [HS0.out] at hSc
  obtain ⟨p0, p1, p2, p3, p4⟩ := hSc
  clear hne0 HS0 k0 k1 k2 k3 k4
  go_wp2_with fail
  go_ret
  exact ⟨ret_bool (by simp), by (focus repeat (first | assumption | exact Below.refl _ _ | refine Below.drew ?_ | refine Below.alloc ?_ (by first | omega | exact Below.size (by assumption) | (simp; done) | (simp; omega)) _ | refine Below.setCell ?_ (by first | omega | exact Below.size (by assumption) | (simp; done) | (simp; omega)) _ | refine below_setRow ?_ (by first | omega | exact Below.size (by assumption) | (simp; done) | (simp; omega)) _ | (refine Below.trans ?_ (Below.mono (by assumption) ?_); rotate_left; exact (by first | omega | exact Below.size (by assumption) | (simp; done) | (simp; omega)))))⟩
end Go.Proofs.YteajnaabbddohaaGreatDoor
