/- The walk of the law GraphOrders: it returns true, whatever the program and the two numbers. -/
import Derived.Test.YtenedeaiepjedaaDoorOrdersA
import Derived.Test.YtenedeaiepjedaaDoorEndsB
namespace Go.Proofs.YtenedeaiepjedaaDoor
open Go.RowKit
set_option maxRecDepth 100000

set_option maxHeartbeats 4000000 in
theorem orders_law {W : World} {fv : Value} {F : PFunc} (a b : Int) (hU : Uni W) (hF : FnV W W.heap.size fv F) :
    Calls Tryd.prog 5 #[fv, .int .i64 a, .int .i64 b] W fun e w' => e = .returned (.bool true) ∧ Below W.heap.size W w' := by
  have hlv := fun (w : World) (h : Below W.heap.size W w) => lives_calls hU h
  have hfw := fun (w : World) (h : Below W.heap.size W w) => few_calls hF h
  have hxs := fun (h : fewB F = true) (w : World) (hw : Below W.heap.size W w) => fewTyped_calls hU hF hw h
  obtain ⟨w, rfl⟩ : ∃ w : World, w = W := ⟨_, rfl⟩
  obtain ⟨A0, c0, A1, c1, A2, c2, rfl, l0, l1, l2, -, -, -, r0, r1, r2⟩ := id hF.open_
  unfold Len at *
  have hb0 := (Below.refl w.heap.size w).alloc (Nat.le_refl _) (.cells #[.slice A0 F.vars.length c0, .slice A1 F.params.length c1, .slice A2 F.blocks.length c2] 26)
  cases hx : fewB F
  · rw [hx] at hfw
    clear hx hxs
    go_enter Tryd.func5, Tryd.ntmps5
    go_wp2_with fail
    refine (hlv _ (by (focus repeat (first | assumption | exact Below.refl _ _ | refine Below.drew ?_ | refine Below.alloc ?_ (by first | omega | exact Below.size (by assumption) | (simp; done) | (simp; omega)) _ | refine Below.setCell ?_ (by first | omega | exact Below.size (by assumption) | (simp; done) | (simp; omega)) _ | refine below_setRow ?_ (by first | omega | exact Below.size (by assumption) | (simp; done) | (simp; omega)) _ | (refine Below.trans ?_ (Below.mono (by assumption) ?_); rotate_left; exact (by first | omega | exact Below.size (by assumption) | (simp; done) | (simp; omega))))))).mono ?_
    (rintro e w1 ⟨rfl, hb1⟩; obtain ⟨hc1, hf1⟩ := bcell hb1; have hz1 := hb1.size; try simp at hz1; try have hy1 := Nat.lt_of_succ_le hz1; try have hx1 := Nat.lt_of_succ_lt hy1; try have hw1 := Nat.lt_of_succ_lt hx1)
    go_wp2_with fail
    refine (hfw _ (by (focus repeat (first | assumption | exact Below.refl _ _ | refine Below.drew ?_ | refine Below.alloc ?_ (by first | omega | exact Below.size (by assumption) | (simp; done) | (simp; omega)) _ | refine Below.setCell ?_ (by first | omega | exact Below.size (by assumption) | (simp; done) | (simp; omega)) _ | refine below_setRow ?_ (by first | omega | exact Below.size (by assumption) | (simp; done) | (simp; omega)) _ | (refine Below.trans ?_ (Below.mono (by assumption) ?_); rotate_left; exact (by first | omega | exact Below.size (by assumption) | (simp; done) | (simp; omega))))))).mono ?_
    (rintro e w2 ⟨rfl, hb2⟩; obtain ⟨hc2, hf2⟩ := bcell hb2; have hz2 := hb2.size; try simp at hz2; try have hy2 := Nat.lt_of_succ_le hz2; try have hx2 := Nat.lt_of_succ_lt hy2; try have hw2 := Nat.lt_of_succ_lt hx2)
    go_wp2_with fail
    refine (hlv _ (by (focus repeat (first | assumption | exact Below.refl _ _ | refine Below.drew ?_ | refine Below.alloc ?_ (by first | omega | exact Below.size (by assumption) | (simp; done) | (simp; omega)) _ | refine Below.setCell ?_ (by first | omega | exact Below.size (by assumption) | (simp; done) | (simp; omega)) _ | refine below_setRow ?_ (by first | omega | exact Below.size (by assumption) | (simp; done) | (simp; omega)) _ | (refine Below.trans ?_ (Below.mono (by assumption) ?_); rotate_left; exact (by first | omega | exact Below.size (by assumption) | (simp; done) | (simp; omega))))))).mono ?_
    (rintro e w3 ⟨rfl, hb3⟩; obtain ⟨hc3, hf3⟩ := bcell hb3; have hz3 := hb3.size; try simp at hz3; try have hy3 := Nat.lt_of_succ_le hz3; try have hx3 := Nat.lt_of_succ_lt hy3; try have hw3 := Nat.lt_of_succ_lt hx3)
    go_wp2
    go_ret
    exact ⟨rfl, by (focus repeat (first | assumption | exact Below.refl _ _ | refine Below.drew ?_ | refine Below.alloc ?_ (by first | omega | exact Below.size (by assumption) | (simp; done) | (simp; omega)) _ | refine Below.setCell ?_ (by first | omega | exact Below.size (by assumption) | (simp; done) | (simp; omega)) _ | refine below_setRow ?_ (by first | omega | exact Below.size (by assumption) | (simp; done) | (simp; omega)) _ | (refine Below.trans ?_ (Below.mono (by assumption) ?_); rotate_left; exact (by first | omega | exact Below.size (by assumption) | (simp; done) | (simp; omega)))))⟩
  rw [hx] at hfw
  have hS := Lib.hid (few_small hx)
  replace hxs := hxs hx
  clear hx
  cases hy : typedP F
  · have hor := fun (w' : World) (h : Below w.heap.size w w') => orderNo_calls hU hF h hS.out hy
    have hre := fun (w' : World) (h : Below w.heap.size w w') => reachNo_calls hU hF h hS.out hy
    have hwa := fun (w' : World) (h : Below w.heap.size w w') => wayNo_calls hU hF h hS.out a b (.inl hy)
    rw [hy] at hxs
    clear hy hS
    go_enter Tryd.func5, Tryd.ntmps5
    go_wp2_with fail
    refine (hlv _ (by (focus repeat (first | assumption | exact Below.refl _ _ | refine Below.drew ?_ | refine Below.alloc ?_ (by first | omega | exact Below.size (by assumption) | (simp; done) | (simp; omega)) _ | refine Below.setCell ?_ (by first | omega | exact Below.size (by assumption) | (simp; done) | (simp; omega)) _ | refine below_setRow ?_ (by first | omega | exact Below.size (by assumption) | (simp; done) | (simp; omega)) _ | (refine Below.trans ?_ (Below.mono (by assumption) ?_); rotate_left; exact (by first | omega | exact Below.size (by assumption) | (simp; done) | (simp; omega))))))).mono ?_
    (rintro e w1 ⟨rfl, hb1⟩; obtain ⟨hc1, hf1⟩ := bcell hb1; have hz1 := hb1.size; try simp at hz1; try have hy1 := Nat.lt_of_succ_le hz1; try have hx1 := Nat.lt_of_succ_lt hy1; try have hw1 := Nat.lt_of_succ_lt hx1)
    go_wp2_with fail
    refine (hfw _ (by (focus repeat (first | assumption | exact Below.refl _ _ | refine Below.drew ?_ | refine Below.alloc ?_ (by first | omega | exact Below.size (by assumption) | (simp; done) | (simp; omega)) _ | refine Below.setCell ?_ (by first | omega | exact Below.size (by assumption) | (simp; done) | (simp; omega)) _ | refine below_setRow ?_ (by first | omega | exact Below.size (by assumption) | (simp; done) | (simp; omega)) _ | (refine Below.trans ?_ (Below.mono (by assumption) ?_); rotate_left; exact (by first | omega | exact Below.size (by assumption) | (simp; done) | (simp; omega))))))).mono ?_
    (rintro e w2 ⟨rfl, hb2⟩; obtain ⟨hc2, hf2⟩ := bcell hb2; have hz2 := hb2.size; try simp at hz2; try have hy2 := Nat.lt_of_succ_le hz2; try have hx2 := Nat.lt_of_succ_lt hy2; try have hw2 := Nat.lt_of_succ_lt hx2)
    clear hlv hfw
    have hX2 : Below (w.heap.size + 1) (w.alloc (.cells #[.slice A0 F.vars.length c0, .slice A1 F.params.length c1, .slice A2 F.blocks.length c2] 26)) w2 := by
      refine Below.trans ?_ (hb2.mono (by omega))
      simpa using hb1
    obtain ⟨hq, hq0, hq1, hq2⟩ := box3 hX2
    have hB2 : Below w.heap.size w w2 := by (focus repeat (first | assumption | exact Below.refl _ _ | refine Below.drew ?_ | refine Below.alloc ?_ (by first | omega | exact Below.size (by assumption) | (simp; done) | (simp; omega)) _ | refine Below.setCell ?_ (by first | omega | exact Below.size (by assumption) | (simp; done) | (simp; omega)) _ | refine below_setRow ?_ (by first | omega | exact Below.size (by assumption) | (simp; done) | (simp; omega)) _ | (refine Below.trans ?_ (Below.mono (by assumption) ?_); rotate_left; exact (by first | omega | exact Below.size (by assumption) | (simp; done) | (simp; omega)))))
    obtain ⟨wq, rfl⟩ : ∃ wq : World, wq = w2 := ⟨_, rfl⟩
    clear hc1 hf1 hc2 hf2
    go_wp2_with fail
    obtain ⟨S0, hS0⟩ : ∃ S0 : World → Prop, S0 = fun w' => w'.cell? ⟨w.heap.size, 0, none⟩ = some (.slice A0 F.vars.length c0) ∧ w'.cell? ⟨w.heap.size, 1, none⟩ = some (.slice A1 F.params.length c1) ∧ w'.cell? ⟨w.heap.size, 2, none⟩ = some (.slice A2 F.blocks.length c2) ∧ Below wq.heap.size wq w' ∧ w.heap.size < w'.heap.size := ⟨_, rfl⟩
    have HS0 := Lib.hid hS0
    clear hS0
    have k0 : ∀ xw : WS S0, xw.w.cell? ⟨w.heap.size, 0, none⟩ = some (.slice A0 F.vars.length c0) := fun xw => by have hp := cast (congrFun HS0.out xw.w) xw.h; exact hp.1
    have k1 : ∀ xw : WS S0, xw.w.cell? ⟨w.heap.size, 1, none⟩ = some (.slice A1 F.params.length c1) := fun xw => by have hp := cast (congrFun HS0.out xw.w) xw.h; exact hp.2.1
    have k2 : ∀ xw : WS S0, xw.w.cell? ⟨w.heap.size, 2, none⟩ = some (.slice A2 F.blocks.length c2) := fun xw => by have hp := cast (congrFun HS0.out xw.w) xw.h; exact hp.2.2.1
    have k3 : ∀ xw : WS S0, Below wq.heap.size wq xw.w := fun xw => by have hp := cast (congrFun HS0.out xw.w) xw.h; exact hp.2.2.2.1
    have k4 : ∀ xw : WS S0, w.heap.size < xw.w.heap.size := fun xw => by have hp := cast (congrFun HS0.out xw.w) xw.h; exact hp.2.2.2.2
    refine wp_region_sched (S := S0) [0, 2, 4, 5, 6, 1, 3, 7, 8, 9, 10] (by kernel_rfl) (by kernel_rfl) (fun _ _ _ _ _ h => h) ?hS (fun hSc => ?_)
    case hS =>
      rw [HS0.out]
      refine ⟨?_, ?_, ?_, ?_, ?_⟩
      · first | assumption | (go_keep; done) | (go_simp; done)
      · first | assumption | (go_keep; done) | (go_simp; done)
      · first | assumption | (go_keep; done) | (go_simp; done)
      · (focus repeat (first | assumption | exact Below.refl _ _ | refine Below.drew ?_ | refine Below.alloc ?_ (by first | omega | exact Below.size (by assumption) | (simp; done) | (simp; omega)) _ | refine Below.setCell ?_ (by first | omega | exact Below.size (by assumption) | (simp; done) | (simp; omega)) _ | refine below_setRow ?_ (by first | omega | exact Below.size (by assumption) | (simp; done) | (simp; omega)) _ | (refine Below.trans ?_ (Below.mono (by assumption) ?_); rotate_left; exact (by first | omega | exact Below.size (by assumption) | (simp; done) | (simp; omega)))))
      · first | omega | (rw [heap_drew]; omega) | (simp; done) | (simp; omega)
    have hne0 : Nonempty (WS S0) := ⟨⟨_, hSc⟩⟩
    simp only [List.map_cons, List.map_nil, List.getD_cons_succ, List.getD_cons_zero]
    refine wpSch_looks (L1 := [_, _, _, _, _]) (L2 := _) rfl ?_
    iterate 5 (go_big_quiet_step (fail))
    refine wpQuiet_nil ?_
    (try dsimp only)
    refine wpSch_act rfl rfl (fun K hK => ?_)
    go_simp
    go_wp2_with (first | (go_at_call 8; refine (hor _ (by (focus repeat (first | assumption | exact Below.refl _ _ | refine Below.drew ?_ | refine Below.alloc ?_ (by first | omega | exact Below.size (by assumption) | (simp; done) | (simp; omega)) _ | refine Below.setCell ?_ (by first | omega | exact Below.size (by assumption) | (simp; done) | (simp; omega)) _ | refine below_setRow ?_ (by first | omega | exact Below.size (by assumption) | (simp; done) | (simp; omega)) _ | (refine Below.trans ?_ (Below.mono (by assumption) ?_); rotate_left; exact (by first | omega | exact Below.size (by assumption) | (simp; done) | (simp; omega))))))).mono ?_; (rintro e w9 ⟨A9, c9, rfl, l9, k9, r9, hb9⟩; obtain ⟨hc9, hf9⟩ := bcell hb9; have hz9 := hb9.size; try simp at hz9; try have hy9 := Nat.lt_of_succ_le hz9; try have hx9 := Nat.lt_of_succ_lt hy9; try have hw9 := Nat.lt_of_succ_lt hx9)) | (go_at_call 13; refine (hre _ (by (focus repeat (first | assumption | exact Below.refl _ _ | refine Below.drew ?_ | refine Below.alloc ?_ (by first | omega | exact Below.size (by assumption) | (simp; done) | (simp; omega)) _ | refine Below.setCell ?_ (by first | omega | exact Below.size (by assumption) | (simp; done) | (simp; omega)) _ | refine below_setRow ?_ (by first | omega | exact Below.size (by assumption) | (simp; done) | (simp; omega)) _ | (refine Below.trans ?_ (Below.mono (by assumption) ?_); rotate_left; exact (by first | omega | exact Below.size (by assumption) | (simp; done) | (simp; omega))))))).mono ?_; (rintro e w9 ⟨rfl, hb9⟩; obtain ⟨hc9, hf9⟩ := bcell hb9; have hz9 := hb9.size; try simp at hz9; try have hy9 := Nat.lt_of_succ_le hz9; try have hx9 := Nat.lt_of_succ_lt hy9; try have hw9 := Nat.lt_of_succ_lt hx9)) | (go_at_call 14; refine (hwa _ (by (focus repeat (first | assumption | exact Below.refl _ _ | refine Below.drew ?_ | refine Below.alloc ?_ (by first | omega | exact Below.size (by assumption) | (simp; done) | (simp; omega)) _ | refine Below.setCell ?_ (by first | omega | exact Below.size (by assumption) | (simp; done) | (simp; omega)) _ | refine below_setRow ?_ (by first | omega | exact Below.size (by assumption) | (simp; done) | (simp; omega)) _ | (refine Below.trans ?_ (Below.mono (by assumption) ?_); rotate_left; exact (by first | omega | exact Below.size (by assumption) | (simp; done) | (simp; omega))))))).mono ?_; (rintro e w9 ⟨rfl, hb9⟩; obtain ⟨hc9, hf9⟩ := bcell hb9; have hz9 := hb9.size; try simp at hz9; try have hy9 := Nat.lt_of_succ_le hz9; try have hx9 := Nat.lt_of_succ_lt hy9; try have hw9 := Nat.lt_of_succ_lt hx9)))
    refine hK.out _ _ ?hS (fun hSc => ?_)
    case hS =>
      first
      | exact hSc
      | (rw [HS0.out] at hSc ⊢; obtain ⟨p0, p1, p2, p3, p4⟩ := hSc; exact ⟨(hc9 _ _ (by first | assumption | omega)).trans p0, (hc9 _ _ (by first | assumption | omega)).trans p1, (hc9 _ _ (by first | assumption | omega)).trans p2, p3.trans (hb9.mono (by have := p3.size; omega)), Nat.lt_of_lt_of_le p4 hb9.size⟩)
    clear hK K
    refine wpSch_act rfl rfl (fun K hK => ?_)
    go_simp
    go_wp2_with (first | (go_at_call 8; refine (hor _ (by (focus repeat (first | assumption | exact Below.refl _ _ | refine Below.drew ?_ | refine Below.alloc ?_ (by first | omega | exact Below.size (by assumption) | (simp; done) | (simp; omega)) _ | refine Below.setCell ?_ (by first | omega | exact Below.size (by assumption) | (simp; done) | (simp; omega)) _ | refine below_setRow ?_ (by first | omega | exact Below.size (by assumption) | (simp; done) | (simp; omega)) _ | (refine Below.trans ?_ (Below.mono (by assumption) ?_); rotate_left; exact (by first | omega | exact Below.size (by assumption) | (simp; done) | (simp; omega))))))).mono ?_; (rintro e w9 ⟨A9, c9, rfl, l9, k9, r9, hb9⟩; obtain ⟨hc9, hf9⟩ := bcell hb9; have hz9 := hb9.size; try simp at hz9; try have hy9 := Nat.lt_of_succ_le hz9; try have hx9 := Nat.lt_of_succ_lt hy9; try have hw9 := Nat.lt_of_succ_lt hx9)) | (go_at_call 13; refine (hre _ (by (focus repeat (first | assumption | exact Below.refl _ _ | refine Below.drew ?_ | refine Below.alloc ?_ (by first | omega | exact Below.size (by assumption) | (simp; done) | (simp; omega)) _ | refine Below.setCell ?_ (by first | omega | exact Below.size (by assumption) | (simp; done) | (simp; omega)) _ | refine below_setRow ?_ (by first | omega | exact Below.size (by assumption) | (simp; done) | (simp; omega)) _ | (refine Below.trans ?_ (Below.mono (by assumption) ?_); rotate_left; exact (by first | omega | exact Below.size (by assumption) | (simp; done) | (simp; omega))))))).mono ?_; (rintro e w9 ⟨rfl, hb9⟩; obtain ⟨hc9, hf9⟩ := bcell hb9; have hz9 := hb9.size; try simp at hz9; try have hy9 := Nat.lt_of_succ_le hz9; try have hx9 := Nat.lt_of_succ_lt hy9; try have hw9 := Nat.lt_of_succ_lt hx9)) | (go_at_call 14; refine (hwa _ (by (focus repeat (first | assumption | exact Below.refl _ _ | refine Below.drew ?_ | refine Below.alloc ?_ (by first | omega | exact Below.size (by assumption) | (simp; done) | (simp; omega)) _ | refine Below.setCell ?_ (by first | omega | exact Below.size (by assumption) | (simp; done) | (simp; omega)) _ | refine below_setRow ?_ (by first | omega | exact Below.size (by assumption) | (simp; done) | (simp; omega)) _ | (refine Below.trans ?_ (Below.mono (by assumption) ?_); rotate_left; exact (by first | omega | exact Below.size (by assumption) | (simp; done) | (simp; omega))))))).mono ?_; (rintro e w9 ⟨rfl, hb9⟩; obtain ⟨hc9, hf9⟩ := bcell hb9; have hz9 := hb9.size; try simp at hz9; try have hy9 := Nat.lt_of_succ_le hz9; try have hx9 := Nat.lt_of_succ_lt hy9; try have hw9 := Nat.lt_of_succ_lt hx9)))
    refine hK.out _ _ ?hS (fun hSc => ?_)
    case hS =>
      first
      | exact hSc
      | (rw [HS0.out] at hSc ⊢; obtain ⟨p0, p1, p2, p3, p4⟩ := hSc; exact ⟨(hc9 _ _ (by first | assumption | omega)).trans p0, (hc9 _ _ (by first | assumption | omega)).trans p1, (hc9 _ _ (by first | assumption | omega)).trans p2, p3.trans (hb9.mono (by have := p3.size; omega)), Nat.lt_of_lt_of_le p4 hb9.size⟩)
    clear hK K
    refine wpSch_act rfl rfl (fun K hK => ?_)
    go_simp
    go_wp2_with (first | (go_at_call 8; refine (hor _ (by (focus repeat (first | assumption | exact Below.refl _ _ | refine Below.drew ?_ | refine Below.alloc ?_ (by first | omega | exact Below.size (by assumption) | (simp; done) | (simp; omega)) _ | refine Below.setCell ?_ (by first | omega | exact Below.size (by assumption) | (simp; done) | (simp; omega)) _ | refine below_setRow ?_ (by first | omega | exact Below.size (by assumption) | (simp; done) | (simp; omega)) _ | (refine Below.trans ?_ (Below.mono (by assumption) ?_); rotate_left; exact (by first | omega | exact Below.size (by assumption) | (simp; done) | (simp; omega))))))).mono ?_; (rintro e w9 ⟨A9, c9, rfl, l9, k9, r9, hb9⟩; obtain ⟨hc9, hf9⟩ := bcell hb9; have hz9 := hb9.size; try simp at hz9; try have hy9 := Nat.lt_of_succ_le hz9; try have hx9 := Nat.lt_of_succ_lt hy9; try have hw9 := Nat.lt_of_succ_lt hx9)) | (go_at_call 13; refine (hre _ (by (focus repeat (first | assumption | exact Below.refl _ _ | refine Below.drew ?_ | refine Below.alloc ?_ (by first | omega | exact Below.size (by assumption) | (simp; done) | (simp; omega)) _ | refine Below.setCell ?_ (by first | omega | exact Below.size (by assumption) | (simp; done) | (simp; omega)) _ | refine below_setRow ?_ (by first | omega | exact Below.size (by assumption) | (simp; done) | (simp; omega)) _ | (refine Below.trans ?_ (Below.mono (by assumption) ?_); rotate_left; exact (by first | omega | exact Below.size (by assumption) | (simp; done) | (simp; omega))))))).mono ?_; (rintro e w9 ⟨rfl, hb9⟩; obtain ⟨hc9, hf9⟩ := bcell hb9; have hz9 := hb9.size; try simp at hz9; try have hy9 := Nat.lt_of_succ_le hz9; try have hx9 := Nat.lt_of_succ_lt hy9; try have hw9 := Nat.lt_of_succ_lt hx9)) | (go_at_call 14; refine (hwa _ (by (focus repeat (first | assumption | exact Below.refl _ _ | refine Below.drew ?_ | refine Below.alloc ?_ (by first | omega | exact Below.size (by assumption) | (simp; done) | (simp; omega)) _ | refine Below.setCell ?_ (by first | omega | exact Below.size (by assumption) | (simp; done) | (simp; omega)) _ | refine below_setRow ?_ (by first | omega | exact Below.size (by assumption) | (simp; done) | (simp; omega)) _ | (refine Below.trans ?_ (Below.mono (by assumption) ?_); rotate_left; exact (by first | omega | exact Below.size (by assumption) | (simp; done) | (simp; omega))))))).mono ?_; (rintro e w9 ⟨rfl, hb9⟩; obtain ⟨hc9, hf9⟩ := bcell hb9; have hz9 := hb9.size; try simp at hz9; try have hy9 := Nat.lt_of_succ_le hz9; try have hx9 := Nat.lt_of_succ_lt hy9; try have hw9 := Nat.lt_of_succ_lt hx9)))
    refine hK.out _ _ ?hS (fun hSc => ?_)
    case hS =>
      first
      | exact hSc
      | (rw [HS0.out] at hSc ⊢; obtain ⟨p0, p1, p2, p3, p4⟩ := hSc; exact ⟨(hc9 _ _ (by first | assumption | omega)).trans p0, (hc9 _ _ (by first | assumption | omega)).trans p1, (hc9 _ _ (by first | assumption | omega)).trans p2, p3.trans (hb9.mono (by have := p3.size; omega)), Nat.lt_of_lt_of_le p4 hb9.size⟩)
    clear hK K
    refine wpSch_looks (L1 := [_, _, _]) (L2 := _) rfl ?_
    iterate 3 (go_big_quiet_step (fail))
    refine wpQuiet_nil ?_
    (try dsimp only)
    refine wpSch_nil ?_
    rw [HS0.out] at hSc
    obtain ⟨p0, p1, p2, p3, p4⟩ := hSc
    clear hne0 HS0 k0 k1 k2 k3 k4
    have hB9 : Below w.heap.size w w9 := hB2.trans (p3.mono hB2.size)
    go_wp2_with fail
    refine (hxs _ hB9).mono ?_
    (rintro e w5 ⟨rfl, hb5⟩; obtain ⟨hc5, hf5⟩ := bcell hb5; have hz5 := hb5.size; try simp at hz5; try have hy5 := Nat.lt_of_succ_le hz5; try have hx5 := Nat.lt_of_succ_lt hy5; try have hw5 := Nat.lt_of_succ_lt hx5)
    go_wp2
    go_ret
    exact ⟨rfl, hB9.trans (hb5.mono hB9.size)⟩
  obtain ⟨v, hwa, hv1, hv2⟩ : ∃ v, (∀ w', Below w.heap.size w w' → Calls Tryd.prog 14 #[.agg #[.slice A0 F.vars.length c0, .slice A1 F.params.length c1, .slice A2 F.blocks.length c2], .int .i64 a, .int .i64 b] w' fun e w'' => e = .returned (.bool v) ∧ Below w'.heap.size w' w'') ∧
      (∀ x y : Nat, a = x → b = y → x < F.blocks.length → y < F.blocks.length → v = (plusL (RF F (-1)) F.blocks.length x).getD y false) ∧ ((a < 0 ∨ (F.blocks.length : Int) ≤ a ∨ b < 0 ∨ (F.blocks.length : Int) ≤ b) → v = false) := by
    by_cases hr : a < 0 ∨ (F.blocks.length : Int) ≤ a ∨ b < 0 ∨ (F.blocks.length : Int) ≤ b
    · exact ⟨false, fun w' h => wayNo_calls hU hF h hS.out a b (.inr hr), fun x y h1 h2 h3 h4 => by omega, fun _ => rfl⟩
    · obtain ⟨x, rfl⟩ : ∃ x : Nat, a = x := ⟨a.toNat, by omega⟩
      obtain ⟨y, rfl⟩ : ∃ y : Nat, b = y := ⟨b.toNat, by omega⟩
      refine ⟨_, fun w' h => wayYes_calls hU hF h hS.out hy x y (by omega) (by omega), fun x' y' h1 h2 _ _ => ?_, fun h => absurd h hr⟩
      obtain rfl : x = x' := by omega
      obtain rfl : y = y' := by omega
      rfl
  have hor := fun (w' : World) (h : Below w.heap.size w w') => orderYes_calls hU hF h hS.out hy
  have hre := fun (w' : World) (h : Below w.heap.size w w') => reachYes_calls hU hF h hS.out hy
  have hro := fun (w' : World) (h : Below w.heap.size w w') => refOrder_calls hF h hy
  rw [hy] at hxs
  obtain ⟨n1, n2⟩ := shaped_count (typed_shaped hy)
  have hrr := fun (w' : World) (h : Below w.heap.size w w') => reached_calls hF h n1 n2 (-1)
  have hfr := fun (w' : World) (h : Below w.heap.size w w') (x : Nat) => from_calls hF h n1 n2 x (-1)
  rw [← reach_eq hy] at hrr
  obtain ⟨mk, hml, hmk⟩ : ∃ mk, mk.length = F.blocks.length ∧ marksL F.blocks.length (postO F).reverse = mk := ⟨_, marksL_len, rfl⟩
  obtain ⟨po, hpo⟩ : ∃ po, ints (postO F).reverse = po := ⟨_, rfl⟩
  rw [hmk] at hre hrr
  rw [hpo] at hor hro
  unfold RetBools at hre
  rw [hml] at hre
  have hpl : ∀ x : Nat, (plusL (RF F (-1)) F.blocks.length x).length = F.blocks.length := fun x => plusL_len
  clear hy hS hmk hpo
  go_enter Tryd.func5, Tryd.ntmps5
  go_wp2_with fail
  refine (hlv _ (by (focus repeat (first | assumption | exact Below.refl _ _ | refine Below.drew ?_ | refine Below.alloc ?_ (by first | omega | exact Below.size (by assumption) | (simp; done) | (simp; omega)) _ | refine Below.setCell ?_ (by first | omega | exact Below.size (by assumption) | (simp; done) | (simp; omega)) _ | refine below_setRow ?_ (by first | omega | exact Below.size (by assumption) | (simp; done) | (simp; omega)) _ | (refine Below.trans ?_ (Below.mono (by assumption) ?_); rotate_left; exact (by first | omega | exact Below.size (by assumption) | (simp; done) | (simp; omega))))))).mono ?_
  (rintro e w1 ⟨rfl, hb1⟩; obtain ⟨hc1, hf1⟩ := bcell hb1; have hz1 := hb1.size; try simp at hz1; try have hy1 := Nat.lt_of_succ_le hz1; try have hx1 := Nat.lt_of_succ_lt hy1; try have hw1 := Nat.lt_of_succ_lt hx1)
  go_wp2_with fail
  refine (hfw _ (by (focus repeat (first | assumption | exact Below.refl _ _ | refine Below.drew ?_ | refine Below.alloc ?_ (by first | omega | exact Below.size (by assumption) | (simp; done) | (simp; omega)) _ | refine Below.setCell ?_ (by first | omega | exact Below.size (by assumption) | (simp; done) | (simp; omega)) _ | refine below_setRow ?_ (by first | omega | exact Below.size (by assumption) | (simp; done) | (simp; omega)) _ | (refine Below.trans ?_ (Below.mono (by assumption) ?_); rotate_left; exact (by first | omega | exact Below.size (by assumption) | (simp; done) | (simp; omega))))))).mono ?_
  (rintro e w2 ⟨rfl, hb2⟩; obtain ⟨hc2, hf2⟩ := bcell hb2; have hz2 := hb2.size; try simp at hz2; try have hy2 := Nat.lt_of_succ_le hz2; try have hx2 := Nat.lt_of_succ_lt hy2; try have hw2 := Nat.lt_of_succ_lt hx2)
  clear hlv hfw
  have hX2 : Below (w.heap.size + 1) (w.alloc (.cells #[.slice A0 F.vars.length c0, .slice A1 F.params.length c1, .slice A2 F.blocks.length c2] 26)) w2 := by
    refine Below.trans ?_ (hb2.mono (by omega))
    simpa using hb1
  obtain ⟨hq, hq0, hq1, hq2⟩ := box3 hX2
  have hB2 : Below w.heap.size w w2 := by (focus repeat (first | assumption | exact Below.refl _ _ | refine Below.drew ?_ | refine Below.alloc ?_ (by first | omega | exact Below.size (by assumption) | (simp; done) | (simp; omega)) _ | refine Below.setCell ?_ (by first | omega | exact Below.size (by assumption) | (simp; done) | (simp; omega)) _ | refine below_setRow ?_ (by first | omega | exact Below.size (by assumption) | (simp; done) | (simp; omega)) _ | (refine Below.trans ?_ (Below.mono (by assumption) ?_); rotate_left; exact (by first | omega | exact Below.size (by assumption) | (simp; done) | (simp; omega)))))
  obtain ⟨wq, rfl⟩ : ∃ wq : World, wq = w2 := ⟨_, rfl⟩
  clear hc1 hf1 hc2 hf2
  go_wp2_with fail
  obtain ⟨S0, hS0⟩ : ∃ S0 : World → Prop, S0 = fun w' => w'.cell? ⟨w.heap.size, 0, none⟩ = some (.slice A0 F.vars.length c0) ∧ w'.cell? ⟨w.heap.size, 1, none⟩ = some (.slice A1 F.params.length c1) ∧ w'.cell? ⟨w.heap.size, 2, none⟩ = some (.slice A2 F.blocks.length c2) ∧ Below wq.heap.size wq w' ∧ w.heap.size < w'.heap.size := ⟨_, rfl⟩
  have HS0 := Lib.hid hS0
  clear hS0
  have k0 : ∀ xw : WS S0, xw.w.cell? ⟨w.heap.size, 0, none⟩ = some (.slice A0 F.vars.length c0) := fun xw => by have hp := cast (congrFun HS0.out xw.w) xw.h; exact hp.1
  have k1 : ∀ xw : WS S0, xw.w.cell? ⟨w.heap.size, 1, none⟩ = some (.slice A1 F.params.length c1) := fun xw => by have hp := cast (congrFun HS0.out xw.w) xw.h; exact hp.2.1
  have k2 : ∀ xw : WS S0, xw.w.cell? ⟨w.heap.size, 2, none⟩ = some (.slice A2 F.blocks.length c2) := fun xw => by have hp := cast (congrFun HS0.out xw.w) xw.h; exact hp.2.2.1
  have k3 : ∀ xw : WS S0, Below wq.heap.size wq xw.w := fun xw => by have hp := cast (congrFun HS0.out xw.w) xw.h; exact hp.2.2.2.1
  have k4 : ∀ xw : WS S0, w.heap.size < xw.w.heap.size := fun xw => by have hp := cast (congrFun HS0.out xw.w) xw.h; exact hp.2.2.2.2
  refine wp_region_sched (S := S0) [0, 2, 4, 5, 6, 1, 3, 7, 8, 9, 10] (by kernel_rfl) (by kernel_rfl) (fun _ _ _ _ _ h => h) ?hS (fun hSc => ?_)
  case hS =>
    rw [HS0.out]
    refine ⟨?_, ?_, ?_, ?_, ?_⟩
    · first | assumption | (go_keep; done) | (go_simp; done)
    · first | assumption | (go_keep; done) | (go_simp; done)
    · first | assumption | (go_keep; done) | (go_simp; done)
    · (focus repeat (first | assumption | exact Below.refl _ _ | refine Below.drew ?_ | refine Below.alloc ?_ (by first | omega | exact Below.size (by assumption) | (simp; done) | (simp; omega)) _ | refine Below.setCell ?_ (by first | omega | exact Below.size (by assumption) | (simp; done) | (simp; omega)) _ | refine below_setRow ?_ (by first | omega | exact Below.size (by assumption) | (simp; done) | (simp; omega)) _ | (refine Below.trans ?_ (Below.mono (by assumption) ?_); rotate_left; exact (by first | omega | exact Below.size (by assumption) | (simp; done) | (simp; omega)))))
    · first | omega | (rw [heap_drew]; omega) | (simp; done) | (simp; omega)
  have hne0 : Nonempty (WS S0) := ⟨⟨_, hSc⟩⟩
  simp only [List.map_cons, List.map_nil, List.getD_cons_succ, List.getD_cons_zero]
  refine wpSch_looks (L1 := [_, _, _, _, _]) (L2 := _) rfl ?_
  iterate 5 (go_big_quiet_step (fail))
  refine wpQuiet_nil ?_
  (try dsimp only)
  refine wpSch_act rfl rfl (fun K hK => ?_)
  go_simp
  go_wp2_with (first | (go_at_call 8; refine (hor _ (by (focus repeat (first | assumption | exact Below.refl _ _ | refine Below.drew ?_ | refine Below.alloc ?_ (by first | omega | exact Below.size (by assumption) | (simp; done) | (simp; omega)) _ | refine Below.setCell ?_ (by first | omega | exact Below.size (by assumption) | (simp; done) | (simp; omega)) _ | refine below_setRow ?_ (by first | omega | exact Below.size (by assumption) | (simp; done) | (simp; omega)) _ | (refine Below.trans ?_ (Below.mono (by assumption) ?_); rotate_left; exact (by first | omega | exact Below.size (by assumption) | (simp; done) | (simp; omega))))))).mono ?_; (rintro e w9 ⟨A9, c9, rfl, l9, k9, r9, hb9⟩; obtain ⟨hc9, hf9⟩ := bcell hb9; have hz9 := hb9.size; try simp at hz9; try have hy9 := Nat.lt_of_succ_le hz9; try have hx9 := Nat.lt_of_succ_lt hy9; try have hw9 := Nat.lt_of_succ_lt hx9)) | (go_at_call 13; have hr7 := r9; have hl7 := l9; have hk7 := k9; refine (hre _ (by (focus repeat (first | assumption | exact Below.refl _ _ | refine Below.drew ?_ | refine Below.alloc ?_ (by first | omega | exact Below.size (by assumption) | (simp; done) | (simp; omega)) _ | refine Below.setCell ?_ (by first | omega | exact Below.size (by assumption) | (simp; done) | (simp; omega)) _ | refine below_setRow ?_ (by first | omega | exact Below.size (by assumption) | (simp; done) | (simp; omega)) _ | (refine Below.trans ?_ (Below.mono (by assumption) ?_); rotate_left; exact (by first | omega | exact Below.size (by assumption) | (simp; done) | (simp; omega))))))).mono ?_; rintro e w9 ⟨g8, rfl, ho8, hb9⟩; obtain ⟨hc9, hf9⟩ := bcell hb9; have hz9 := hb9.size; have hb78 := hb9) | (go_at_call 14; refine (hwa _ (by (focus repeat (first | assumption | exact Below.refl _ _ | refine Below.drew ?_ | refine Below.alloc ?_ (by first | omega | exact Below.size (by assumption) | (simp; done) | (simp; omega)) _ | refine Below.setCell ?_ (by first | omega | exact Below.size (by assumption) | (simp; done) | (simp; omega)) _ | refine below_setRow ?_ (by first | omega | exact Below.size (by assumption) | (simp; done) | (simp; omega)) _ | (refine Below.trans ?_ (Below.mono (by assumption) ?_); rotate_left; exact (by first | omega | exact Below.size (by assumption) | (simp; done) | (simp; omega))))))).mono ?_; (rintro e w9 ⟨rfl, hb9⟩; obtain ⟨hc9, hf9⟩ := bcell hb9; have hz9 := hb9.size; try simp at hz9; try have hy9 := Nat.lt_of_succ_le hz9; try have hx9 := Nat.lt_of_succ_lt hy9; try have hw9 := Nat.lt_of_succ_lt hx9)))
  refine hK.out _ _ ?hS (fun hSc => ?_)
  case hS =>
    first
    | exact hSc
    | (rw [HS0.out] at hSc ⊢; obtain ⟨p0, p1, p2, p3, p4⟩ := hSc; exact ⟨(hc9 _ _ (by first | assumption | omega)).trans p0, (hc9 _ _ (by first | assumption | omega)).trans p1, (hc9 _ _ (by first | assumption | omega)).trans p2, p3.trans (hb9.mono (by have := p3.size; omega)), Nat.lt_of_lt_of_le p4 hb9.size⟩)
  clear hK K
  refine wpSch_act rfl rfl (fun K hK => ?_)
  go_simp
  go_wp2_with (first | (go_at_call 8; refine (hor _ (by (focus repeat (first | assumption | exact Below.refl _ _ | refine Below.drew ?_ | refine Below.alloc ?_ (by first | omega | exact Below.size (by assumption) | (simp; done) | (simp; omega)) _ | refine Below.setCell ?_ (by first | omega | exact Below.size (by assumption) | (simp; done) | (simp; omega)) _ | refine below_setRow ?_ (by first | omega | exact Below.size (by assumption) | (simp; done) | (simp; omega)) _ | (refine Below.trans ?_ (Below.mono (by assumption) ?_); rotate_left; exact (by first | omega | exact Below.size (by assumption) | (simp; done) | (simp; omega))))))).mono ?_; (rintro e w9 ⟨A9, c9, rfl, l9, k9, r9, hb9⟩; obtain ⟨hc9, hf9⟩ := bcell hb9; have hz9 := hb9.size; try simp at hz9; try have hy9 := Nat.lt_of_succ_le hz9; try have hx9 := Nat.lt_of_succ_lt hy9; try have hw9 := Nat.lt_of_succ_lt hx9)) | (go_at_call 13; have hr7 := r9; have hl7 := l9; have hk7 := k9; refine (hre _ (by (focus repeat (first | assumption | exact Below.refl _ _ | refine Below.drew ?_ | refine Below.alloc ?_ (by first | omega | exact Below.size (by assumption) | (simp; done) | (simp; omega)) _ | refine Below.setCell ?_ (by first | omega | exact Below.size (by assumption) | (simp; done) | (simp; omega)) _ | refine below_setRow ?_ (by first | omega | exact Below.size (by assumption) | (simp; done) | (simp; omega)) _ | (refine Below.trans ?_ (Below.mono (by assumption) ?_); rotate_left; exact (by first | omega | exact Below.size (by assumption) | (simp; done) | (simp; omega))))))).mono ?_; rintro e w9 ⟨g8, rfl, ho8, hb9⟩; obtain ⟨hc9, hf9⟩ := bcell hb9; have hz9 := hb9.size; have hb78 := hb9) | (go_at_call 14; refine (hwa _ (by (focus repeat (first | assumption | exact Below.refl _ _ | refine Below.drew ?_ | refine Below.alloc ?_ (by first | omega | exact Below.size (by assumption) | (simp; done) | (simp; omega)) _ | refine Below.setCell ?_ (by first | omega | exact Below.size (by assumption) | (simp; done) | (simp; omega)) _ | refine below_setRow ?_ (by first | omega | exact Below.size (by assumption) | (simp; done) | (simp; omega)) _ | (refine Below.trans ?_ (Below.mono (by assumption) ?_); rotate_left; exact (by first | omega | exact Below.size (by assumption) | (simp; done) | (simp; omega))))))).mono ?_; (rintro e w9 ⟨rfl, hb9⟩; obtain ⟨hc9, hf9⟩ := bcell hb9; have hz9 := hb9.size; try simp at hz9; try have hy9 := Nat.lt_of_succ_le hz9; try have hx9 := Nat.lt_of_succ_lt hy9; try have hw9 := Nat.lt_of_succ_lt hx9)))
  refine hK.out _ _ ?hS (fun hSc => ?_)
  case hS =>
    first
    | exact hSc
    | (rw [HS0.out] at hSc ⊢; obtain ⟨p0, p1, p2, p3, p4⟩ := hSc; exact ⟨(hc9 _ _ (by first | assumption | omega)).trans p0, (hc9 _ _ (by first | assumption | omega)).trans p1, (hc9 _ _ (by first | assumption | omega)).trans p2, p3.trans (hb9.mono (by have := p3.size; omega)), Nat.lt_of_lt_of_le p4 hb9.size⟩)
  clear hK K
  refine wpSch_act rfl rfl (fun K hK => ?_)
  go_simp
  go_wp2_with (first | (go_at_call 8; refine (hor _ (by (focus repeat (first | assumption | exact Below.refl _ _ | refine Below.drew ?_ | refine Below.alloc ?_ (by first | omega | exact Below.size (by assumption) | (simp; done) | (simp; omega)) _ | refine Below.setCell ?_ (by first | omega | exact Below.size (by assumption) | (simp; done) | (simp; omega)) _ | refine below_setRow ?_ (by first | omega | exact Below.size (by assumption) | (simp; done) | (simp; omega)) _ | (refine Below.trans ?_ (Below.mono (by assumption) ?_); rotate_left; exact (by first | omega | exact Below.size (by assumption) | (simp; done) | (simp; omega))))))).mono ?_; (rintro e w9 ⟨A9, c9, rfl, l9, k9, r9, hb9⟩; obtain ⟨hc9, hf9⟩ := bcell hb9; have hz9 := hb9.size; try simp at hz9; try have hy9 := Nat.lt_of_succ_le hz9; try have hx9 := Nat.lt_of_succ_lt hy9; try have hw9 := Nat.lt_of_succ_lt hx9)) | (go_at_call 13; have hr7 := r9; have hl7 := l9; have hk7 := k9; refine (hre _ (by (focus repeat (first | assumption | exact Below.refl _ _ | refine Below.drew ?_ | refine Below.alloc ?_ (by first | omega | exact Below.size (by assumption) | (simp; done) | (simp; omega)) _ | refine Below.setCell ?_ (by first | omega | exact Below.size (by assumption) | (simp; done) | (simp; omega)) _ | refine below_setRow ?_ (by first | omega | exact Below.size (by assumption) | (simp; done) | (simp; omega)) _ | (refine Below.trans ?_ (Below.mono (by assumption) ?_); rotate_left; exact (by first | omega | exact Below.size (by assumption) | (simp; done) | (simp; omega))))))).mono ?_; rintro e w9 ⟨g8, rfl, ho8, hb9⟩; obtain ⟨hc9, hf9⟩ := bcell hb9; have hz9 := hb9.size; have hb78 := hb9) | (go_at_call 14; refine (hwa _ (by (focus repeat (first | assumption | exact Below.refl _ _ | refine Below.drew ?_ | refine Below.alloc ?_ (by first | omega | exact Below.size (by assumption) | (simp; done) | (simp; omega)) _ | refine Below.setCell ?_ (by first | omega | exact Below.size (by assumption) | (simp; done) | (simp; omega)) _ | refine below_setRow ?_ (by first | omega | exact Below.size (by assumption) | (simp; done) | (simp; omega)) _ | (refine Below.trans ?_ (Below.mono (by assumption) ?_); rotate_left; exact (by first | omega | exact Below.size (by assumption) | (simp; done) | (simp; omega))))))).mono ?_; (rintro e w9 ⟨rfl, hb9⟩; obtain ⟨hc9, hf9⟩ := bcell hb9; have hz9 := hb9.size; try simp at hz9; try have hy9 := Nat.lt_of_succ_le hz9; try have hx9 := Nat.lt_of_succ_lt hy9; try have hw9 := Nat.lt_of_succ_lt hx9)))
  refine hK.out _ _ ?hS (fun hSc => ?_)
  case hS =>
    first
    | exact hSc
    | (rw [HS0.out] at hSc ⊢; obtain ⟨p0, p1, p2, p3, p4⟩ := hSc; exact ⟨(hc9 _ _ (by first | assumption | omega)).trans p0, (hc9 _ _ (by first | assumption | omega)).trans p1, (hc9 _ _ (by first | assumption | omega)).trans p2, p3.trans (hb9.mono (by have := p3.size; omega)), Nat.lt_of_lt_of_le p4 hb9.size⟩)
  clear hK K
  refine wpSch_looks (L1 := [_, _, _]) (L2 := _) rfl ?_
  iterate 3 (go_big_quiet_step (fail))
  refine wpQuiet_nil ?_
  (try dsimp only)
  refine wpSch_nil ?_
  rw [HS0.out] at hSc
  obtain ⟨p0, p1, p2, p3, p4⟩ := hSc
  clear hne0 HS0 k0 k1 k2 k3 k4
  have hB9 : Below w.heap.size w w9 := hB2.trans (p3.mono hB2.size)
  go_wp2_with fail
  refine (hxs _ hB9).mono ?_
  (rintro e w5 ⟨rfl, hb5⟩; obtain ⟨hc5, hf5⟩ := bcell hb5; have hz5 := hb5.size; try simp at hz5; try have hy5 := Nat.lt_of_succ_le hz5; try have hx5 := Nat.lt_of_succ_lt hy5; try have hw5 := Nat.lt_of_succ_lt hx5)
  have hB5 : Below w.heap.size w w5 := hB9.trans (hb5.mono hB9.size)
  have ho8' := own_below (own_below ho8 hb9) hb5
  have hb75 := (hb78.trans (hb9.mono hb78.size)).trans (hb5.mono (Nat.le_trans hb78.size hb9.size))
  obtain ⟨q0, q1, q2⟩ : w5.cell? ⟨w.heap.size, 0, none⟩ = some (.slice A0 F.vars.length c0) ∧ w5.cell? ⟨w.heap.size, 1, none⟩ = some (.slice A1 F.params.length c1) ∧ w5.cell? ⟨w.heap.size, 2, none⟩ = some (.slice A2 F.blocks.length c2) := ⟨(hc5 _ _ p4).trans p0, (hc5 _ _ p4).trans p1, (hc5 _ _ p4).trans p2⟩
  have q4 : w.heap.size < w5.heap.size := Nat.lt_of_lt_of_le p4 hb5.size
  obtain ⟨wa, A7, hR7, rfl, hb75, hl7⟩ : ∃ wa A7, Rd wa.heap.size A7 po 1 (IntC wa) ∧ A7 = A9 ∧ Below wa.heap.size wa w5 ∧ Len po.length := ⟨_, _, hr7, rfl, hb75, hl7⟩
  clear hc9 hf9 hc5 hf5 p0 p1 p2 p3 hq0 hq1 hq2 r9 l9 k9 hb9 ho8 hb78 hxs hor hre hwa
  unfold Len at hl7
  go_wp2_with fail
  obtain ⟨S0, hS0⟩ : ∃ S0 : World → Prop, S0 = fun w' => w'.cell? ⟨w.heap.size, 0, none⟩ = some (.slice A0 F.vars.length c0) ∧ w'.cell? ⟨w.heap.size, 1, none⟩ = some (.slice A1 F.params.length c1) ∧ w'.cell? ⟨w.heap.size, 2, none⟩ = some (.slice A2 F.blocks.length c2) ∧ Below w5.heap.size w5 w' ∧ w.heap.size < w'.heap.size := ⟨_, rfl⟩
  have HS0 := Lib.hid hS0
  clear hS0
  have k0 : ∀ xw : WS S0, xw.w.cell? ⟨w.heap.size, 0, none⟩ = some (.slice A0 F.vars.length c0) := fun xw => by have hp := cast (congrFun HS0.out xw.w) xw.h; exact hp.1
  have k1 : ∀ xw : WS S0, xw.w.cell? ⟨w.heap.size, 1, none⟩ = some (.slice A1 F.params.length c1) := fun xw => by have hp := cast (congrFun HS0.out xw.w) xw.h; exact hp.2.1
  have k2 : ∀ xw : WS S0, xw.w.cell? ⟨w.heap.size, 2, none⟩ = some (.slice A2 F.blocks.length c2) := fun xw => by have hp := cast (congrFun HS0.out xw.w) xw.h; exact hp.2.2.1
  have k3 : ∀ xw : WS S0, Below w5.heap.size w5 xw.w := fun xw => by have hp := cast (congrFun HS0.out xw.w) xw.h; exact hp.2.2.2.1
  have k4 : ∀ xw : WS S0, w.heap.size < xw.w.heap.size := fun xw => by have hp := cast (congrFun HS0.out xw.w) xw.h; exact hp.2.2.2.2
  refine wp_region_sched (S := S0) [0, 2, 1, 3, 4, 5] (by kernel_rfl) (by kernel_rfl) (fun _ _ _ _ _ h => h) ?hS (fun hSc => ?_)
  case hS =>
    rw [HS0.out]
    refine ⟨?_, ?_, ?_, ?_, ?_⟩
    · first | assumption | (go_keep; done) | (go_simp; done)
    · first | assumption | (go_keep; done) | (go_simp; done)
    · first | assumption | (go_keep; done) | (go_simp; done)
    · (focus repeat (first | assumption | exact Below.refl _ _ | refine Below.drew ?_ | refine Below.alloc ?_ (by first | omega | exact Below.size (by assumption) | (simp; done) | (simp; omega)) _ | refine Below.setCell ?_ (by first | omega | exact Below.size (by assumption) | (simp; done) | (simp; omega)) _ | refine below_setRow ?_ (by first | omega | exact Below.size (by assumption) | (simp; done) | (simp; omega)) _ | (refine Below.trans ?_ (Below.mono (by assumption) ?_); rotate_left; exact (by first | omega | exact Below.size (by assumption) | (simp; done) | (simp; omega)))))
    · first | omega | (rw [heap_drew]; omega) | (simp; done) | (simp; omega)
  have hne0 : Nonempty (WS S0) := ⟨⟨_, hSc⟩⟩
  simp only [List.map_cons, List.map_nil, List.getD_cons_succ, List.getD_cons_zero]
  refine wpSch_looks (L1 := [_, _]) (L2 := _) rfl ?_
  iterate 2 (go_big_quiet_step (fail))
  refine wpQuiet_nil ?_
  (try dsimp only)
  refine wpSch_act rfl rfl (fun K hK => ?_)
  go_simp
  go_wp2_with (first | (go_at_call 15; refine (hro _ (by (focus repeat (first | assumption | exact Below.refl _ _ | refine Below.drew ?_ | refine Below.alloc ?_ (by first | omega | exact Below.size (by assumption) | (simp; done) | (simp; omega)) _ | refine Below.setCell ?_ (by first | omega | exact Below.size (by assumption) | (simp; done) | (simp; omega)) _ | refine below_setRow ?_ (by first | omega | exact Below.size (by assumption) | (simp; done) | (simp; omega)) _ | (refine Below.trans ?_ (Below.mono (by assumption) ?_); rotate_left; exact (by first | omega | exact Below.size (by assumption) | (simp; done) | (simp; omega))))))).mono ?_; (rintro e w9 ⟨A9, c9, rfl, l9, k9, r9, hb9⟩; obtain ⟨hc9, hf9⟩ := bcell hb9; have hz9 := hb9.size; try simp at hz9; try have hy9 := Nat.lt_of_succ_le hz9; try have hx9 := Nat.lt_of_succ_lt hy9; try have hw9 := Nat.lt_of_succ_lt hx9)) | (go_at_call 16; have hr6 := r9; refine (hrr _ (by (focus repeat (first | assumption | exact Below.refl _ _ | refine Below.drew ?_ | refine Below.alloc ?_ (by first | omega | exact Below.size (by assumption) | (simp; done) | (simp; omega)) _ | refine Below.setCell ?_ (by first | omega | exact Below.size (by assumption) | (simp; done) | (simp; omega)) _ | refine below_setRow ?_ (by first | omega | exact Below.size (by assumption) | (simp; done) | (simp; omega)) _ | (refine Below.trans ?_ (Below.mono (by assumption) ?_); rotate_left; exact (by first | omega | exact Below.size (by assumption) | (simp; done) | (simp; omega))))))).mono ?_; rintro e w9 ⟨g6, rfl, ho6, hb9⟩; obtain ⟨hc9, hf9⟩ := bcell hb9; have hz9 := hb9.size; have hb69 := hb9))
  refine hK.out _ _ ?hS (fun hSc => ?_)
  case hS =>
    first
    | exact hSc
    | (rw [HS0.out] at hSc ⊢; obtain ⟨p0, p1, p2, p3, p4⟩ := hSc; exact ⟨(hc9 _ _ (by first | assumption | omega)).trans p0, (hc9 _ _ (by first | assumption | omega)).trans p1, (hc9 _ _ (by first | assumption | omega)).trans p2, p3.trans (hb9.mono (by have := p3.size; omega)), Nat.lt_of_lt_of_le p4 hb9.size⟩)
  clear hK K
  refine wpSch_act rfl rfl (fun K hK => ?_)
  go_simp
  go_wp2_with (first | (go_at_call 15; refine (hro _ (by (focus repeat (first | assumption | exact Below.refl _ _ | refine Below.drew ?_ | refine Below.alloc ?_ (by first | omega | exact Below.size (by assumption) | (simp; done) | (simp; omega)) _ | refine Below.setCell ?_ (by first | omega | exact Below.size (by assumption) | (simp; done) | (simp; omega)) _ | refine below_setRow ?_ (by first | omega | exact Below.size (by assumption) | (simp; done) | (simp; omega)) _ | (refine Below.trans ?_ (Below.mono (by assumption) ?_); rotate_left; exact (by first | omega | exact Below.size (by assumption) | (simp; done) | (simp; omega))))))).mono ?_; (rintro e w9 ⟨A9, c9, rfl, l9, k9, r9, hb9⟩; obtain ⟨hc9, hf9⟩ := bcell hb9; have hz9 := hb9.size; try simp at hz9; try have hy9 := Nat.lt_of_succ_le hz9; try have hx9 := Nat.lt_of_succ_lt hy9; try have hw9 := Nat.lt_of_succ_lt hx9)) | (go_at_call 16; have hr6 := r9; refine (hrr _ (by (focus repeat (first | assumption | exact Below.refl _ _ | refine Below.drew ?_ | refine Below.alloc ?_ (by first | omega | exact Below.size (by assumption) | (simp; done) | (simp; omega)) _ | refine Below.setCell ?_ (by first | omega | exact Below.size (by assumption) | (simp; done) | (simp; omega)) _ | refine below_setRow ?_ (by first | omega | exact Below.size (by assumption) | (simp; done) | (simp; omega)) _ | (refine Below.trans ?_ (Below.mono (by assumption) ?_); rotate_left; exact (by first | omega | exact Below.size (by assumption) | (simp; done) | (simp; omega))))))).mono ?_; rintro e w9 ⟨g6, rfl, ho6, hb9⟩; obtain ⟨hc9, hf9⟩ := bcell hb9; have hz9 := hb9.size; have hb69 := hb9))
  refine hK.out _ _ ?hS (fun hSc => ?_)
  case hS =>
    first
    | exact hSc
    | (rw [HS0.out] at hSc ⊢; obtain ⟨p0, p1, p2, p3, p4⟩ := hSc; exact ⟨(hc9 _ _ (by first | assumption | omega)).trans p0, (hc9 _ _ (by first | assumption | omega)).trans p1, (hc9 _ _ (by first | assumption | omega)).trans p2, p3.trans (hb9.mono (by have := p3.size; omega)), Nat.lt_of_lt_of_le p4 hb9.size⟩)
  clear hK K
  refine wpSch_looks (L1 := [_, _]) (L2 := _) rfl ?_
  iterate 2 (go_big_quiet_step (fail))
  refine wpQuiet_nil ?_
  (try dsimp only)
  refine wpSch_nil ?_
  rw [HS0.out] at hSc
  obtain ⟨p0, p1, p2, p3, p4⟩ := hSc
  clear hne0 HS0 k0 k1 k2 k3 k4
  have hB9' : Below w.heap.size w w9 := hB5.trans (p3.mono hB5.size)
  obtain ⟨we, A6, hR6, rfl, hb69⟩ : ∃ we A6, Rd we.heap.size A6 po 1 (IntC we) ∧ A6 = A9 ∧ Below we.heap.size we w9 := ⟨_, _, hr6, rfl, hb69⟩
  have hb79 : Below wa.heap.size wa w9 := hb75.trans (p3.mono hb75.size)
  have ho8 := own_below ho8' p3
  clear hc9 hf9 r9 l9 k9 hb9 hro hrr ho8' q0 q1 q2
  go_wp2_with fail
  go_loopw [64] (fun i wr => ∃ n : Nat, i = .int .i64 n ∧ n ≤ po.length ∧ Below w9.heap.size w9 wr) (fun i _ => po.length - (intOf i).toNat)
  case atStart => exact ⟨0, rfl, Nat.zero_le _, Below.refl _ _⟩
  case round => as_aux_lemma =>
    obtain ⟨n, rfl, hn, hb⟩ := hrel
    by_cases hlt : n < po.length
    · obtain ⟨b7, o7, rfl, hb7, hc7⟩ := hR7.int (hb79.trans (hb.mono hb79.size)) hlt
      obtain ⟨b6, o6, rfl, hb6, hc6⟩ := hR6.int (hb69.trans (hb.mono hb69.size)) hlt
      clear p0 p1 p2
      go_wp2_with fail
      go_quiet (fail)
      go_wp2_with fail
      go_roundw
      case rel => exact ⟨n + 1, by go_num, by omega, bdrewN hb _⟩
      case measure => simp [intOf]; omega
    · have HP := Lib.hid (And.intro p0 (And.intro p1 p2))
      clear p0 p1 p2
      go_wp2_with fail
      obtain ⟨wl, rfl⟩ : ∃ wl : World, wl = wr := ⟨_, rfl⟩
      go_loopw [79] (fun i wr => ∃ n : Nat, i = .int .i64 n ∧ n ≤ F.blocks.length ∧ Below w9.heap.size w9 wr) (fun i _ => F.blocks.length - (intOf i).toNat)
      case atStart => exact ⟨0, rfl, Nat.zero_le _, hb⟩
      case round => as_aux_lemma =>
        clear hn hlt
        obtain ⟨n, rfl, hn, hb⟩ := hrel
        by_cases hlt : n < F.blocks.length
        · have hc8 := own_bool (own_below ho8 hb) hlt
          have hc6 := own_bool (own_below ho6 hb) hlt
          have hg8 := ((own_below ho8 hb).lt _ rfl).2
          have hg6 := ((own_below ho6 hb).lt _ rfl).2
          go_wp2_with fail
          go_quiet (fail)
          go_wp2_with fail
          go_roundw
          case rel => exact ⟨n + 1, by go_num, by omega, bdrewN hb _⟩
          case measure => simp [intOf]; omega
        · clear hr6 hr7 hR6 hR7 hb79 hb69
          obtain ⟨p0, p1, p2⟩ := HP.out
          have hBr : Below w.heap.size w wr := hB9'.trans (hb.mono hB9'.size)
          have q0 := (hb.cell (p := ⟨w.heap.size, 0, none⟩) p4).trans p0
          have q1 := (hb.cell (p := ⟨w.heap.size, 1, none⟩) p4).trans p1
          have q2 := (hb.cell (p := ⟨w.heap.size, 2, none⟩) p4).trans p2
          have q4 := Nat.lt_of_lt_of_le p4 hb.size
          clear p0 p1 p2
          by_cases a0 : a < 0
          · rw [hv2 (.inl a0)]
            go_wp2_with fail
            go_ret
            exact ⟨rfl, hBr⟩
          by_cases a1 : (F.blocks.length : Int) ≤ a
          · rw [hv2 (.inr (.inl a1))]
            go_wp2_with fail
            go_ret
            exact ⟨rfl, hBr⟩
          by_cases b0 : b < 0
          · rw [hv2 (.inr (.inr (.inl b0)))]
            go_wp2_with fail
            go_ret
            exact ⟨rfl, hBr⟩
          by_cases b1 : (F.blocks.length : Int) ≤ b
          · rw [hv2 (.inr (.inr (.inr b1)))]
            go_wp2_with fail
            go_ret
            exact ⟨rfl, hBr⟩
          obtain ⟨x, rfl⟩ : ∃ x : Nat, a = x := ⟨a.toNat, by omega⟩
          obtain ⟨y, rfl⟩ : ∃ y : Nat, b = y := ⟨b.toNat, by omega⟩
          have hxl : x < F.blocks.length := by omega
          have hyl : y < F.blocks.length := by omega
          obtain rfl := hv1 x y rfl rfl hxl hyl
          have hf := hfr wr hBr x
          generalize plusL (RF F (-1)) F.blocks.length x = pv at *
          clear hv1 hv2 hfr
          go_wp2_with (go_at_call 17; refine hf.mono ?_; rintro e w4 ⟨g4, rfl, ho4, hb4⟩; have hc4 := own_bool ho4 hyl; have hg4 := (ho4.lt _ rfl).2)
          go_ret
          exact ⟨by simp, hBr.trans (hb4.mono hBr.size)⟩
end Go.Proofs.YtenedeaiepjedaaDoor
