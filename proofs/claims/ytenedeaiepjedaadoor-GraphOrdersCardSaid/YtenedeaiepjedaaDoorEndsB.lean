/- The walk of the law GraphEnds: it returns true, whatever the program and the end. -/
import Derived.Test.YtenedeaiepjedaaDoorEndsA
import Derived.Test.YtenedeaiepjedaaDoorLives
import Derived.Deep.DeepCutAuto
import Derived.Deep.CutBlock
namespace Go.Proofs.YtenedeaiepjedaaDoor
open Go.RowKit
set_option maxRecDepth 100000

theorem fewTyped_calls {W w : World} {fv : Value} {F : PFunc} (hU : Uni W) (hF : FnV W W.heap.size fv F) (hW : Below W.heap.size W w) (hx : fewB F = true) :
    Calls Tryd.prog 7 #[fv] w fun e w' => e = .returned (.bool (typedP F)) ∧ Below w.heap.size w w' := by
  have := lawTyped_calls hU hF hW
  rw [show lawT F = typedP F by rw [lawT, hx]; rfl] at this
  exact this
theorem Rd.row {W w : World} {A : Option Addr} {xss : List (List Int)} (h : Rd W.heap.size A xss 1 (RowC W W.heap.size)) (hw : Below W.heap.size W w) {i : Nat} (hi : i < xss.length) :
    ∃ b off A1 c1, A = some ⟨b, off, none⟩ ∧ b < w.heap.size ∧ w.cell? ⟨b, off + i, none⟩ = some (.slice A1 (xss.getD i []).length c1) ∧ Len (xss.getD i []).length ∧ (xss.getD i []).length ≤ c1 ∧ Rd W.heap.size A1 (xss.getD i []) 1 (IntC W) := by
  obtain ⟨b, off, ha, hb, v, hv, A1, c1, rfl, l1, k1, r1⟩ := h i (xss.getD i []) (by simp [List.getD, hi])
  rw [Nat.mul_one] at hv
  exact ⟨b, off, A1, c1, ha, by have := hw.size; omega, (hw.cell (p := ⟨b, off + i, none⟩) hb).trans hv, l1, k1, r1⟩

set_option maxHeartbeats 4000000 in
theorem ends_law {W : World} {fv : Value} {F : PFunc} (t : PTerm) (hU : Uni W) (hF : FnV W W.heap.size fv F) :
    Calls Tryd.prog 4 #[fv, .agg #[.int .i64 t.kind, .int .i64 t.var, .int .i64 t.t0, .int .i64 t.t1]] W fun e w' => e = .returned (.bool true) ∧ Below W.heap.size W w' := by
  have hlv := fun (w : World) (h : Below W.heap.size W w) => lives_calls hU h
  have hfw := fun (w : World) (h : Below W.heap.size W w) => few_calls hF h
  have hxs := fun (h : fewB F = true) (w : World) (hw : Below W.heap.size W w) => fewTyped_calls hU hF hw h
  obtain ⟨w, rfl⟩ : ∃ w : World, w = W := ⟨_, rfl⟩
  obtain ⟨A0, c0, A1, c1, A2, c2, rfl, l0, l1, l2, -, -, -, r0, r1, r2⟩ := id hF.open_
  unfold Len at *
  have hb0 := (Below.refl w.heap.size w).alloc (Nat.le_refl _) (.cells #[.slice A0 F.vars.length c0, .slice A1 F.params.length c1, .slice A2 F.blocks.length c2] 26)
  cases hx : fewB F
  · rw [hx] at hfw
    clear hx hxs
    go_enter Tryd.func4, Tryd.ntmps4
    go_wp2_with fail
    refine (hlv _ (by (focus repeat (first | assumption | exact Below.refl _ _ | refine Below.drew ?_ | refine Below.alloc ?_ (by first | omega | exact Below.size (by assumption) | (simp; done) | (simp; omega)) _ | refine Below.setCell ?_ (by first | omega | exact Below.size (by assumption) | (simp; done) | (simp; omega)) _ | refine below_setRow ?_ (by first | omega | exact Below.size (by assumption) | (simp; done) | (simp; omega)) _ | (refine Below.trans ?_ (Below.mono (by assumption) ?_); rotate_left; exact (by first | omega | exact Below.size (by assumption) | (simp; done) | (simp; omega))))))).mono ?_
    (rintro e w1 ⟨rfl, hb1⟩; obtain ⟨hc1, hf1⟩ := bcell hb1; have hz1 := hb1.size; try simp at hz1; try have hy1 := Nat.lt_of_succ_le hz1; try have hx1 := Nat.lt_of_succ_lt hy1; try have hw1 := Nat.lt_of_succ_lt hx1)
    go_wp2_with fail
    refine (hfw _ (by (focus repeat (first | assumption | exact Below.refl _ _ | refine Below.drew ?_ | refine Below.alloc ?_ (by first | omega | exact Below.size (by assumption) | (simp; done) | (simp; omega)) _ | refine Below.setCell ?_ (by first | omega | exact Below.size (by assumption) | (simp; done) | (simp; omega)) _ | refine below_setRow ?_ (by first | omega | exact Below.size (by assumption) | (simp; done) | (simp; omega)) _ | (refine Below.trans ?_ (Below.mono (by assumption) ?_); rotate_left; exact (by first | omega | exact Below.size (by assumption) | (simp; done) | (simp; omega))))))).mono ?_
    (rintro e w2 ⟨rfl, hb2⟩; obtain ⟨hc2, hf2⟩ := bcell hb2; have hz2 := hb2.size; try simp at hz2; try have hy2 := Nat.lt_of_succ_le hz2; try have hx2 := Nat.lt_of_succ_lt hy2; try have hw2 := Nat.lt_of_succ_lt hx2)
    go_wp2_with fail
    refine (hlv _ (by (focus repeat (first | assumption | exact Below.refl _ _ | refine Below.drew ?_ | refine Below.alloc ?_ (by first | omega | exact Below.size (by assumption) | (simp; done) | (simp; omega)) _ | refine Below.setCell ?_ (by first | omega | exact Below.size (by assumption) | (simp; done) | (simp; omega)) _ | refine below_setRow ?_ (by first | omega | exact Below.size (by assumption) | (simp; done) | (simp; omega)) _ | (refine Below.trans ?_ (Below.mono (by assumption) ?_); rotate_left; exact (by first | omega | exact Below.size (by assumption) | (simp; done) | (simp; omega))))))).mono ?_
    (rintro e w3 ⟨rfl, hb3⟩; obtain ⟨hc3, hf3⟩ := bcell hb3; have hz3 := hb3.size; try simp at hz3; try have hy3 := Nat.lt_of_succ_le hz3; try have hx3 := Nat.lt_of_succ_lt hy3; try have hw3 := Nat.lt_of_succ_lt hx3)
    go_wp2
    go_ret
    exact ⟨rfl, by (focus repeat (first | assumption | exact Below.refl _ _ | refine Below.drew ?_ | refine Below.alloc ?_ (by first | omega | exact Below.size (by assumption) | (simp; done) | (simp; omega)) _ | refine Below.setCell ?_ (by first | omega | exact Below.size (by assumption) | (simp; done) | (simp; omega)) _ | refine below_setRow ?_ (by first | omega | exact Below.size (by assumption) | (simp; done) | (simp; omega)) _ | (refine Below.trans ?_ (Below.mono (by assumption) ?_); rotate_left; exact (by first | omega | exact Below.size (by assumption) | (simp; done) | (simp; omega)))))⟩
  rw [hx] at hfw
  have hS := Lib.hid (few_small hx)
  replace hxs := hxs hx
  clear hx
  go_enter Tryd.func4, Tryd.ntmps4
  go_wp2_with fail
  refine (hlv _ (by (focus repeat (first | assumption | exact Below.refl _ _ | refine Below.drew ?_ | refine Below.alloc ?_ (by first | omega | exact Below.size (by assumption) | (simp; done) | (simp; omega)) _ | refine Below.setCell ?_ (by first | omega | exact Below.size (by assumption) | (simp; done) | (simp; omega)) _ | refine below_setRow ?_ (by first | omega | exact Below.size (by assumption) | (simp; done) | (simp; omega)) _ | (refine Below.trans ?_ (Below.mono (by assumption) ?_); rotate_left; exact (by first | omega | exact Below.size (by assumption) | (simp; done) | (simp; omega))))))).mono ?_
  (rintro e w1 ⟨rfl, hb1⟩; obtain ⟨hc1, hf1⟩ := bcell hb1; have hz1 := hb1.size; try simp at hz1; try have hy1 := Nat.lt_of_succ_le hz1; try have hx1 := Nat.lt_of_succ_lt hy1; try have hw1 := Nat.lt_of_succ_lt hx1)
  go_wp2_with fail
  refine (hfw _ (by (focus repeat (first | assumption | exact Below.refl _ _ | refine Below.drew ?_ | refine Below.alloc ?_ (by first | omega | exact Below.size (by assumption) | (simp; done) | (simp; omega)) _ | refine Below.setCell ?_ (by first | omega | exact Below.size (by assumption) | (simp; done) | (simp; omega)) _ | refine below_setRow ?_ (by first | omega | exact Below.size (by assumption) | (simp; done) | (simp; omega)) _ | (refine Below.trans ?_ (Below.mono (by assumption) ?_); rotate_left; exact (by first | omega | exact Below.size (by assumption) | (simp; done) | (simp; omega))))))).mono ?_
  (rintro e w2 ⟨rfl, hb2⟩; obtain ⟨hc2, hf2⟩ := bcell hb2; have hz2 := hb2.size; try simp at hz2; try have hy2 := Nat.lt_of_succ_le hz2; try have hx2 := Nat.lt_of_succ_lt hy2; try have hw2 := Nat.lt_of_succ_lt hx2)
  clear hlv hfw
  have hX2 : Below (w.heap.size + 1) (w.alloc (.cells #[.slice A0 F.vars.length c0, .slice A1 F.params.length c1, .slice A2 F.blocks.length c2] 26)) w2 := by
    refine Below.trans ?_ (hb2.mono (by omega))
    exact ((Below.refl _ _).alloc (by simp) _).trans (hb1.mono (by simp))
  have hT2 : Below (w.heap.size + 2) ((w.alloc (.cells #[.slice A0 F.vars.length c0, .slice A1 F.params.length c1, .slice A2 F.blocks.length c2] 26)).alloc (.cells #[.int .i64 t.kind, .int .i64 t.var, .int .i64 t.t0, .int .i64 t.t1] 34)) w2 := (by simpa using hb1 : Below (w.heap.size + 2) ((w.alloc (.cells #[.slice A0 F.vars.length c0, .slice A1 F.params.length c1, .slice A2 F.blocks.length c2] 26)).alloc (.cells #[.int .i64 t.kind, .int .i64 t.var, .int .i64 t.t0, .int .i64 t.t1] 34)) w1).trans (hb2.mono (by omega))
  go_upto_block 0 with (go_at_call 11; refine (ends_calls t).mono ?_; (rintro e w3 ⟨A3, c3, rfl, l3, k3, r3, hb3⟩; obtain ⟨hc3, hf3⟩ := bcell hb3; have hz3 := hb3.size; try simp at hz3; try have hy3 := Nat.lt_of_succ_le hz3; try have hx3 := Nat.lt_of_succ_lt hy3; try have hw3 := Nat.lt_of_succ_lt hx3))
  go_cut [5] (fun _ wx => Below (w.heap.size + 1) (w.alloc (.cells #[.slice A0 F.vars.length c0, .slice A1 F.params.length c1, .slice A2 F.blocks.length c2] 26)) wx)
  case first => as_aux_lemma =>
    have hX3 : Below (w.heap.size + 1) (w.alloc (.cells #[.slice A0 F.vars.length c0, .slice A1 F.params.length c1, .slice A2 F.blocks.length c2] 26)) w3 := hX2.trans (hb3.mono (by have := hX2.size; simp at this; omega))
    have hT3 : Below (w.heap.size + 2) ((w.alloc (.cells #[.slice A0 F.vars.length c0, .slice A1 F.params.length c1, .slice A2 F.blocks.length c2] 26)).alloc (.cells #[.int .i64 t.kind, .int .i64 t.var, .int .i64 t.t0, .int .i64 t.t1] 34)) w3 := hT2.trans (hb3.mono (by have := hT2.size; simp at this; omega))
    obtain ⟨hq, hq1⟩ := boxN (w := (w.alloc (.cells #[.slice A0 F.vars.length c0, .slice A1 F.params.length c1, .slice A2 F.blocks.length c2] 26))) (by simpa using hT3)
    have e0 := hq1 0
    have e1 := hq1 1
    have e2 := hq1 2
    have e3 := hq1 3
    simp at e0 e1 e2 e3 hq
    clear hq1 hS hU hF r0 r1 r2 hxs
    by_cases h0 : t.kind = 0
    · have hE : endsOf t = [t.t0] := by rw [endsOf, if_pos h0]
      rw [hE] at r3 l3 k3 ⊢
      obtain ⟨b, off, rfl, hbl, hc0⟩ := r3.int (Below.refl _ _) (i := 0) (by simp)
      simp [ith] at hc0
      have h1 : (t.kind == 1) = false := by rw [beq_eq_false_iff_ne]; omega
      have h2 : (t.kind == 0) = true := by rw [h0]; rfl
      clear r3
      go_wp2_with fail
      go_quiet (fail)
      go_wp2_with fail
      go_meet
      exact bdrewN hX3 _
    by_cases h1 : t.kind = 1
    · have g1 : (t.kind == 1) = true := by rw [h1]; rfl
      by_cases h2 : t.t0 = t.t1
      · have hE : endsOf t = [t.t0] := by rw [endsOf, if_neg h0, if_pos h1, if_pos h2]
        rw [hE] at r3 l3 k3 ⊢
        obtain ⟨b, off, rfl, hbl, hc0⟩ := r3.int (Below.refl _ _) (i := 0) (by simp)
        simp [ith] at hc0
        have g2 : (t.t0 != t.t1) = false := by rw [h2]; simp
        clear r3
        go_wp2_with fail
        go_quiet (fail)
        go_wp2_with fail
        go_meet
        exact bdrewN hX3 _
      · have hE : endsOf t = [t.t0, t.t1] := by rw [endsOf, if_neg h0, if_pos h1, if_neg h2]
        rw [hE] at r3 l3 k3 ⊢
        obtain ⟨b, off, rfl, hbl, hc0⟩ := r3.int (Below.refl _ _) (i := 0) (by simp)
        obtain ⟨b', off', hh, -, hc1⟩ := r3.int (Below.refl _ _) (i := 1) (by simp)
        simp at hh
        obtain ⟨rfl, rfl⟩ := hh
        simp [ith] at hc0 hc1
        have g2 : (t.t0 != t.t1) = true := by simp [h2]
        clear r3
        go_wp2_with fail
        go_quiet (fail)
        go_wp2_with fail
        go_meet
        exact bdrewN hX3 _
    · have hE : endsOf t = [] := by rw [endsOf, if_neg h0, if_neg h1]
      rw [hE] at r3 l3 k3 ⊢
      have g1 : (t.kind == 1) = false := by rw [beq_eq_false_iff_ne]; exact h1
      have g2 : (t.kind == 0) = false := by rw [beq_eq_false_iff_ne]; exact h0
      clear r3
      go_wp2_with fail
      go_meet
      exact hX3
  case rest => as_aux_lemma =>
    have hB : Below w.heap.size w wc := hb0.trans (hcut.mono (by simp))
    have hcs := hcut.size
    simp at hcs
    obtain ⟨pq, pq0, pq1, pq2⟩ := box3 hcut
    cases hy : typedP F
    · have hpn := predsNo_calls hU hF hB hS.out hy
      rw [hy] at hxs
      clear hy hS
      go_wp2_with fail
      refine hpn.mono ?_
      (rintro e w4 ⟨A4, c4, rfl, l4, k4, r4, hb4⟩; obtain ⟨hc4, hf4⟩ := bcell hb4; have hz4 := hb4.size; try simp at hz4; try have hy4 := Nat.lt_of_succ_le hz4; try have hx4 := Nat.lt_of_succ_lt hy4; try have hw4 := Nat.lt_of_succ_lt hx4)
      obtain ⟨uq, uq0, uq1, uq2⟩ := box3 (hcut.trans (hb4.mono (by simpa using hcs)))
      go_wp2_with fail
      refine (hxs _ (by (focus repeat (first | assumption | exact Below.refl _ _ | refine Below.drew ?_ | refine Below.alloc ?_ (by first | omega | exact Below.size (by assumption) | (simp; done) | (simp; omega)) _ | refine Below.setCell ?_ (by first | omega | exact Below.size (by assumption) | (simp; done) | (simp; omega)) _ | refine below_setRow ?_ (by first | omega | exact Below.size (by assumption) | (simp; done) | (simp; omega)) _ | (refine Below.trans ?_ (Below.mono (by assumption) ?_); rotate_left; exact (by first | omega | exact Below.size (by assumption) | (simp; done) | (simp; omega))))))).mono ?_
      (rintro e w5 ⟨rfl, hb5⟩; obtain ⟨hc5, hf5⟩ := bcell hb5; have hz5 := hb5.size; try simp at hz5; try have hy5 := Nat.lt_of_succ_le hz5; try have hx5 := Nat.lt_of_succ_lt hy5; try have hw5 := Nat.lt_of_succ_lt hx5)
      go_wp2
      go_ret
      exact ⟨rfl, by (focus repeat (first | assumption | exact Below.refl _ _ | refine Below.drew ?_ | refine Below.alloc ?_ (by first | omega | exact Below.size (by assumption) | (simp; done) | (simp; omega)) _ | refine Below.setCell ?_ (by first | omega | exact Below.size (by assumption) | (simp; done) | (simp; omega)) _ | refine below_setRow ?_ (by first | omega | exact Below.size (by assumption) | (simp; done) | (simp; omega)) _ | (refine Below.trans ?_ (Below.mono (by assumption) ?_); rotate_left; exact (by first | omega | exact Below.size (by assumption) | (simp; done) | (simp; omega)))))⟩
    have hpn := predsYes_calls hU hF hB hS.out hy
    have HT := Lib.hid hy
    obtain ⟨n1, n2⟩ := shaped_count (typed_shaped hy)
    have hld := fun (w' : World) (h : Below w.heap.size w w') (a b : Nat) (ha : a < F.blocks.length) => leads_calls hF h (a : Int) (b : Int) (by omega) (by omega)
    rw [hy] at hxs
    have hlen : (predsOf F).length = F.blocks.length := predsF_len _
    have hrow := Lib.hid (fun b (hb : b < F.blocks.length) => show (predsOf F).getD b [] = ints (predRow F b F.blocks.length) from predsF_row hy hb F.blocks.length (Nat.le_refl _))
    generalize predsOf F = L at *
    clear hy hS
    go_wp2_with fail
    refine hpn.mono ?_
    (rintro e w4 ⟨A4, c4, rfl, l4, k4, r4, hb4⟩; obtain ⟨hc4, hf4⟩ := bcell hb4; have hz4 := hb4.size; try simp at hz4; try have hy4 := Nat.lt_of_succ_le hz4; try have hx4 := Nat.lt_of_succ_lt hy4; try have hw4 := Nat.lt_of_succ_lt hx4)
    obtain ⟨uq, uq0, uq1, uq2⟩ := box3 (hcut.trans (hb4.mono (by simpa using hcs)))
    go_wp2_with fail
    refine (hxs _ (by (focus repeat (first | assumption | exact Below.refl _ _ | refine Below.drew ?_ | refine Below.alloc ?_ (by first | omega | exact Below.size (by assumption) | (simp; done) | (simp; omega)) _ | refine Below.setCell ?_ (by first | omega | exact Below.size (by assumption) | (simp; done) | (simp; omega)) _ | refine below_setRow ?_ (by first | omega | exact Below.size (by assumption) | (simp; done) | (simp; omega)) _ | (refine Below.trans ?_ (Below.mono (by assumption) ?_); rotate_left; exact (by first | omega | exact Below.size (by assumption) | (simp; done) | (simp; omega))))))).mono ?_
    (rintro e w5 ⟨rfl, hb5⟩; obtain ⟨hc5, hf5⟩ := bcell hb5; have hz5 := hb5.size; try simp at hz5; try have hy5 := Nat.lt_of_succ_le hz5; try have hx5 := Nat.lt_of_succ_lt hy5; try have hw5 := Nat.lt_of_succ_lt hx5)
    clear hpn hxs
    have hX5 : Below (w.heap.size + 1) (w.alloc (.cells #[.slice A0 F.vars.length c0, .slice A1 F.params.length c1, .slice A2 F.blocks.length c2] 26)) w5 := (hcut.trans (hb4.mono (by simpa using hcs))).trans (hb5.mono (by omega))
    obtain ⟨hq, hq0, hq1, hq2⟩ := box3 hX5
    rw [hlen] at l4 k4
    have hB5 : Below w.heap.size w w5 := by (focus repeat (first | assumption | exact Below.refl _ _ | refine Below.drew ?_ | refine Below.alloc ?_ (by first | omega | exact Below.size (by assumption) | (simp; done) | (simp; omega)) _ | refine Below.setCell ?_ (by first | omega | exact Below.size (by assumption) | (simp; done) | (simp; omega)) _ | refine below_setRow ?_ (by first | omega | exact Below.size (by assumption) | (simp; done) | (simp; omega)) _ | (refine Below.trans ?_ (Below.mono (by assumption) ?_); rotate_left; exact (by first | omega | exact Below.size (by assumption) | (simp; done) | (simp; omega)))))
    clear pq0 pq1 pq2 uq0 uq1 uq2 hq1 hc4 hf4 hc5 hf5
    have hld' := Lib.hid hld
    clear hld
    go_wp2_with fail
    go_loopw [92] (fun i wr => ∃ n : Nat, i = .int .i64 n ∧ n ≤ F.blocks.length ∧ Below w5.heap.size w5 wr) (fun i _ => F.blocks.length - (intOf i).toNat)
    case atStart => exact ⟨0, rfl, Nat.zero_le _, Below.refl _ _⟩
    case round => as_aux_lemma =>
      obtain ⟨n, rfl, hn, hb⟩ := hrel
      by_cases hnl : n < F.blocks.length
      · have f2 := (hb.cell (p := ⟨w.heap.size, 2, none⟩) hq).trans hq2
        have f8 := Nat.lt_of_lt_of_le hq hb.size
        have hB6 : Below w.heap.size w wr := hB5.trans (hb.mono hB5.size)
        have hbase : Below w4.heap.size w4 wr := hb5.trans (hb.mono hb5.size)
        obtain ⟨b, off, A5, c5, rfl, hbl, hcr, lr, kr, rr⟩ := r4.row hbase (i := n) (by rw [hlen]; exact hnl)
        rw [hrow.out n hnl] at hcr lr kr rr
        go_wp2
        obtain ⟨wv, rfl⟩ : ∃ wv : World, wv = wr := ⟨_, rfl⟩
        go_loopw [8, 98] (fun s8 i wr => ∃ a : Nat, i = .int .i64 a ∧ a ≤ F.blocks.length ∧ Below wv.heap.size wv wr ∧ s8 = .int .i64 ((predRow F n a).length : Nat)) (fun _ i _ => F.blocks.length - (intOf i).toNat)
        case atStart => exact ⟨0, rfl, Nat.zero_le _, Below.refl _ _, rfl⟩
        case round => as_aux_lemma =>
          obtain ⟨a, rfl, ha, hb', rfl⟩ := hrel
          have hB7 : Below w.heap.size w wr := hB6.trans (hb'.mono hB6.size)
          have hbl' := Nat.lt_of_lt_of_le hbl hb'.size
          have g2 := (hb'.cell (p := ⟨w.heap.size, 2, none⟩) f8).trans f2
          have g8 := Nat.lt_of_lt_of_le f8 hb'.size
          have hcr' := (hb'.cell (p := ⟨b, off + n, none⟩) hbl).trans hcr
          by_cases hal : a < F.blocks.length
          · obtain ⟨-, p0, p1, p2⟩ := box3 (hX5.trans ((hb.trans (hb'.mono hb.size)).mono (by simpa using hX5.size)))
            clear g2
            have hl := hld'.out wr hB7 a n hal
            rw [Int.toNat_natCast] at hl
            cases hle : leads (F.blk a).term (n : Int)
            · have HP := Lib.hid (show predRow F n (a + 1) = predRow F n a by rw [predRow, hle]; rfl)
              rw [hle] at hl
              clear hle
              go_wp2_with fail
              refine hl.mono ?_
              (rintro e w8 ⟨rfl, hb8⟩; obtain ⟨hc8, hf8⟩ := bcell hb8; have hz8 := hb8.size; try simp at hz8; try have hy8 := Nat.lt_of_succ_le hz8; try have hx8 := Nat.lt_of_succ_lt hy8; try have hw8 := Nat.lt_of_succ_lt hx8)
              go_wp2
              go_roundw
              case rel => exact ⟨a + 1, by go_num, by omega, hb'.trans (hb8.mono hb'.size), by rw [HP.out]⟩
              case measure => simp [intOf]; omega
            · have HP := Lib.hid (show (predRow F n (a + 1)).length = (predRow F n a).length + 1 by rw [predRow, hle]; simp)
              obtain ⟨q1, q2⟩ := predRow_at hal hle
              obtain ⟨b', off', rfl, hbl2, hcc⟩ := rr.int (hbase.trans (hb'.mono hbase.size)) (i := (predRow F n a).length) (by simpa [ints] using q1)
              rw [q2] at hcc
              have q1' : (predRow F n a).length < (ints (predRow F n F.blocks.length)).length := by simpa [ints] using q1
              rw [hle] at hl
              generalize (predRow F n a).length = pa at *
              generalize (ints (predRow F n F.blocks.length)).length = pn at *
              clear hle q1 q2
              unfold Len at lr
              go_wp2_with fail
              refine hl.mono ?_
              rintro e w8 ⟨rfl, hb8⟩
              have m1 := (hb8.cell (p := ⟨b, off + n, none⟩) hbl').trans hcr'
              have m2 := (hb8.cell (p := ⟨b', off' + pa, none⟩) hbl2).trans hcc
              have m3 := Nat.lt_of_lt_of_le hbl' hb8.size
              have m4 := Nat.lt_of_lt_of_le hbl2 hb8.size
              go_wp2
              go_roundw
              case rel => exact ⟨a + 1, by go_num, by omega, hb'.trans (hb8.mono hb'.size), by rw [HP.out]; go_num⟩
              case measure => simp [intOf]; omega
          · obtain rfl : a = F.blocks.length := by omega
            have hle : (ints (predRow F n F.blocks.length)).length = (predRow F n F.blocks.length).length := by simp [ints]
            rw [hle] at hcr'
            clear hle hcr kr rr lr
            go_wp2
            go_roundw
            case rel => exact ⟨n + 1, by go_num, by omega, hb.trans (hb'.mono hb.size)⟩
            case measure => simp [intOf]; omega
      · go_wp2
        go_ret
        exact ⟨rfl, hB5.trans (hb.mono hB5.size)⟩
end Go.Proofs.YtenedeaiepjedaaDoor
