/- The walk of print.Shaped. -/
import Derived.Test.YteajnaabbddohaaGreatDoorNames
namespace Go.Proofs.YteajnaabbddohaaGreatDoor
open Go.RowKit
set_option maxRecDepth 100000

def blockB (F : PFunc) (b : PBlock) : Bool := !(b.phis.any fun x => !phiB F x) && !(b.insts.any fun x => !instB F x) && termB F b.term
def sumB : List PBlock → Nat
  | [] => 0
  | b :: r => b.phis.length + b.insts.length + sumB r
def shapedP (F : PFunc) : Bool := namesB F && F.blocks.all (blockB F) && decide (sumB F.blocks ≤ 1024)
theorem FnBox.of3 {w w' : World} {x y z : Value} {t : TypeId} (hb : Below (w.heap.size + 1) (w.alloc (.cells #[x, y, z] t)) w') : FnBox w' (.pointer (some ⟨w.heap.size, 0, none⟩)) (.agg #[x, y, z]) := by
  obtain ⟨h, h0, h1, h2⟩ := box3 hb
  exact ⟨_, _, _, _, rfl, rfl, h, h0, h1, h2⟩

set_option maxHeartbeats 4000000 in
theorem shaped_calls {W w : World} {fv : Value} {F : PFunc} (hU : Uni W) (hF : FnV W W.heap.size fv F) (hW : Below W.heap.size W w) (hS : Small F) :
    Calls Tryz.prog 104 #[fv] w fun e w' => e = .returned (.bool (shapedP F)) ∧ Below w.heap.size w w' := by
  have hnm := fun (w : World) (h : Below W.heap.size W w) => names_calls hU hF h hS
  obtain ⟨A0, c0, A1, c1, A2, c2, rfl, l0, l1, l2, -, -, -, r0, r1, r2⟩ := id hF.open_
  obtain ⟨s0, s1, s2⟩ := id hS
  unfold Len at *
  have hWs := hW.size
  have hb0 := (Below.refl w.heap.size w).alloc (Nat.le_refl _) (.cells #[.slice A0 F.vars.length c0, .slice A1 F.params.length c1, .slice A2 F.blocks.length c2] 26)
  cases hn : namesB F
  · have HF := Lib.hid (show shapedP F = false by rw [shapedP, hn]; rfl)
    rw [hn] at hnm
    clear hn
    go_enter Tryz.func104, Tryz.ntmps104
    go_wp2_with (go_at_call 139; refine (hnm _ (by (focus repeat (first | assumption | exact Below.refl _ _ | refine Below.drew ?_ | refine Below.alloc ?_ (by first | omega | exact Below.size (by assumption) | (simp; done) | (simp; omega)) _ | refine Below.setCell ?_ (by first | omega | exact Below.size (by assumption) | (simp; done) | (simp; omega)) _ | refine below_setRow ?_ (by first | omega | exact Below.size (by assumption) | (simp; done) | (simp; omega)) _ | (refine Below.trans ?_ (Below.mono (by assumption) ?_); rotate_left; exact (by first | omega | exact Below.size (by assumption) | (simp; done) | (simp; omega))))))).mono ?_; (rintro e w1 ⟨rfl, hb1⟩; obtain ⟨hc1, hf1⟩ := bcell hb1; have hz1 := hb1.size; try simp at hz1; try have hy1 := Nat.lt_of_succ_le hz1; try have hx1 := Nat.lt_of_succ_lt hy1; try have hw1 := Nat.lt_of_succ_lt hx1))
    go_ret
    exact ⟨ret_bool HF.out.symm, by (focus repeat (first | assumption | exact Below.refl _ _ | refine Below.drew ?_ | refine Below.alloc ?_ (by first | omega | exact Below.size (by assumption) | (simp; done) | (simp; omega)) _ | refine Below.setCell ?_ (by first | omega | exact Below.size (by assumption) | (simp; done) | (simp; omega)) _ | refine below_setRow ?_ (by first | omega | exact Below.size (by assumption) | (simp; done) | (simp; omega)) _ | (refine Below.trans ?_ (Below.mono (by assumption) ?_); rotate_left; exact (by first | omega | exact Below.size (by assumption) | (simp; done) | (simp; omega)))))⟩
  have HN := Lib.hid (show shapedP F = (F.blocks.all (blockB F) && decide (sumB F.blocks ≤ 1024)) by rw [shapedP, hn]; rfl)
  rw [hn] at hnm
  clear hn
  go_enter Tryz.func104, Tryz.ntmps104
  go_wp2_with (go_at_call 139; refine (hnm _ (by (focus repeat (first | assumption | exact Below.refl _ _ | refine Below.drew ?_ | refine Below.alloc ?_ (by first | omega | exact Below.size (by assumption) | (simp; done) | (simp; omega)) _ | refine Below.setCell ?_ (by first | omega | exact Below.size (by assumption) | (simp; done) | (simp; omega)) _ | refine below_setRow ?_ (by first | omega | exact Below.size (by assumption) | (simp; done) | (simp; omega)) _ | (refine Below.trans ?_ (Below.mono (by assumption) ?_); rotate_left; exact (by first | omega | exact Below.size (by assumption) | (simp; done) | (simp; omega))))))).mono ?_; (rintro e w1 ⟨rfl, hb1⟩; obtain ⟨hc1, hf1⟩ := bcell hb1; have hz1 := hb1.size; try simp at hz1; try have hy1 := Nat.lt_of_succ_le hz1; try have hx1 := Nat.lt_of_succ_lt hy1; try have hw1 := Nat.lt_of_succ_lt hx1))
  have hbb : Below (w.heap.size + 1) (w.alloc (.cells #[.slice A0 F.vars.length c0, .slice A1 F.params.length c1, .slice A2 F.blocks.length c2] 26)) w1 := by simpa using hb1
  go_loopw [3, 13] (fun s i wr => ∃ n m : Nat, s = .int .i64 m ∧ i = .int .i64 n ∧ n ≤ F.blocks.length ∧ m ≤ n * 2097152 ∧ Below (w.heap.size + 1) (w.alloc (.cells #[.slice A0 F.vars.length c0, .slice A1 F.params.length c1, .slice A2 F.blocks.length c2] 26)) wr ∧
    Hid (shapedP F = ((F.blocks.drop n).all (blockB F) && decide (m + sumB (F.blocks.drop n) ≤ 1024)))) (fun _ i _ => F.blocks.length - (intOf i).toNat)
  case atStart => exact ⟨0, 0, rfl, rfl, Nat.zero_le _, Nat.zero_le _, hbb, by rw [Hid, HN.out]; simp⟩
  case round =>
    obtain ⟨n, m, rfl, rfl, hn, hm, hb, hf⟩ := hrel
    have hB := hb0.trans (hb.mono (Nat.le_succ _))
    have hWr : Below W.heap.size W wr := hW.trans (hB.mono hWs)
    have hbx := FnBox.of3 hb
    obtain ⟨hq, hq0, hq1, hq2⟩ := box3 hb
    by_cases hlt : n < F.blocks.length
    · obtain ⟨bb, off, A3, c3, A4, c4, rfl, hbb, hnz, hy0, hy1, hy2, hy3, hy4, hy5, hy6, l3, l4, k3, k4, r3, r4⟩ := r2.blk hWr hlt
      have hd := Lib.hid (drop_blk hlt)
      have hsm := s2 n hlt
      have hms : m < 4398046511104 := by omega
      have hP := fun (w1 : World) (h : Below wr.heap.size wr w1) => containsPhi_calls (c0 := c3) r3 l3 (hWr.trans (h.mono hWr.size)) _ _ _ eg_shaped1 (pred_shaped1 hF (hWr.trans (h.mono hWr.size)) (hbx.later h) _)
      have hI := fun (w1 : World) (h : Below wr.heap.size wr w1) => containsInst_calls (c0 := c4) r4 l4 (hWr.trans (h.mono hWr.size)) _ _ _ eg_shaped2 (pred_shaped2 hF (hWr.trans (h.mono hWr.size)) (hbx.later h) _)
      have hT := fun (w1 : World) => term_calls (w := w1) (F.blk n).term hF
      cases hx : (F.blk n).phis.any fun x => !phiB F x
      rotate_left
      · have HF := Lib.hid (show shapedP F = false by rw [hf.out, hd.out, List.all_cons, blockB, hx]; rfl)
        rw [hx] at hP
        clear hx
        go_wp2_with (go_at_call 140; refine (hP _ (by (focus repeat (first | assumption | exact Below.refl _ _ | refine Below.drew ?_ | refine Below.alloc ?_ (by first | omega | exact Below.size (by assumption) | (simp; done) | (simp; omega)) _ | refine Below.setCell ?_ (by first | omega | exact Below.size (by assumption) | (simp; done) | (simp; omega)) _ | refine below_setRow ?_ (by first | omega | exact Below.size (by assumption) | (simp; done) | (simp; omega)) _ | (refine Below.trans ?_ (Below.mono (by assumption) ?_); rotate_left; exact (by first | omega | exact Below.size (by assumption) | (simp; done) | (simp; omega))))))).mono ?_; (rintro e w2 ⟨rfl, hb2⟩; obtain ⟨hc2, hf2⟩ := bcell hb2; have hz2 := hb2.size; try simp at hz2; try have hy2 := Nat.lt_of_succ_le hz2; try have hx2 := Nat.lt_of_succ_lt hy2; try have hw2 := Nat.lt_of_succ_lt hx2); have hqa := Nat.lt_trans hq hy2)
        go_ret
        exact ⟨ret_bool HF.out.symm, hB.trans (by (focus repeat (first | assumption | exact Below.refl _ _ | refine Below.drew ?_ | refine Below.alloc ?_ (by first | omega | exact Below.size (by assumption) | (simp; done) | (simp; omega)) _ | refine Below.setCell ?_ (by first | omega | exact Below.size (by assumption) | (simp; done) | (simp; omega)) _ | refine below_setRow ?_ (by first | omega | exact Below.size (by assumption) | (simp; done) | (simp; omega)) _ | (refine Below.trans ?_ (Below.mono (by assumption) ?_); rotate_left; exact (by first | omega | exact Below.size (by assumption) | (simp; done) | (simp; omega))))))⟩
      rw [hx] at hP
      cases hy : (F.blk n).insts.any fun x => !instB F x
      rotate_left
      · have HF := Lib.hid (show shapedP F = false by rw [hf.out, hd.out, List.all_cons, blockB, hy]; simp)
        rw [hy] at hI
        clear hx hy
        go_wp2_with (first | (go_at_call 140; refine (hP _ (by (focus repeat (first | assumption | exact Below.refl _ _ | refine Below.drew ?_ | refine Below.alloc ?_ (by first | omega | exact Below.size (by assumption) | (simp; done) | (simp; omega)) _ | refine Below.setCell ?_ (by first | omega | exact Below.size (by assumption) | (simp; done) | (simp; omega)) _ | refine below_setRow ?_ (by first | omega | exact Below.size (by assumption) | (simp; done) | (simp; omega)) _ | (refine Below.trans ?_ (Below.mono (by assumption) ?_); rotate_left; exact (by first | omega | exact Below.size (by assumption) | (simp; done) | (simp; omega))))))).mono ?_; (rintro e w2 ⟨rfl, hb2⟩; obtain ⟨hc2, hf2⟩ := bcell hb2; have hz2 := hb2.size; try simp at hz2; try have hy2 := Nat.lt_of_succ_le hz2; try have hx2 := Nat.lt_of_succ_lt hy2; try have hw2 := Nat.lt_of_succ_lt hx2); have hqa := Nat.lt_trans hq hy2) | (go_at_call 94; refine (hI _ (by (focus repeat (first | assumption | exact Below.refl _ _ | refine Below.drew ?_ | refine Below.alloc ?_ (by first | omega | exact Below.size (by assumption) | (simp; done) | (simp; omega)) _ | refine Below.setCell ?_ (by first | omega | exact Below.size (by assumption) | (simp; done) | (simp; omega)) _ | refine below_setRow ?_ (by first | omega | exact Below.size (by assumption) | (simp; done) | (simp; omega)) _ | (refine Below.trans ?_ (Below.mono (by assumption) ?_); rotate_left; exact (by first | omega | exact Below.size (by assumption) | (simp; done) | (simp; omega))))))).mono ?_; (rintro e w3 ⟨rfl, hb3⟩; obtain ⟨hc3, hf3⟩ := bcell hb3; have hz3 := hb3.size; try simp at hz3; try have hy3 := Nat.lt_of_succ_le hz3; try have hx3 := Nat.lt_of_succ_lt hy3; try have hw3 := Nat.lt_of_succ_lt hx3); have hqc := Nat.lt_of_lt_of_le hqa hz3; have hqd := Nat.lt_of_lt_of_le hy2 hz3))
        go_ret
        exact ⟨ret_bool HF.out.symm, hB.trans (by (focus repeat (first | assumption | exact Below.refl _ _ | refine Below.drew ?_ | refine Below.alloc ?_ (by first | omega | exact Below.size (by assumption) | (simp; done) | (simp; omega)) _ | refine Below.setCell ?_ (by first | omega | exact Below.size (by assumption) | (simp; done) | (simp; omega)) _ | refine below_setRow ?_ (by first | omega | exact Below.size (by assumption) | (simp; done) | (simp; omega)) _ | (refine Below.trans ?_ (Below.mono (by assumption) ?_); rotate_left; exact (by first | omega | exact Below.size (by assumption) | (simp; done) | (simp; omega))))))⟩
      rw [hy] at hI
      cases hz : termB F (F.blk n).term
      · have HF := Lib.hid (show shapedP F = false by rw [hf.out, hd.out, List.all_cons, blockB, hz]; simp)
        rw [hz] at hT
        clear hx hy hz
        go_wp2_with (first | (go_at_call 140; refine (hP _ (by (focus repeat (first | assumption | exact Below.refl _ _ | refine Below.drew ?_ | refine Below.alloc ?_ (by first | omega | exact Below.size (by assumption) | (simp; done) | (simp; omega)) _ | refine Below.setCell ?_ (by first | omega | exact Below.size (by assumption) | (simp; done) | (simp; omega)) _ | refine below_setRow ?_ (by first | omega | exact Below.size (by assumption) | (simp; done) | (simp; omega)) _ | (refine Below.trans ?_ (Below.mono (by assumption) ?_); rotate_left; exact (by first | omega | exact Below.size (by assumption) | (simp; done) | (simp; omega))))))).mono ?_; (rintro e w2 ⟨rfl, hb2⟩; obtain ⟨hc2, hf2⟩ := bcell hb2; have hz2 := hb2.size; try simp at hz2; try have hy2 := Nat.lt_of_succ_le hz2; try have hx2 := Nat.lt_of_succ_lt hy2; try have hw2 := Nat.lt_of_succ_lt hx2); have hqa := Nat.lt_trans hq hy2) | (go_at_call 94; refine (hI _ (by (focus repeat (first | assumption | exact Below.refl _ _ | refine Below.drew ?_ | refine Below.alloc ?_ (by first | omega | exact Below.size (by assumption) | (simp; done) | (simp; omega)) _ | refine Below.setCell ?_ (by first | omega | exact Below.size (by assumption) | (simp; done) | (simp; omega)) _ | refine below_setRow ?_ (by first | omega | exact Below.size (by assumption) | (simp; done) | (simp; omega)) _ | (refine Below.trans ?_ (Below.mono (by assumption) ?_); rotate_left; exact (by first | omega | exact Below.size (by assumption) | (simp; done) | (simp; omega))))))).mono ?_; (rintro e w3 ⟨rfl, hb3⟩; obtain ⟨hc3, hf3⟩ := bcell hb3; have hz3 := hb3.size; try simp at hz3; try have hy3 := Nat.lt_of_succ_le hz3; try have hx3 := Nat.lt_of_succ_lt hy3; try have hw3 := Nat.lt_of_succ_lt hx3); have hqc := Nat.lt_of_lt_of_le hqa hz3; have hqd := Nat.lt_of_lt_of_le hy2 hz3) | (go_at_call 145; refine (hT _).mono ?_; (rintro e w4 ⟨rfl, hb4⟩; obtain ⟨hc4, hf4⟩ := bcell hb4; have hz4 := hb4.size; try simp at hz4; try have hy4 := Nat.lt_of_succ_le hz4; try have hx4 := Nat.lt_of_succ_lt hy4; try have hw4 := Nat.lt_of_succ_lt hx4)))
        go_ret
        exact ⟨ret_bool HF.out.symm, hB.trans (by (focus repeat (first | assumption | exact Below.refl _ _ | refine Below.drew ?_ | refine Below.alloc ?_ (by first | omega | exact Below.size (by assumption) | (simp; done) | (simp; omega)) _ | refine Below.setCell ?_ (by first | omega | exact Below.size (by assumption) | (simp; done) | (simp; omega)) _ | refine below_setRow ?_ (by first | omega | exact Below.size (by assumption) | (simp; done) | (simp; omega)) _ | (refine Below.trans ?_ (Below.mono (by assumption) ?_); rotate_left; exact (by first | omega | exact Below.size (by assumption) | (simp; done) | (simp; omega))))))⟩
      rw [hz] at hT
      have HF := Lib.hid (show shapedP F = ((F.blocks.drop (n + 1)).all (blockB F) && decide (m + (F.blk n).phis.length + (F.blk n).insts.length + sumB (F.blocks.drop (n + 1)) ≤ 1024)) by rw [hf.out, hd.out, List.all_cons, blockB, hx, hy, hz, sumB]; simp only [Bool.not_false, Bool.true_and, Nat.add_assoc])
      clear hx hy hz
      go_wp2_with (first | (go_at_call 140; refine (hP _ (by (focus repeat (first | assumption | exact Below.refl _ _ | refine Below.drew ?_ | refine Below.alloc ?_ (by first | omega | exact Below.size (by assumption) | (simp; done) | (simp; omega)) _ | refine Below.setCell ?_ (by first | omega | exact Below.size (by assumption) | (simp; done) | (simp; omega)) _ | refine below_setRow ?_ (by first | omega | exact Below.size (by assumption) | (simp; done) | (simp; omega)) _ | (refine Below.trans ?_ (Below.mono (by assumption) ?_); rotate_left; exact (by first | omega | exact Below.size (by assumption) | (simp; done) | (simp; omega))))))).mono ?_; (rintro e w2 ⟨rfl, hb2⟩; obtain ⟨hc2, hf2⟩ := bcell hb2; have hz2 := hb2.size; try simp at hz2; try have hy2 := Nat.lt_of_succ_le hz2; try have hx2 := Nat.lt_of_succ_lt hy2; try have hw2 := Nat.lt_of_succ_lt hx2); have hqa := Nat.lt_trans hq hy2) | (go_at_call 94; refine (hI _ (by (focus repeat (first | assumption | exact Below.refl _ _ | refine Below.drew ?_ | refine Below.alloc ?_ (by first | omega | exact Below.size (by assumption) | (simp; done) | (simp; omega)) _ | refine Below.setCell ?_ (by first | omega | exact Below.size (by assumption) | (simp; done) | (simp; omega)) _ | refine below_setRow ?_ (by first | omega | exact Below.size (by assumption) | (simp; done) | (simp; omega)) _ | (refine Below.trans ?_ (Below.mono (by assumption) ?_); rotate_left; exact (by first | omega | exact Below.size (by assumption) | (simp; done) | (simp; omega))))))).mono ?_; (rintro e w3 ⟨rfl, hb3⟩; obtain ⟨hc3, hf3⟩ := bcell hb3; have hz3 := hb3.size; try simp at hz3; try have hy3 := Nat.lt_of_succ_le hz3; try have hx3 := Nat.lt_of_succ_lt hy3; try have hw3 := Nat.lt_of_succ_lt hx3); have hqc := Nat.lt_of_lt_of_le hqa hz3; have hqd := Nat.lt_of_lt_of_le hy2 hz3) | (go_at_call 145; refine (hT _).mono ?_; (rintro e w4 ⟨rfl, hb4⟩; obtain ⟨hc4, hf4⟩ := bcell hb4; have hz4 := hb4.size; try simp at hz4; try have hy4 := Nat.lt_of_succ_le hz4; try have hx4 := Nat.lt_of_succ_lt hy4; try have hw4 := Nat.lt_of_succ_lt hx4)))
      go_roundw
      case rel => exact ⟨n + 1, m + (F.blk n).phis.length + (F.blk n).insts.length, by go_num, by go_num, by omega, by omega, hb.trans (by (focus repeat (first | assumption | exact Below.refl _ _ | refine Below.drew ?_ | refine Below.alloc ?_ (by first | omega | exact Below.size (by assumption) | (simp; done) | (simp; omega)) _ | refine Below.setCell ?_ (by first | omega | exact Below.size (by assumption) | (simp; done) | (simp; omega)) _ | refine below_setRow ?_ (by first | omega | exact Below.size (by assumption) | (simp; done) | (simp; omega)) _ | (refine Below.trans ?_ (Below.mono (by assumption) ?_); rotate_left; exact (by first | omega | exact Below.size (by assumption) | (simp; done) | (simp; omega)))))), HF⟩
      case measure => simp [intOf]; omega
    · have hf2 := Lib.hid (show shapedP F = decide (m ≤ 1024) by rw [hf.out, List.drop_eq_nil_of_le (by omega)]; rfl)
      have hms : m < 4398046511104 := by omega
      go_wp2
      go_ret
      exact ⟨ret_bool (by rw [hf2.out]; simp; omega), hB⟩
end Go.Proofs.YteajnaabbddohaaGreatDoor
