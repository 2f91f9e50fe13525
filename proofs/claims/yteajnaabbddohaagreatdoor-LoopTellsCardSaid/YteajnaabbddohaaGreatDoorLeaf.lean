/- The walks of the small functions that look into a program, call nothing, and answer a number or a bool. -/
import Derived.Test.YteajnaabbddohaaGreatDoorData
namespace Go.Proofs.YteajnaabbddohaaGreatDoor
open Go.RowKit

def inB (k : Int) (n : Nat) : Bool := decide (0 ≤ k) && decide (k < n)
theorem inB_true {k : Int} {n : Nat} (h : inB k n = true) : 0 ≤ k ∧ k < n := by simpa [inB] using h
theorem inB_mk {k : Int} {n : Nat} (h : 0 ≤ k ∧ k < n) : inB k n = true := by simpa [inB] using h
theorem inB_false {k : Int} {n : Nat} (h : inB k n = false) : ¬ (0 ≤ k ∧ k < n) := fun h' => by rw [inB_mk h'] at h; cases h

theorem has_calls {W w : World} {fv : Value} {F : PFunc} (hF : FnV W W.heap.size fv F) (v : Int) :
    Calls Tryz.prog 164 #[fv, .int .i64 v] w fun e w' => e = .returned (.bool (inB v F.vars.length)) ∧ Below w.heap.size w w' := by
  obtain ⟨A0, c0, A1, c1, A2, c2, rfl, l0, l1, l2, -, -, -, -, -, -⟩ := hF.open_
  unfold Len at *
  by_cases h0 : 0 ≤ v
  all_goals
    go_enter Tryz.func164, Tryz.ntmps164
    go_wp2
    go_ret
    exact ⟨by simp [inB] <;> omega, by (focus repeat (first | assumption | exact Below.refl _ _ | refine Below.drew ?_ | refine Below.alloc ?_ (by first | omega | exact Below.size (by assumption) | (simp; done) | (simp; omega)) _ | refine Below.setCell ?_ (by first | omega | exact Below.size (by assumption) | (simp; done) | (simp; omega)) _ | refine below_setRow ?_ (by first | omega | exact Below.size (by assumption) | (simp; done) | (simp; omega)) _ | (refine Below.trans ?_ (Below.mono (by assumption) ?_); rotate_left; exact (by first | omega | exact Below.size (by assumption) | (simp; done) | (simp; omega)))))⟩

theorem at_calls {W w : World} {fv : Value} {F : PFunc} (hF : FnV W W.heap.size fv F) (v : Int) :
    Calls Tryz.prog 167 #[fv, .int .i64 v] w fun e w' => e = .returned (.bool (inB v F.blocks.length)) ∧ Below w.heap.size w w' := by
  obtain ⟨A0, c0, A1, c1, A2, c2, rfl, l0, l1, l2, -, -, -, -, -, -⟩ := hF.open_
  unfold Len at *
  by_cases h0 : 0 ≤ v
  all_goals
    go_enter Tryz.func167, Tryz.ntmps167
    go_wp2
    go_ret
    exact ⟨by simp [inB] <;> omega, by (focus repeat (first | assumption | exact Below.refl _ _ | refine Below.drew ?_ | refine Below.alloc ?_ (by first | omega | exact Below.size (by assumption) | (simp; done) | (simp; omega)) _ | refine Below.setCell ?_ (by first | omega | exact Below.size (by assumption) | (simp; done) | (simp; omega)) _ | refine below_setRow ?_ (by first | omega | exact Below.size (by assumption) | (simp; done) | (simp; omega)) _ | (refine Below.trans ?_ (Below.mono (by assumption) ?_); rotate_left; exact (by first | omega | exact Below.size (by assumption) | (simp; done) | (simp; omega)))))⟩

theorem in_calls {w : World} (v : Int) (n : Nat) :
    Calls Tryz.prog 152 #[.int .i64 v, .int .i64 n] w fun e w' => e = .returned (.bool (inB v n)) ∧ w = w' := by
  by_cases h0 : 0 ≤ v
  all_goals
    go_enter Tryz.func152, Tryz.ntmps152
    go_wp2
    go_ret
    exact ⟨by simp [inB] <;> omega, rfl⟩

theorem kind_calls {W w : World} {fv : Value} {F : PFunc} (hF : FnV W W.heap.size fv F) (hW : Below W.heap.size W w) (v : Int) (h0 : 0 ≤ v) (h1 : v < F.vars.length) :
    Calls Tryz.prog 147 #[fv, .int .i64 v] w fun e w' => e = .returned (.int .i64 (F.var v.toNat).ty) ∧ Below w.heap.size w w' := by
  obtain ⟨n, rfl⟩ := Int.eq_ofNat_of_zero_le h0
  rw [Int.toNat_natCast]
  obtain ⟨A0, c0, A1, c1, A2, c2, rfl, l0, l1, l2, -, -, -, r0, -, -⟩ := hF.open_
  unfold Len at *
  obtain ⟨b, off, rfl, hb, -, -, hc⟩ := r0.var hW (i := n) (by omega)
  go_enter Tryz.func147, Tryz.ntmps147
  go_wp2
  go_ret
  exact ⟨rfl, by (focus repeat (first | assumption | exact Below.refl _ _ | refine Below.drew ?_ | refine Below.alloc ?_ (by first | omega | exact Below.size (by assumption) | (simp; done) | (simp; omega)) _ | refine Below.setCell ?_ (by first | omega | exact Below.size (by assumption) | (simp; done) | (simp; omega)) _ | refine below_setRow ?_ (by first | omega | exact Below.size (by assumption) | (simp; done) | (simp; omega)) _ | (refine Below.trans ?_ (Below.mono (by assumption) ?_); rotate_left; exact (by first | omega | exact Below.size (by assumption) | (simp; done) | (simp; omega)))))⟩

theorem of_calls {W w : World} {fv : Value} {F : PFunc} (hF : FnV W W.heap.size fv F) (hW : Below W.heap.size W w) (v : Int) (h0 : 0 ≤ v) (h1 : v < F.vars.length) :
    Calls Tryz.prog 109 #[fv, .int .i64 v] w fun e w' => e = .returned (.int .i64 (F.var v.toNat).ty) ∧ Below w.heap.size w w' := by
  obtain ⟨n, rfl⟩ := Int.eq_ofNat_of_zero_le h0
  rw [Int.toNat_natCast]
  obtain ⟨A0, c0, A1, c1, A2, c2, rfl, l0, l1, l2, -, -, -, r0, -, -⟩ := hF.open_
  unfold Len at *
  obtain ⟨b, off, rfl, hb, -, -, hc⟩ := r0.var hW (i := n) (by omega)
  go_enter Tryz.func109, Tryz.ntmps109
  go_wp2
  go_ret
  exact ⟨rfl, by (focus repeat (first | assumption | exact Below.refl _ _ | refine Below.drew ?_ | refine Below.alloc ?_ (by first | omega | exact Below.size (by assumption) | (simp; done) | (simp; omega)) _ | refine Below.setCell ?_ (by first | omega | exact Below.size (by assumption) | (simp; done) | (simp; omega)) _ | refine below_setRow ?_ (by first | omega | exact Below.size (by assumption) | (simp; done) | (simp; omega)) _ | (refine Below.trans ?_ (Below.mono (by assumption) ?_); rotate_left; exact (by first | omega | exact Below.size (by assumption) | (simp; done) | (simp; omega)))))⟩

def leads (t : PTerm) (b : Int) : Bool := decide (t.kind = 0 ∧ t.t0 = b ∨ t.kind = 1 ∧ (t.t0 = b ∨ t.t1 = b))
theorem leads_calls {W w : World} {fv : Value} {F : PFunc} (hF : FnV W W.heap.size fv F) (hW : Below W.heap.size W w) (a b : Int) (h0 : 0 ≤ a) (h1 : a < F.blocks.length) :
    Calls Tryz.prog 30 #[fv, .int .i64 a, .int .i64 b] w fun e w' => e = .returned (.bool (leads (F.blk a.toNat).term b)) ∧ Below w.heap.size w w' := by
  obtain ⟨n, rfl⟩ := Int.eq_ofNat_of_zero_le h0
  rw [Int.toNat_natCast]
  obtain ⟨A0, c0, A1, c1, A2, c2, rfl, l0, l1, l2, -, -, -, -, -, r2⟩ := hF.open_
  unfold Len at *
  obtain ⟨bb, off, A3, c3, A4, c4, rfl, hb, -, -, -, -, x3, x4, x5, x6, -, -, -, -, -, -⟩ := r2.blk hW (i := n) (by omega)
  unfold leads
  generalize (F.blk n).term = t at *
  by_cases k0 : t.kind = 0
  · by_cases k1 : t.t0 = b
    all_goals
      go_enter Tryz.func30, Tryz.ntmps30
      go_wp2
      go_ret
      exact ⟨by simp [k0, k1], by (focus repeat (first | assumption | exact Below.refl _ _ | refine Below.drew ?_ | refine Below.alloc ?_ (by first | omega | exact Below.size (by assumption) | (simp; done) | (simp; omega)) _ | refine Below.setCell ?_ (by first | omega | exact Below.size (by assumption) | (simp; done) | (simp; omega)) _ | refine below_setRow ?_ (by first | omega | exact Below.size (by assumption) | (simp; done) | (simp; omega)) _ | (refine Below.trans ?_ (Below.mono (by assumption) ?_); rotate_left; exact (by first | omega | exact Below.size (by assumption) | (simp; done) | (simp; omega)))))⟩
  · by_cases k1 : t.kind = 1
    · by_cases k2 : t.t0 = b
      all_goals
        go_enter Tryz.func30, Tryz.ntmps30
        go_wp2
        go_ret
        exact ⟨ret_bool' (by simp [k1, k2]), by (focus repeat (first | assumption | exact Below.refl _ _ | refine Below.drew ?_ | refine Below.alloc ?_ (by first | omega | exact Below.size (by assumption) | (simp; done) | (simp; omega)) _ | refine Below.setCell ?_ (by first | omega | exact Below.size (by assumption) | (simp; done) | (simp; omega)) _ | refine below_setRow ?_ (by first | omega | exact Below.size (by assumption) | (simp; done) | (simp; omega)) _ | (refine Below.trans ?_ (Below.mono (by assumption) ?_); rotate_left; exact (by first | omega | exact Below.size (by assumption) | (simp; done) | (simp; omega)))))⟩
    · go_enter Tryz.func30, Tryz.ntmps30
      go_wp2
      go_ret
      exact ⟨by simp [k0, k1], by (focus repeat (first | assumption | exact Below.refl _ _ | refine Below.drew ?_ | refine Below.alloc ?_ (by first | omega | exact Below.size (by assumption) | (simp; done) | (simp; omega)) _ | refine Below.setCell ?_ (by first | omega | exact Below.size (by assumption) | (simp; done) | (simp; omega)) _ | refine below_setRow ?_ (by first | omega | exact Below.size (by assumption) | (simp; done) | (simp; omega)) _ | (refine Below.trans ?_ (Below.mono (by assumption) ?_); rotate_left; exact (by first | omega | exact Below.size (by assumption) | (simp; done) | (simp; omega)))))⟩
end Go.Proofs.YteajnaabbddohaaGreatDoor
