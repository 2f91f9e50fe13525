/- The walks of package print, on: ends, and lists of phis and instructions. -/
import Derived.Test.YteajnaabbddohaaGreatDoorPrint
namespace Go.Proofs.YteajnaabbddohaaGreatDoor
open Go.RowKit
set_option maxRecDepth 100000

theorem arr2_guard : Program.eqGuardType Tryz.prog (Program.depth Tryz.prog) 56 = false := by kernel_rfl
theorem arr2_eqIn (d : Nat) (a b c e : Int) (w : World) : (Op.equalIn (d + 2) 56 (.agg #[.int .i64 a, .int .i64 b]) (.agg #[.int .i64 c, .int .i64 e])).run Tryz.prog w = .ok (a == c && b == e) w := by
  rw [Op.equalIn]
  simp only [Sem.run_bind, run_underlying Tryz.underlying56, Result.andThen]
  have hs : (sizeOf 3).run Tryz.prog w = .ok 1 w := by kernel_rfl
  simp only [hs]
  have p0 : ∀ x y : Int, (part 3 #[.int .i64 x, .int .i64 y] 0).run Tryz.prog w = .ok (.int .i64 x) w := fun x y => by kernel_rfl
  have p1 : ∀ x y : Int, (part 3 #[.int .i64 x, .int .i64 y] 1).run Tryz.prog w = .ok (.int .i64 y) w := fun x y => by kernel_rfl
  have q : ∀ x y : Int, (Op.equalIn (d + 1) 3 (.int .i64 x) (.int .i64 y)).run Tryz.prog w = .ok (x == y) w := fun x y => run_equalIn_int w d _ _ _ x y Tryz.underlying3
  by_cases h1 : a = c
  · subst h1
    by_cases h2 : b = e
    · subst h2; simp [List.range'_succ, Sem.run_bind, Result.andThen, p0, p1, q]
    · simp [List.range'_succ, Sem.run_bind, Result.andThen, p0, p1, q, h2]
  · simp [List.range'_succ, Sem.run_bind, Result.andThen, p0, q, h1]
theorem arr2_eq (a b c e : Int) (w : World) : (binOp .eql 56 (.agg #[.int .i64 a, .int .i64 b]) (.agg #[.int .i64 c, .int .i64 e])).run Tryz.prog w = .ok (.bool (a == c && b == e)) w := by
  rw [run_eql_struct, arr2_eqIn 9998]
  rfl
def termV (t : PTerm) : Value := .agg #[.int .i64 t.kind, .int .i64 t.var, .int .i64 t.t0, .int .i64 t.t1]
def termB (F : PFunc) (t : PTerm) : Bool :=
  if t.kind = 0 then inB t.t0 F.blocks.length && decide (t.t1 = 0) && decide (t.var = 0)
  else if t.kind = 1 then inB t.var F.vars.length && inB t.t0 F.blocks.length && inB t.t1 F.blocks.length
  else if t.kind = 2 then inB t.var F.vars.length && (decide (t.t0 = 0) && decide (t.t1 = 0))
  else false

set_option maxHeartbeats 2000000 in
theorem term_calls {W w : World} {fv : Value} {F : PFunc} (t : PTerm) (hF : FnV W W.heap.size fv F) :
    Calls Tryz.prog 145 #[fv, .agg #[.int .i64 t.kind, .int .i64 t.var, .int .i64 t.t0, .int .i64 t.t1]] w fun e w' => e = .returned (.bool (termB F t)) ∧ Below w.heap.size w w' := by
  obtain ⟨A0, c0, A1, c1, A2, c2, rfl, -⟩ := id hF.open_
  obtain ⟨kind, var, t0, t1⟩ := t
  have a0 := fun w => at_calls (w := w) hF t0
  have a1 := fun w => at_calls (w := w) hF t1
  have v0 := fun w => has_calls (w := w) hF var
  by_cases k0 : kind = 0
  · subst k0
    have HF := Lib.hid (show termB F ⟨0, var, t0, t1⟩ = (inB t0 F.blocks.length && decide (t1 = 0) && decide (var = 0)) by simp [termB])
    cases b0 : inB t0 F.blocks.length
    · rw [b0] at HF a0
      clear b0
      go_enter Tryz.func145, Tryz.ntmps145
      go_wp2_with (go_at_call 167; refine (a0 _).mono ?_; (rintro e w1 ⟨rfl, hb1⟩; obtain ⟨hc1, hf1⟩ := bcell hb1; have hz1 := hb1.size; try simp at hz1; try have hy1 := Nat.lt_of_succ_le hz1; try have hx1 := Nat.lt_of_succ_lt hy1; try have hw1 := Nat.lt_of_succ_lt hx1))
      go_ret
      exact ⟨ret_bool (by rw [HF.out]; simp), by (focus repeat (first | assumption | exact Below.refl _ _ | refine Below.drew ?_ | refine Below.alloc ?_ (by first | omega | exact Below.size (by assumption) | (simp; done) | (simp; omega)) _ | refine Below.setCell ?_ (by first | omega | exact Below.size (by assumption) | (simp; done) | (simp; omega)) _ | refine below_setRow ?_ (by first | omega | exact Below.size (by assumption) | (simp; done) | (simp; omega)) _ | (refine Below.trans ?_ (Below.mono (by assumption) ?_); rotate_left; exact (by first | omega | exact Below.size (by assumption) | (simp; done) | (simp; omega)))))⟩
    · rw [b0] at HF a0
      clear b0
      by_cases h1 : t1 = 0
      all_goals
        go_enter Tryz.func145, Tryz.ntmps145
        go_wp2_with (go_at_call 167; refine (a0 _).mono ?_; (rintro e w1 ⟨rfl, hb1⟩; obtain ⟨hc1, hf1⟩ := bcell hb1; have hz1 := hb1.size; try simp at hz1; try have hy1 := Nat.lt_of_succ_le hz1; try have hx1 := Nat.lt_of_succ_lt hy1; try have hw1 := Nat.lt_of_succ_lt hx1))
        go_ret
        exact ⟨ret_bool (by rw [HF.out, Bool.eq_iff_iff]; simp [h1]), by (focus repeat (first | assumption | exact Below.refl _ _ | refine Below.drew ?_ | refine Below.alloc ?_ (by first | omega | exact Below.size (by assumption) | (simp; done) | (simp; omega)) _ | refine Below.setCell ?_ (by first | omega | exact Below.size (by assumption) | (simp; done) | (simp; omega)) _ | refine below_setRow ?_ (by first | omega | exact Below.size (by assumption) | (simp; done) | (simp; omega)) _ | (refine Below.trans ?_ (Below.mono (by assumption) ?_); rotate_left; exact (by first | omega | exact Below.size (by assumption) | (simp; done) | (simp; omega)))))⟩
  by_cases k1 : kind = 1
  · subst k1
    have HF := Lib.hid (show termB F ⟨1, var, t0, t1⟩ = (inB var F.vars.length && inB t0 F.blocks.length && inB t1 F.blocks.length) by simp [termB])
    clear k0
    cases b0 : inB var F.vars.length
    · rw [b0] at HF v0
      clear b0
      go_enter Tryz.func145, Tryz.ntmps145
      go_wp2_with (go_at_call 164; refine (v0 _).mono ?_; (rintro e w1 ⟨rfl, hb1⟩; obtain ⟨hc1, hf1⟩ := bcell hb1; have hz1 := hb1.size; try simp at hz1; try have hy1 := Nat.lt_of_succ_le hz1; try have hx1 := Nat.lt_of_succ_lt hy1; try have hw1 := Nat.lt_of_succ_lt hx1))
      go_ret
      exact ⟨ret_bool (by rw [HF.out]; simp), by (focus repeat (first | assumption | exact Below.refl _ _ | refine Below.drew ?_ | refine Below.alloc ?_ (by first | omega | exact Below.size (by assumption) | (simp; done) | (simp; omega)) _ | refine Below.setCell ?_ (by first | omega | exact Below.size (by assumption) | (simp; done) | (simp; omega)) _ | refine below_setRow ?_ (by first | omega | exact Below.size (by assumption) | (simp; done) | (simp; omega)) _ | (refine Below.trans ?_ (Below.mono (by assumption) ?_); rotate_left; exact (by first | omega | exact Below.size (by assumption) | (simp; done) | (simp; omega)))))⟩
    rw [b0] at HF v0
    clear b0
    cases b1 : inB t0 F.blocks.length
    · rw [b1] at HF a0
      clear b1
      go_enter Tryz.func145, Tryz.ntmps145
      go_wp2_with (first | (go_at_call 164; refine (v0 _).mono ?_; (rintro e w1 ⟨rfl, hb1⟩; obtain ⟨hc1, hf1⟩ := bcell hb1; have hz1 := hb1.size; try simp at hz1; try have hy1 := Nat.lt_of_succ_le hz1; try have hx1 := Nat.lt_of_succ_lt hy1; try have hw1 := Nat.lt_of_succ_lt hx1)) | (go_at_call 167; refine (a0 _).mono ?_; (rintro e w2 ⟨rfl, hb2⟩; obtain ⟨hc2, hf2⟩ := bcell hb2; have hz2 := hb2.size; try simp at hz2; try have hy2 := Nat.lt_of_succ_le hz2; try have hx2 := Nat.lt_of_succ_lt hy2; try have hw2 := Nat.lt_of_succ_lt hx2)))
      go_ret
      exact ⟨ret_bool (by rw [HF.out]; simp), by (focus repeat (first | assumption | exact Below.refl _ _ | refine Below.drew ?_ | refine Below.alloc ?_ (by first | omega | exact Below.size (by assumption) | (simp; done) | (simp; omega)) _ | refine Below.setCell ?_ (by first | omega | exact Below.size (by assumption) | (simp; done) | (simp; omega)) _ | refine below_setRow ?_ (by first | omega | exact Below.size (by assumption) | (simp; done) | (simp; omega)) _ | (refine Below.trans ?_ (Below.mono (by assumption) ?_); rotate_left; exact (by first | omega | exact Below.size (by assumption) | (simp; done) | (simp; omega)))))⟩
    rw [b1] at HF a0
    clear b1
    go_enter Tryz.func145, Tryz.ntmps145
    go_wp2_with (first | (go_at_call 164; refine (v0 _).mono ?_; (rintro e w1 ⟨rfl, hb1⟩; obtain ⟨hc1, hf1⟩ := bcell hb1; have hz1 := hb1.size; try simp at hz1; try have hy1 := Nat.lt_of_succ_le hz1; try have hx1 := Nat.lt_of_succ_lt hy1; try have hw1 := Nat.lt_of_succ_lt hx1)) | (go_at_call 167; with_reducible refine (a0 _).mono ?_; (rintro e w2 ⟨rfl, hb2⟩; obtain ⟨hc2, hf2⟩ := bcell hb2; have hz2 := hb2.size; try simp at hz2; try have hy2 := Nat.lt_of_succ_le hz2; try have hx2 := Nat.lt_of_succ_lt hy2; try have hw2 := Nat.lt_of_succ_lt hx2)))
    go_wp2_with (go_at_call 167; refine (a1 _).mono ?_; (rintro e w3 ⟨rfl, hb3⟩; obtain ⟨hc3, hf3⟩ := bcell hb3; have hz3 := hb3.size; try simp at hz3; try have hy3 := Nat.lt_of_succ_le hz3; try have hx3 := Nat.lt_of_succ_lt hy3; try have hw3 := Nat.lt_of_succ_lt hx3))
    go_ret
    exact ⟨ret_bool (by rw [HF.out]; simp), by (focus repeat (first | assumption | exact Below.refl _ _ | refine Below.drew ?_ | refine Below.alloc ?_ (by first | omega | exact Below.size (by assumption) | (simp; done) | (simp; omega)) _ | refine Below.setCell ?_ (by first | omega | exact Below.size (by assumption) | (simp; done) | (simp; omega)) _ | refine below_setRow ?_ (by first | omega | exact Below.size (by assumption) | (simp; done) | (simp; omega)) _ | (refine Below.trans ?_ (Below.mono (by assumption) ?_); rotate_left; exact (by first | omega | exact Below.size (by assumption) | (simp; done) | (simp; omega)))))⟩
  by_cases k2 : kind = 2
  · subst k2
    have HF := Lib.hid (show termB F ⟨2, var, t0, t1⟩ = (inB var F.vars.length && (decide (t0 = 0) && decide (t1 = 0))) by simp [termB])
    clear k0 k1
    have heq := arr2_eq t0 t1 0 0
    have hgd := arr2_guard
    cases b0 : inB var F.vars.length
    all_goals
      rw [b0] at HF v0
      clear b0
      go_enter Tryz.func145, Tryz.ntmps145
      go_wp2_with (go_at_call 164; refine (v0 _).mono ?_; (rintro e w1 ⟨rfl, hb1⟩; obtain ⟨hc1, hf1⟩ := bcell hb1; have hz1 := hb1.size; try simp at hz1; try have hy1 := Nat.lt_of_succ_le hz1; try have hx1 := Nat.lt_of_succ_lt hy1; try have hw1 := Nat.lt_of_succ_lt hx1))
      go_ret
      exact ⟨ret_bool (by rw [HF.out, Bool.eq_iff_iff]; simp), by (focus repeat (first | assumption | exact Below.refl _ _ | refine Below.drew ?_ | refine Below.alloc ?_ (by first | omega | exact Below.size (by assumption) | (simp; done) | (simp; omega)) _ | refine Below.setCell ?_ (by first | omega | exact Below.size (by assumption) | (simp; done) | (simp; omega)) _ | refine below_setRow ?_ (by first | omega | exact Below.size (by assumption) | (simp; done) | (simp; omega)) _ | (refine Below.trans ?_ (Below.mono (by assumption) ?_); rotate_left; exact (by first | omega | exact Below.size (by assumption) | (simp; done) | (simp; omega)))))⟩
  have HF := Lib.hid (show termB F ⟨kind, var, t0, t1⟩ = false by simp [termB, k0, k1, k2])
  go_enter Tryz.func145, Tryz.ntmps145
  go_wp2
  go_ret
  exact ⟨ret_bool HF.out.symm, by (focus repeat (first | assumption | exact Below.refl _ _ | refine Below.drew ?_ | refine Below.alloc ?_ (by first | omega | exact Below.size (by assumption) | (simp; done) | (simp; omega)) _ | refine Below.setCell ?_ (by first | omega | exact Below.size (by assumption) | (simp; done) | (simp; omega)) _ | refine below_setRow ?_ (by first | omega | exact Below.size (by assumption) | (simp; done) | (simp; omega)) _ | (refine Below.trans ?_ (Below.mono (by assumption) ?_); rotate_left; exact (by first | omega | exact Below.size (by assumption) | (simp; done) | (simp; omega)))))⟩
end Go.Proofs.YteajnaabbddohaaGreatDoor
