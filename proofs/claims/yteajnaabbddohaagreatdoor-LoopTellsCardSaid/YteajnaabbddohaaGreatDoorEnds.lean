/- graph.Ends, graph.right. -/
import Derived.Test.YteajnaabbddohaaGreatDoorTyped
namespace Go.Proofs.YteajnaabbddohaaGreatDoor
open Go.RowKit
set_option maxRecDepth 100000

def endsOf (t : PTerm) : List Int := if t.kind = 0 then [t.t0] else if t.kind = 1 then (if t.t0 = t.t1 then [t.t0] else [t.t0, t.t1]) else []
theorem endsOf_len (t : PTerm) : (endsOf t).length ≤ 2 := by
  unfold endsOf
  split
  · simp
  · split
    · split <;> simp
    · simp
theorem endsOf_leads {t : PTerm} {b : Int} : b ∈ endsOf t ↔ leads t b = true := by
  unfold endsOf leads
  by_cases h0 : t.kind = 0
  · simp [h0]; omega
  · by_cases h1 : t.kind = 1
    · by_cases h2 : t.t0 = t.t1
      · simp [h1, h2]; omega
      · simp [h1, h2]; omega
    · simp [h0, h1]
theorem RetInts.nil_ {w w' : World} (hb : Below w.heap.size w w') : RetInts w [] (.returned (.slice none 0 0)) w' := ⟨none, 0, rfl, by simp [Len], by simp, fun i x hx => by simp at hx, hb⟩
theorem RetInts.one {w w' : World} {b : Nat} {x : Int} {c : Nat} (hc : 1 ≤ c) (hb : b < w'.heap.size) (h : w'.cell? ⟨b, 0, none⟩ = some (.int .i64 x)) (hB : Below w.heap.size w w') : RetInts w [x] (.returned (.slice (some ⟨b, 0, none⟩) 1 c)) w' := by
  refine ⟨_, _, rfl, by simp [Len], hc, ?_, hB⟩
  intro i y hy
  match i, hy with
  | 0, hy => exact ⟨b, 0, rfl, hb, by have e : x = y := Option.some.inj hy; subst e; exact h⟩
  | i + 1, hy => cases (show (none : Option Int) = some y from hy)
theorem RetInts.two {w w' : World} {b : Nat} {x y : Int} {c : Nat} (hc : 2 ≤ c) (hb : b < w'.heap.size) (h : w'.cell? ⟨b, 0, none⟩ = some (.int .i64 x)) (h1 : w'.cell? ⟨b, 1, none⟩ = some (.int .i64 y)) (hB : Below w.heap.size w w') : RetInts w [x, y] (.returned (.slice (some ⟨b, 0, none⟩) 2 c)) w' := by
  refine ⟨_, _, rfl, by simp [Len], hc, ?_, hB⟩
  intro i z hz
  match i, hz with
  | 0, hz => exact ⟨b, 0, rfl, hb, by have e : x = z := Option.some.inj hz; subst e; exact h⟩
  | 1, hz => exact ⟨b, 0, rfl, hb, by have e : y = z := Option.some.inj hz; subst e; exact h1⟩
  | i + 2, hz => cases (show (none : Option Int) = some z from hz)

theorem ends_calls {w : World} (t : PTerm) :
    Calls Tryz.prog 44 #[.agg #[.int .i64 t.kind, .int .i64 t.var, .int .i64 t.t0, .int .i64 t.t1]] w (RetInts w (endsOf t)) := by
  by_cases h0 : t.kind = 0
  · have HF := Lib.hid (show endsOf t = [t.t0] by rw [endsOf, if_pos h0])
    go_enter Tryz.func44, Tryz.ntmps44
    go_wp2
    go_ret
    rw [HF.out]
    exact RetInts.one (Nat.le_refl _) (by first | omega | exact Below.size (by assumption) | (simp; done) | (simp; omega)) (by simp) (by (focus repeat (first | assumption | exact Below.refl _ _ | refine Below.drew ?_ | refine Below.alloc ?_ (by first | omega | exact Below.size (by assumption) | (simp; done) | (simp; omega)) _ | refine Below.setCell ?_ (by first | omega | exact Below.size (by assumption) | (simp; done) | (simp; omega)) _ | refine below_setRow ?_ (by first | omega | exact Below.size (by assumption) | (simp; done) | (simp; omega)) _ | (refine Below.trans ?_ (Below.mono (by assumption) ?_); rotate_left; exact (by first | omega | exact Below.size (by assumption) | (simp; done) | (simp; omega))))))
  by_cases h1 : t.kind = 1
  · by_cases h2 : t.t0 = t.t1
    · have HF := Lib.hid (show endsOf t = [t.t0] by rw [endsOf, if_neg h0, if_pos h1, if_pos h2])
      go_enter Tryz.func44, Tryz.ntmps44
      go_wp2
      go_ret
      rw [HF.out]
      exact RetInts.one (Nat.le_refl _) (by first | omega | exact Below.size (by assumption) | (simp; done) | (simp; omega)) (by simp [h2]) (by (focus repeat (first | assumption | exact Below.refl _ _ | refine Below.drew ?_ | refine Below.alloc ?_ (by first | omega | exact Below.size (by assumption) | (simp; done) | (simp; omega)) _ | refine Below.setCell ?_ (by first | omega | exact Below.size (by assumption) | (simp; done) | (simp; omega)) _ | refine below_setRow ?_ (by first | omega | exact Below.size (by assumption) | (simp; done) | (simp; omega)) _ | (refine Below.trans ?_ (Below.mono (by assumption) ?_); rotate_left; exact (by first | omega | exact Below.size (by assumption) | (simp; done) | (simp; omega))))))
    · have HF := Lib.hid (show endsOf t = [t.t0, t.t1] by rw [endsOf, if_neg h0, if_pos h1, if_neg h2])
      go_enter Tryz.func44, Tryz.ntmps44
      go_wp2
      go_ret
      rw [HF.out]
      exact RetInts.two (Nat.le_refl _) (by first | omega | exact Below.size (by assumption) | (simp; done) | (simp; omega)) (by simp) (by simp) (by (focus repeat (first | assumption | exact Below.refl _ _ | refine Below.drew ?_ | refine Below.alloc ?_ (by first | omega | exact Below.size (by assumption) | (simp; done) | (simp; omega)) _ | refine Below.setCell ?_ (by first | omega | exact Below.size (by assumption) | (simp; done) | (simp; omega)) _ | refine below_setRow ?_ (by first | omega | exact Below.size (by assumption) | (simp; done) | (simp; omega)) _ | (refine Below.trans ?_ (Below.mono (by assumption) ?_); rotate_left; exact (by first | omega | exact Below.size (by assumption) | (simp; done) | (simp; omega))))))
  · have HF := Lib.hid (show endsOf t = [] by rw [endsOf, if_neg h0, if_neg h1])
    go_enter Tryz.func44, Tryz.ntmps44
    go_wp2
    go_ret
    rw [HF.out]
    exact RetInts.nil_ (by (focus repeat (first | assumption | exact Below.refl _ _ | refine Below.drew ?_ | refine Below.alloc ?_ (by first | omega | exact Below.size (by assumption) | (simp; done) | (simp; omega)) _ | refine Below.setCell ?_ (by first | omega | exact Below.size (by assumption) | (simp; done) | (simp; omega)) _ | refine below_setRow ?_ (by first | omega | exact Below.size (by assumption) | (simp; done) | (simp; omega)) _ | (refine Below.trans ?_ (Below.mono (by assumption) ?_); rotate_left; exact (by first | omega | exact Below.size (by assumption) | (simp; done) | (simp; omega))))))
theorem right_calls {W w : World} {fv : Value} {F : PFunc} (hU : Uni W) (hF : FnV W W.heap.size fv F) (hW : Below W.heap.size W w) (hS : Small F) :
    Calls Tryz.prog 77 #[fv] w fun e w' => e = .returned (.bool (typedP F)) ∧ Below w.heap.size w w' := by
  have ht := fun (w : World) (h : Below W.heap.size W w) => typed_calls hU hF h hS
  have hWs := hW.size
  obtain ⟨A0, c0, A1, c1, A2, c2, rfl, -⟩ := id hF.open_
  cases hx : typedP F
  all_goals
    rw [hx] at ht
    unfold errOf at ht
    clear hx
    go_enter Tryz.func77, Tryz.ntmps77
    go_wp2_with (go_at_call 72; refine (ht _ (by (focus repeat (first | assumption | exact Below.refl _ _ | refine Below.drew ?_ | refine Below.alloc ?_ (by first | omega | exact Below.size (by assumption) | (simp; done) | (simp; omega)) _ | refine Below.setCell ?_ (by first | omega | exact Below.size (by assumption) | (simp; done) | (simp; omega)) _ | refine below_setRow ?_ (by first | omega | exact Below.size (by assumption) | (simp; done) | (simp; omega)) _ | (refine Below.trans ?_ (Below.mono (by assumption) ?_); rotate_left; exact (by first | omega | exact Below.size (by assumption) | (simp; done) | (simp; omega))))))).mono ?_; (rintro e w1 ⟨rfl, hb1⟩; obtain ⟨hc1, hf1⟩ := bcell hb1; have hz1 := hb1.size; try simp at hz1; try have hy1 := Nat.lt_of_succ_le hz1; try have hx1 := Nat.lt_of_succ_lt hy1; try have hw1 := Nat.lt_of_succ_lt hx1))
    go_ret
    exact ⟨rfl, by (focus repeat (first | assumption | exact Below.refl _ _ | refine Below.drew ?_ | refine Below.alloc ?_ (by first | omega | exact Below.size (by assumption) | (simp; done) | (simp; omega)) _ | refine Below.setCell ?_ (by first | omega | exact Below.size (by assumption) | (simp; done) | (simp; omega)) _ | refine below_setRow ?_ (by first | omega | exact Below.size (by assumption) | (simp; done) | (simp; omega)) _ | (refine Below.trans ?_ (Below.mono (by assumption) ?_); rotate_left; exact (by first | omega | exact Below.size (by assumption) | (simp; done) | (simp; omega)))))⟩
end Go.Proofs.YteajnaabbddohaaGreatDoor
