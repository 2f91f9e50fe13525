/- The plain law of GraphOrders: the blocks of the order are those that ways come to. No program's code in sight. -/
import Derived.Test.YtenedeaiepjedaaDoorWayB
import Derived.Test.YtenedeaiepjedaaDoorRefO
namespace Go.Proofs.YtenedeaiepjedaaDoor
open Go.RowKit

theorem marksL_at {n x : Nat} {l : List Nat} (hx : x < n) : (marksL n l).getD x false = true ↔ x ∈ l := by simp [marksL, List.getD, hx]
theorem par_plus {F : PFunc} (h : typedP F = true) : ∀ {l : List Nat}, ParOk (EN F) [] l → (∀ v ∈ l, v < F.blocks.length) → ∀ v ∈ l, v = 0 ∨ Plus (RF F (-1)) 0 v
  | [], _, _, v, hv => by cases hv
  | u :: post, hp, hl, v, hv => by
    have ih := par_plus h hp.2 (fun v hv => hl v (by simp [hv]))
    rcases List.mem_cons.1 hv with e | e
    · subst e
      rcases hp.1 with e | ⟨p, h1, h2 | h2⟩
      · exact .inl e
      · cases h2
      · have hr := (RF_EN h (hl p (by simp [h2]))).2 h1
        rcases ih p h2 with e | e
        · subst e; exact .inr (.one hr)
        · exact .inr (.more e hr)
    · exact ih v e
theorem post_plus {F : PFunc} (h : typedP F = true) {x : Nat} : x ∈ postO F ↔ x = 0 ∨ Plus (RF F (-1)) 0 x := by
  have fin := post_fin h
  have h0 : 0 ∈ postO F := List.mem_of_getLast? fin.last
  constructor
  · exact par_plus h fin.par fin.lt x
  · rintro (e | e)
    · subst e; exact h0
    · induction e with
      | one hr => exact fin.clo 0 h0 _ ((RF_EN h hr.1).1 hr)
      | more _ hr ih => exact fin.clo _ ih _ ((RF_EN h hr.1).1 hr)
theorem reach_eq {F : PFunc} (h : typedP F = true) : marksL F.blocks.length (postO F).reverse = (plusL (RF F (-1)) F.blocks.length 0).set 0 (decide ((-1 : Int) ≠ 0)) := by
  have n1 := (shaped_count (typed_shaped h)).1
  refine bools_ext (by simp [marksL, plusL]) fun x hx => ?_
  rw [marksL_len] at hx
  rw [marksL_at hx, List.mem_reverse, post_plus h, show decide ((-1 : Int) ≠ 0) = true from rfl, getD_set_true (by rw [plusL_len]; omega), plusL_at hx]
end Go.Proofs.YtenedeaiepjedaaDoor
