/- Ways through a graph: marks that grow till nothing is left to mark. No program's code in sight. -/
import Derived.Test.YtenedeaiepjedaaDoorRisesA
namespace Go.Proofs.YtenedeaiepjedaaDoor
open Go.RowKit

/-- a way of one step or more. -/
inductive Plus (R : Nat → Nat → Prop) (a : Nat) : Nat → Prop
  | one {b : Nat} : R a b → Plus R a b
  | more {b c : Nat} : Plus R a b → R b c → Plus R a c
structure MarkInv (R : Nat → Nat → Prop) (n a : Nat) (t : List Bool) : Prop where
  len : t.length = n
  way : ∀ x, t.getD x false = true → Plus R a x
def Closed (R : Nat → Nat → Prop) (a : Nat) (t : List Bool) : Prop := ∀ x y, (x = a ∨ t.getD x false = true) → R x y → t.getD y false = true
section
variable {R : Nat → Nat → Prop} {n a : Nat} {t : List Bool}
theorem MarkInv.start : MarkInv R n a (List.replicate n false) := ⟨by simp, fun x h => by
  simp only [List.getD, List.getElem?_replicate] at h
  split at h <;> simp at h⟩
theorem MarkInv.set (h : MarkInv R n a t) {x y : Nat} (hx : x = a ∨ t.getD x false = true) (hr : R x y) (hy : y < n) : MarkInv R n a (t.set y true) := by
  refine ⟨by rw [List.length_set, h.len], fun z hz => ?_⟩
  rw [getD_set_true (by rw [h.len]; exact hy)] at hz
  rcases hz with rfl | hz
  · rcases hx with rfl | hx
    · exact .one hr
    · exact .more (h.way _ hx) hr
  · exact h.way z hz
theorem Closed.plus (h : Closed R a t) : ∀ {x : Nat}, Plus R a x → t.getD x false = true := by
  intro x hp
  induction hp with
  | one hr => exact h _ _ (.inl rfl) hr
  | more _ hr ih => exact h _ _ (.inr ih) hr
open Classical in
noncomputable def plusL (R : Nat → Nat → Prop) (n a : Nat) : List Bool := (List.range n).map fun x => decide (Plus R a x)
theorem plusL_len : (plusL R n a).length = n := by simp [plusL]
theorem plusL_at {x : Nat} (hx : x < n) : (plusL R n a).getD x false = true ↔ Plus R a x := by
  simp [plusL, List.getD, hx]
theorem bools_ext {s t : List Bool} (hl : s.length = t.length) (h : ∀ x, x < s.length → (s.getD x false = true ↔ t.getD x false = true)) : s = t := by
  refine List.ext_getElem hl fun i h1 h2 => ?_
  have := h i h1
  simp only [List.getD, List.getElem?_eq_getElem h1, List.getElem?_eq_getElem h2, Option.getD_some] at this
  exact Bool.eq_iff_iff.2 this
theorem MarkInv.fin (h : MarkInv R n a t) (hc : Closed R a t) : t = plusL R n a :=
  bools_ext (by rw [h.len, plusL_len]) fun x hx => ⟨fun e => (plusL_at (by rw [← h.len]; exact hx)).2 (h.way x e), fun e => hc.plus ((plusL_at (by rw [← h.len]; exact hx)).1 e)⟩
/-- how many are not yet marked. -/
def left (t : List Bool) : Nat := t.count false
theorem left_set {y : Nat} : ∀ {t : List Bool}, y < t.length → t.getD y false = false → left (t.set y true) + 1 = left t := by
  unfold left
  induction y with
  | zero =>
    intro t h hs
    cases t with
    | nil => simp at h
    | cons b r => simp at hs; subst hs; simp
  | succ y ih =>
    intro t h hs
    cases t with
    | nil => simp at h
    | cons b r =>
      have := ih (t := r) (by simpa using h) (by simpa using hs)
      simp only [List.set_cons_succ, List.count_cons] at this ⊢
      omega
theorem left_le : left t ≤ t.length := List.count_le_length
end
theorem own_base {w : World} {B B' e sz n : Nat} {v : Value} {xs : List Value} (h : w.ownsRow B e sz v n xs) (hb : B' ≤ B) : w.ownsRow B' e sz v n xs := by
  obtain ⟨h1, h2⟩ := h
  refine ⟨h1, ?_⟩
  rcases h2 with h2 | ⟨g, cap, cur, hv, hg, r⟩
  · exact .inl h2
  · exact .inr ⟨g, cap, cur, hv, Nat.le_trans hb hg, r⟩
theorem own_bool {w : World} {B e g n cap : Nat} {t : List Bool} (h : w.ownsRow B e 1 (.slice (some ⟨g, 0, none⟩) n cap) n (t.map Value.bool)) {i : Nat} (hi : i < n) : w.cell? ⟨g, i, none⟩ = some (.bool (t.getD i false)) := by
  have hl : t.length = n := by have := h.1; simpa using this
  rw [h.cellAt i (by omega)]
  simp [List.getD, hl, hi]
theorem bool_set {t : List Bool} {i : Nat} {b : Bool} : (t.map Value.bool).set i (.bool b) = (t.set i b).map Value.bool := by rw [List.map_set]
end Go.Proofs.YtenedeaiepjedaaDoor
