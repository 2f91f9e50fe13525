/- graph.Way: does a way go from a block to a block? -/
import Derived.Test.YtenedeaiepjedaaDoorReach
import Derived.Test.YtenedeaiepjedaaDoorPreds
namespace Go.Proofs.YtenedeaiepjedaaDoor
open Go.RowKit
set_option maxRecDepth 100000

structure WayInv (R : Nat → Nat → Prop) (n a : Nat) (t : List Bool) (s : List Nat) : Prop where
  inv : MarkInv R n a t
  mem : ∀ z ∈ s, (z = a ∨ t.getD z false = true) ∧ z < n
  clo : ∀ z y, (z = a ∨ t.getD z false = true) → z ∉ s → R z y → t.getD y false = true
structure WayMid (R : Nat → Nat → Prop) (n a x : Nat) (es : List Nat) (k : Nat) (t : List Bool) (s : List Nat) : Prop where
  inv : MarkInv R n a t
  mem : ∀ z ∈ s, (z = a ∨ t.getD z false = true) ∧ z < n
  xok : x = a ∨ t.getD x false = true
  clo : ∀ z y, (z = a ∨ t.getD z false = true) → z ∉ s → z ≠ x → R z y → t.getD y false = true
  pre : ∀ y ∈ es.take k, t.getD y false = true
section
variable {R : Nat → Nat → Prop} {n a x k c : Nat} {es s : List Nat} {t : List Bool}
theorem WayInv.start (ha : a < n) : WayInv R n a (List.replicate n false) [a] :=
  ⟨MarkInv.start, fun z hz => by simp at hz; exact ⟨.inl hz, by omega⟩, fun z y hz hn hr => by
    rcases hz with e | e
    · exact (hn (by simp [e])).elim
    · have := (MarkInv.start (R := fun _ _ => False) (n := n) (a := a)).way z e
      exact (by cases this <;> assumption : False).elim⟩
theorem WayInv.pop (h : WayInv R n a t (s ++ [x])) : WayMid R n a x es 0 t s :=
  ⟨h.inv, fun z hz => h.mem z (by simp [hz]), (h.mem x (by simp)).1, fun z y hz hn hx hr => h.clo z y hz (by simp [hn, hx]) hr, fun y hy => by simp at hy⟩
theorem WayMid.old (h : WayMid R n a x es k t s) (hk : k < es.length) (hs : t.getD (es.getD k 0) false = true) : WayMid R n a x es (k + 1) t s :=
  ⟨h.inv, h.mem, h.xok, h.clo, fun y hy => by
    rw [List.take_succ_eq_append_getElem hk, List.mem_append, List.mem_singleton] at hy
    rcases hy with hy | hy
    · exact h.pre y hy
    · rw [hy]; rwa [getD_get hk] at hs⟩
theorem WayMid.new (h : WayMid R n a x es k t s) (hk : k < es.length) (hc : es.getD k 0 = c) (hcn : c < n) (hr : R x c) : WayMid R n a x es (k + 1) (t.set c true) (s ++ [c]) := by
  have hl : c < t.length := by rw [h.inv.len]; exact hcn
  have hup : ∀ z, (z = a ∨ t.getD z false = true) → (z = a ∨ (t.set c true).getD z false = true) := fun z hz => by
    rcases hz with e | e
    · exact .inl e
    · exact .inr ((getD_set_true hl).2 (.inr e))
  refine ⟨h.inv.set h.xok hr hcn, fun z hz => ?_, hup x h.xok, fun z y hz hn hx hr' => ?_, fun y hy => ?_⟩
  · rcases List.mem_append.1 hz with hz | hz
    · exact ⟨hup z (h.mem z hz).1, (h.mem z hz).2⟩
    · simp at hz; subst hz; exact ⟨.inr ((getD_set_true hl).2 (.inl rfl)), hcn⟩
  · simp at hn
    refine (getD_set_true hl).2 (.inr (h.clo z y ?_ hn.1 hx hr'))
    rcases hz with e | e
    · exact .inl e
    · rcases (getD_set_true hl).1 e with e | e
      · exact (hn.2 e).elim
      · exact .inr e
  · rw [List.take_succ_eq_append_getElem hk, List.mem_append, List.mem_singleton] at hy
    rcases hy with hy | hy
    · exact (getD_set_true hl).2 (.inr (h.pre y hy))
    · exact (getD_set_true hl).2 (.inl (by rw [hy, ← hc, getD_get hk]))
theorem WayMid.fin (h : WayMid R n a x es es.length t s) (hR : ∀ y, R x y → y ∈ es) : WayInv R n a t s :=
  ⟨h.inv, h.mem, fun z y hz hn hr => by
    by_cases e : z = x
    · subst e; exact h.pre y (by simpa using hR y hr)
    · exact h.clo z y hz hn e hr⟩
theorem WayInv.done (h : WayInv R n a t []) : t = plusL R n a := h.inv.fin fun z y hz hr => h.clo z y hz (by simp) hr
end
theorem own_pop1 {w : World} {base e g cap m : Nat} {xs : List Value} {u : Value} (h : w.ownsRow base e 1 (.slice (some ⟨g, 0, none⟩) (m + 1) cap) (m + 1) (xs ++ [u])) :
    w.ownsRow base e 1 (.slice (some ⟨g, 0, none⟩) m cap) m xs := by
  obtain ⟨h1, h2⟩ := h
  have hm : xs.length = m := by simp at h1; omega
  rcases h2 with ⟨h0, _⟩ | ⟨g', cap', cur, hv, hg, hh, hn, hcap, hsz, htake⟩
  · cases h0
  · cases hv
    refine ⟨by omega, .inr ⟨g, cap, cur, rfl, hg, hh, by omega, hcap, hsz, ?_⟩⟩
    have h3 : (cur.toList.take ((m + 1) * 1)).take (m * 1) = (xs ++ [u]).take (m * 1) := by rw [htake]
    rw [List.take_take, Nat.min_eq_left (by omega)] at h3
    rw [h3, ← hm]
    simp
theorem wayNo_calls {W w : World} {fv : Value} {F : PFunc} (hU : Uni W) (hF : FnV W W.heap.size fv F) (hW : Below W.heap.size W w) (hS : Small F) (a b : Int) (hno : typedP F = false ∨ a < 0 ∨ (F.blocks.length : Int) ≤ a ∨ b < 0 ∨ (F.blocks.length : Int) ≤ b) :
    Calls Tryd.prog 14 #[fv, .int .i64 a, .int .i64 b] w fun e w' => e = .returned (.bool false) ∧ Below w.heap.size w w' := by
  have hr := fun (w : World) (h : Below W.heap.size W w) => right_calls hU hF h hS
  have hWs := hW.size
  obtain ⟨A0, c0, A1, c1, A2, c2, rfl, l0, l1, l2, -⟩ := id hF.open_
  unfold Len at *
  cases hT : typedP F
  · rw [hT] at hr
    clear hno hT
    go_enter Tryd.func14, Tryd.ntmps14
    go_wp2_with (go_at_call 20; refine (hr _ (by (focus repeat (first | assumption | exact Below.refl _ _ | refine Below.drew ?_ | refine Below.alloc ?_ (by first | omega | exact Below.size (by assumption) | (simp; done) | (simp; omega)) _ | refine Below.setCell ?_ (by first | omega | exact Below.size (by assumption) | (simp; done) | (simp; omega)) _ | refine below_setRow ?_ (by first | omega | exact Below.size (by assumption) | (simp; done) | (simp; omega)) _ | (refine Below.trans ?_ (Below.mono (by assumption) ?_); rotate_left; exact (by first | omega | exact Below.size (by assumption) | (simp; done) | (simp; omega))))))).mono ?_; (rintro e w1 ⟨rfl, hb1⟩; obtain ⟨hc1, hf1⟩ := bcell hb1; have hz1 := hb1.size; try simp at hz1; try have hy1 := Nat.lt_of_succ_le hz1; try have hx1 := Nat.lt_of_succ_lt hy1; try have hw1 := Nat.lt_of_succ_lt hx1))
    go_ret
    exact ⟨rfl, by (focus repeat (first | assumption | exact Below.refl _ _ | refine Below.drew ?_ | refine Below.alloc ?_ (by first | omega | exact Below.size (by assumption) | (simp; done) | (simp; omega)) _ | refine Below.setCell ?_ (by first | omega | exact Below.size (by assumption) | (simp; done) | (simp; omega)) _ | refine below_setRow ?_ (by first | omega | exact Below.size (by assumption) | (simp; done) | (simp; omega)) _ | (refine Below.trans ?_ (Below.mono (by assumption) ?_); rotate_left; exact (by first | omega | exact Below.size (by assumption) | (simp; done) | (simp; omega)))))⟩
  rw [hT] at hr
  by_cases h1 : a < 0
  · clear hno hT
    go_enter Tryd.func14, Tryd.ntmps14
    go_wp2_with (go_at_call 20; refine (hr _ (by (focus repeat (first | assumption | exact Below.refl _ _ | refine Below.drew ?_ | refine Below.alloc ?_ (by first | omega | exact Below.size (by assumption) | (simp; done) | (simp; omega)) _ | refine Below.setCell ?_ (by first | omega | exact Below.size (by assumption) | (simp; done) | (simp; omega)) _ | refine below_setRow ?_ (by first | omega | exact Below.size (by assumption) | (simp; done) | (simp; omega)) _ | (refine Below.trans ?_ (Below.mono (by assumption) ?_); rotate_left; exact (by first | omega | exact Below.size (by assumption) | (simp; done) | (simp; omega))))))).mono ?_; (rintro e w1 ⟨rfl, hb1⟩; obtain ⟨hc1, hf1⟩ := bcell hb1; have hz1 := hb1.size; try simp at hz1; try have hy1 := Nat.lt_of_succ_le hz1; try have hx1 := Nat.lt_of_succ_lt hy1; try have hw1 := Nat.lt_of_succ_lt hx1))
    go_ret
    exact ⟨rfl, by (focus repeat (first | assumption | exact Below.refl _ _ | refine Below.drew ?_ | refine Below.alloc ?_ (by first | omega | exact Below.size (by assumption) | (simp; done) | (simp; omega)) _ | refine Below.setCell ?_ (by first | omega | exact Below.size (by assumption) | (simp; done) | (simp; omega)) _ | refine below_setRow ?_ (by first | omega | exact Below.size (by assumption) | (simp; done) | (simp; omega)) _ | (refine Below.trans ?_ (Below.mono (by assumption) ?_); rotate_left; exact (by first | omega | exact Below.size (by assumption) | (simp; done) | (simp; omega)))))⟩
  by_cases h2 : a < (F.blocks.length : Int)
  case neg =>
    clear hno hT
    go_enter Tryd.func14, Tryd.ntmps14
    go_wp2_with (go_at_call 20; refine (hr _ (by (focus repeat (first | assumption | exact Below.refl _ _ | refine Below.drew ?_ | refine Below.alloc ?_ (by first | omega | exact Below.size (by assumption) | (simp; done) | (simp; omega)) _ | refine Below.setCell ?_ (by first | omega | exact Below.size (by assumption) | (simp; done) | (simp; omega)) _ | refine below_setRow ?_ (by first | omega | exact Below.size (by assumption) | (simp; done) | (simp; omega)) _ | (refine Below.trans ?_ (Below.mono (by assumption) ?_); rotate_left; exact (by first | omega | exact Below.size (by assumption) | (simp; done) | (simp; omega))))))).mono ?_; (rintro e w1 ⟨rfl, hb1⟩; obtain ⟨hc1, hf1⟩ := bcell hb1; have hz1 := hb1.size; try simp at hz1; try have hy1 := Nat.lt_of_succ_le hz1; try have hx1 := Nat.lt_of_succ_lt hy1; try have hw1 := Nat.lt_of_succ_lt hx1))
    go_ret
    exact ⟨rfl, by (focus repeat (first | assumption | exact Below.refl _ _ | refine Below.drew ?_ | refine Below.alloc ?_ (by first | omega | exact Below.size (by assumption) | (simp; done) | (simp; omega)) _ | refine Below.setCell ?_ (by first | omega | exact Below.size (by assumption) | (simp; done) | (simp; omega)) _ | refine below_setRow ?_ (by first | omega | exact Below.size (by assumption) | (simp; done) | (simp; omega)) _ | (refine Below.trans ?_ (Below.mono (by assumption) ?_); rotate_left; exact (by first | omega | exact Below.size (by assumption) | (simp; done) | (simp; omega)))))⟩
  by_cases h3 : b < 0
  · clear hno hT
    go_enter Tryd.func14, Tryd.ntmps14
    go_wp2_with (go_at_call 20; refine (hr _ (by (focus repeat (first | assumption | exact Below.refl _ _ | refine Below.drew ?_ | refine Below.alloc ?_ (by first | omega | exact Below.size (by assumption) | (simp; done) | (simp; omega)) _ | refine Below.setCell ?_ (by first | omega | exact Below.size (by assumption) | (simp; done) | (simp; omega)) _ | refine below_setRow ?_ (by first | omega | exact Below.size (by assumption) | (simp; done) | (simp; omega)) _ | (refine Below.trans ?_ (Below.mono (by assumption) ?_); rotate_left; exact (by first | omega | exact Below.size (by assumption) | (simp; done) | (simp; omega))))))).mono ?_; (rintro e w1 ⟨rfl, hb1⟩; obtain ⟨hc1, hf1⟩ := bcell hb1; have hz1 := hb1.size; try simp at hz1; try have hy1 := Nat.lt_of_succ_le hz1; try have hx1 := Nat.lt_of_succ_lt hy1; try have hw1 := Nat.lt_of_succ_lt hx1))
    go_ret
    exact ⟨rfl, by (focus repeat (first | assumption | exact Below.refl _ _ | refine Below.drew ?_ | refine Below.alloc ?_ (by first | omega | exact Below.size (by assumption) | (simp; done) | (simp; omega)) _ | refine Below.setCell ?_ (by first | omega | exact Below.size (by assumption) | (simp; done) | (simp; omega)) _ | refine below_setRow ?_ (by first | omega | exact Below.size (by assumption) | (simp; done) | (simp; omega)) _ | (refine Below.trans ?_ (Below.mono (by assumption) ?_); rotate_left; exact (by first | omega | exact Below.size (by assumption) | (simp; done) | (simp; omega)))))⟩
  have h4 : ¬ b < (F.blocks.length : Int) := by
    rw [hT] at hno
    simp at hno
    omega
  clear hno hT
  go_enter Tryd.func14, Tryd.ntmps14
  go_wp2_with (go_at_call 20; refine (hr _ (by (focus repeat (first | assumption | exact Below.refl _ _ | refine Below.drew ?_ | refine Below.alloc ?_ (by first | omega | exact Below.size (by assumption) | (simp; done) | (simp; omega)) _ | refine Below.setCell ?_ (by first | omega | exact Below.size (by assumption) | (simp; done) | (simp; omega)) _ | refine below_setRow ?_ (by first | omega | exact Below.size (by assumption) | (simp; done) | (simp; omega)) _ | (refine Below.trans ?_ (Below.mono (by assumption) ?_); rotate_left; exact (by first | omega | exact Below.size (by assumption) | (simp; done) | (simp; omega))))))).mono ?_; (rintro e w1 ⟨rfl, hb1⟩; obtain ⟨hc1, hf1⟩ := bcell hb1; have hz1 := hb1.size; try simp at hz1; try have hy1 := Nat.lt_of_succ_le hz1; try have hx1 := Nat.lt_of_succ_lt hy1; try have hw1 := Nat.lt_of_succ_lt hx1))
  go_ret
  exact ⟨rfl, by (focus repeat (first | assumption | exact Below.refl _ _ | refine Below.drew ?_ | refine Below.alloc ?_ (by first | omega | exact Below.size (by assumption) | (simp; done) | (simp; omega)) _ | refine Below.setCell ?_ (by first | omega | exact Below.size (by assumption) | (simp; done) | (simp; omega)) _ | refine below_setRow ?_ (by first | omega | exact Below.size (by assumption) | (simp; done) | (simp; omega)) _ | (refine Below.trans ?_ (Below.mono (by assumption) ?_); rotate_left; exact (by first | omega | exact Below.size (by assumption) | (simp; done) | (simp; omega)))))⟩
end Go.Proofs.YtenedeaiepjedaaDoor
