/- A region that draws its order, walked in an order of our own, each operation marked: as a look, or as a step that is forced where it stands. No program's code in sight. -/
import Derived.Test.YtjijlmddalbkbaaGreatDoorSched
namespace Go.Proofs.YtjijlmddalbkbaaGreatDoor
open Go
section
variable {P : Program} {ops : Array Oper} {Q : Exit → Act → World → Prop} {S : World → Prop}
def wpSchF (P : Program) (ops : Array Oper) (Q : Exit → Act → World → Prop) (S : World → Prop) : List (Oper × Bool) → Act → World → Prop
  | [], a, w => Q .normal a w
  | (o, fl) :: l, a, w =>
    if Region.wanted o (yielded ops a.tmps) = true then
      (if fl = true then o.wp P a w (fun a' w' => S w' ∧ wpSchF P ops Q S l a' w') Q else o.quiet P a (fun w' => ∃ x : WS S, w' = x.w) (fun a' => wpSchF P ops Q S l a' w))
    else wpSchF P ops Q S l (a.put o.dst undef) w
def schedF (md : Region.Mode) (ops : Array Oper) : List (Nat × Bool) → Array Bool → Bool
  | [], listed => (Region.ready md ops listed).isEmpty
  | (i, fl) :: l, listed => (match ops[i]? with
    | none => false
    | some o => if fl then Region.ready md ops listed == [i] else !effOp o && Region.free md ops listed i && (Region.ready md ops listed).contains i) && schedF md ops l (listed.setIfInBounds i true)
theorem wpSchF_sound {md : Region.Mode} (hs : Region.noSelect ops = true) (hQ : ∀ c a (d : Tmp) v w, Q (.panic c) (Act.put a (some d) v) w → Q (.panic c) a w) :
    ∀ (l : List (Nat × Bool)) (L : List (Oper × Bool)) (listed : Array Bool) (a : Act) (w : World), l.map (fun i => (ops[i.1]?, i.2)) = L.map (fun o => (some o.1, o.2)) → schedF md ops l listed = true → S w → wpSchF P ops Q S L a w → wpAnyH P md ops Q S l.length listed a w
  | [], L, listed, a, w, hL, hB, hS, h => by
    cases L with
    | cons o L => simp at hL
    | nil => exact ⟨by simpa [schedF] using hB, h⟩
  | (i, fl) :: l, L, listed, a, w, hL, hB, hS, h => by
    cases L with
    | nil => simp at hL
    | cons o L =>
      obtain ⟨o, fo⟩ := o
      simp only [List.map_cons, List.cons.injEq, Prod.mk.injEq] at hL
      obtain ⟨⟨hi, rfl⟩, hL⟩ := hL
      simp only [schedF, hi, Bool.and_eq_true] at hB
      obtain ⟨hB0, hB1⟩ := hB
      unfold wpSchF at h
      cases fl with
      | false =>
        simp only [Bool.false_eq_true, if_false, Bool.and_eq_true, Bool.not_eq_true'] at h hB0
        by_cases hw : Region.wanted o (yielded ops a.tmps) = true
        · rw [if_pos hw] at h
          obtain ⟨v, hy, hK⟩ := yieldsIf_of_quiet hB0.1.1 hw h
          exact wpAnyH_take hi hs hB0.1.2 hB0.2 (panic_put hQ) hy hS (wpSchF_sound hs hQ l L _ _ _ hL hB1 hS hK)
        · rw [if_neg hw] at h
          exact wpAnyH_take hi hs hB0.1.2 hB0.2 (panic_put hQ) (.inr ⟨by simpa using hw, rfl⟩) hS (wpSchF_sound hs hQ l L _ _ _ hL hB1 hS h)
      | true =>
        simp only [if_true, beq_iff_eq] at h hB0
        refine wpAnyH_all hB0 (by simp) (fun j hj => ?_)
        obtain rfl : j = i := by simpa using hj
        unfold wpOp
        simp only [hi]
        by_cases hw : Region.wanted o (yielded ops a.tmps) = true
        · rw [if_pos hw] at h
          rw [if_pos hw]
          exact .inl (Oper.wp_mono (fun a' w' h' => ⟨h'.1, wpSchF_sound hs hQ l L _ _ _ hL hB1 h'.1 h'.2⟩) h)
        · rw [if_neg hw] at h
          rw [if_neg hw]
          exact ⟨hS, wpSchF_sound hs hQ l L _ _ _ hL hB1 hS h⟩
theorem wp_region_schedF {id : Nat} {a : Act} {w : World} {l : List Oper} (sch : List (Nat × Bool)) (hm : P.follows .mixedOrders = true)
    (hB : (Region.noSelect l.toArray && schedF .any l.toArray sch (Array.replicate l.length false) && (sch.length == l.length) && sch.all (fun i => decide (i.1 < l.length))) = true)
    (hQ : ∀ c a (d : Tmp) v w, Q (.panic c) (Act.put a (some d) v) w → Q (.panic c) a w)
    (hS : S w.drew) (h : S w.drew → wpSchF P l.toArray Q S (sch.map fun i => (l.getD i.1 default, i.2)) a w.drew) : (Code.region id l.toArray true).wp P Q a w := by
  simp only [Bool.and_eq_true, beq_iff_eq] at hB
  obtain ⟨⟨⟨h1, h2⟩, h3⟩, h4⟩ := hB
  have hL : sch.map (fun i => (l.toArray[i.1]?, i.2)) = (sch.map fun i => (l.getD i.1 default, i.2)).map (fun o => (some o.1, o.2)) := by
    rw [List.map_map]
    refine List.map_congr_left fun i hi => ?_
    have : i.1 < l.length := by simpa using List.all_eq_true.1 h4 i hi
    simp [this]
  refine wp_region_held (S := S) hm ?_
  have := wpSchF_sound (md := .any) h1 hQ sch _ _ a w.drew hL h2 hS (h hS)
  rw [h3] at this
  simpa using this
theorem wpSchF_looks {a : Act} {w : World} {L1 L2 : List (Oper × Bool)} : ∀ (_ : L1.all (fun o => !o.2) = true) (_ : wpQuiet P ops (fun w' => ∃ x : WS S, w' = x.w) (fun a' => wpSchF P ops Q S L2 a' w) (L1.map (·.1)) a), wpSchF P ops Q S (L1 ++ L2) a w := by
  induction L1 generalizing a with
  | nil => intro _ h; exact h
  | cons o l ih =>
    obtain ⟨o, fl⟩ := o
    intro he h
    simp only [List.all_cons, Bool.and_eq_true, Bool.not_eq_true'] at he
    show wpSchF P ops Q S ((o, fl) :: (l ++ L2)) a w
    unfold wpSchF
    simp only [List.map_cons] at h
    unfold wpQuiet at h
    rw [he.1]
    by_cases hw : Region.wanted o (yielded ops a.tmps) = true
    · rw [if_pos hw] at h
      rw [if_pos hw, if_neg (by decide)]
      exact Oper.quiet_mono (fun a' h' => ih (by simpa using he.2) h') h
    · rw [if_neg hw] at h
      rw [if_neg hw]
      exact ih (by simpa using he.2) h
theorem wpSchF_act {a : Act} {w : World} {o : Oper} {L : List (Oper × Bool)} (hw : Region.wanted o (yielded ops a.tmps) = true)
    (h : ∀ K : Act → World → Prop, Shut (∀ a w, S w → (S w → wpSchF P ops Q S L a w) → K a w) → o.wp P a w K Q) : wpSchF P ops Q S ((o, true) :: L) a w := by
  unfold wpSchF
  rw [if_pos hw, if_pos rfl]
  exact h _ (fun a w h1 h2 => ⟨h1, h2 h1⟩)
theorem wpSchF_pass {a : Act} {w : World} {o : Oper} {fl : Bool} {L : List (Oper × Bool)} (hw : Region.wanted o (yielded ops a.tmps) = false) (h : wpSchF P ops Q S L (a.put o.dst undef) w) : wpSchF P ops Q S ((o, fl) :: L) a w := by
  unfold wpSchF
  rw [if_neg (by rw [hw]; decide)]
  exact h
theorem wpSchF_nil {a : Act} {w : World} (h : Q .normal a w) : wpSchF P ops Q S [] a w := h
end
end Go.Proofs.YtjijlmddalbkbaaGreatDoor
