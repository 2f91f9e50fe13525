/- A region that draws its order, walked in an order of our own, each operation marked: as a look, or as a step that is forced where it stands. No program's code in sight. A region that draws its order, walked as a tree: looks and forced steps in an order of our own; where two steps are open, both ways. No program's code in sight. -/
import Derived.Test.YteajnaabbddohaaGreatDoorSched
namespace Go.Proofs.YteajnaabbddohaaGreatDoor
open Go
section
variable {P : Program} {ops : Array Oper} {Q : Exit → Act → World → Prop} {S : World → Prop}
def wpSchF (P : Program) (ops : Array Oper) (Q : Exit → Act → World → Prop) (S : World → Prop) : List (Oper × Bool) → Act → World → Prop
  | [], a, w => Q .normal a w
  | (o, fl) :: l, a, w =>
    if Region.wanted o (yielded ops a.tmps) = true then
      (if fl = true then o.wp P a w (fun a' w' => S w' ∧ wpSchF P ops Q S l a' w') Q else o.quiet P a (fun w' => ∃ x : WS S, w' = x.w) (fun a' => wpSchF P ops Q S l a' w))
    else wpSchF P ops Q S l (a.put o.dst undef) w
def schedF (md : Region.Mode) (ops : Array Oper) : List (Nat × Bool) → Array Bool → Bool
  | [], listed => (Region.ready md ops listed).isEmpty
  | (i, fl) :: l, listed => (match ops[i]? with
    | none => false
    | some o => if fl then Region.ready md ops listed == [i] else !effOp o && Region.free md ops listed i && (Region.ready md ops listed).contains i) && schedF md ops l (listed.setIfInBounds i true)
theorem wpSchF_sound {md : Region.Mode} (hs : Region.noSelect ops = true) (hQ : ∀ c a (d : Tmp) v w, Q (.panic c) (Act.put a (some d) v) w → Q (.panic c) a w) :
    ∀ (l : List (Nat × Bool)) (L : List (Oper × Bool)) (listed : Array Bool) (a : Act) (w : World), l.map (fun i => (ops[i.1]?, i.2)) = L.map (fun o => (some o.1, o.2)) → schedF md ops l listed = true → S w → wpSchF P ops Q S L a w → wpAnyH P md ops Q S l.length listed a w
  | [], L, listed, a, w, hL, hB, hS, h => by
    cases L with
    | cons o L => simp at hL
    | nil => exact ⟨by simpa [schedF] using hB, h⟩
  | (i, fl) :: l, L, listed, a, w, hL, hB, hS, h => by
    cases L with
    | nil => simp at hL
    | cons o L =>
      obtain ⟨o, fo⟩ := o
      simp only [List.map_cons, List.cons.injEq, Prod.mk.injEq] at hL
      obtain ⟨⟨hi, rfl⟩, hL⟩ := hL
      simp only [schedF, hi, Bool.and_eq_true] at hB
      obtain ⟨hB0, hB1⟩ := hB
      unfold wpSchF at h
      cases fl with
      | false =>
        simp only [Bool.false_eq_true, if_false, Bool.and_eq_true, Bool.not_eq_true'] at h hB0
        by_cases hw : Region.wanted o (yielded ops a.tmps) = true
        · rw [if_pos hw] at h
          obtain ⟨v, hy, hK⟩ := yieldsIf_of_quiet hB0.1.1 hw h
          exact wpAnyH_take hi hs hB0.1.2 hB0.2 (panic_put hQ) hy hS (wpSchF_sound hs hQ l L _ _ _ hL hB1 hS hK)
        · rw [if_neg hw] at h
          exact wpAnyH_take hi hs hB0.1.2 hB0.2 (panic_put hQ) (.inr ⟨by simpa using hw, rfl⟩) hS (wpSchF_sound hs hQ l L _ _ _ hL hB1 hS h)
      | true =>
        simp only [if_true, beq_iff_eq] at h hB0
        refine wpAnyH_all hB0 (by simp) (fun j hj => ?_)
        obtain rfl : j = i := by simpa using hj
        unfold wpOp
        simp only [hi]
        by_cases hw : Region.wanted o (yielded ops a.tmps) = true
        · rw [if_pos hw] at h
          rw [if_pos hw]
          exact .inl (Oper.wp_mono (fun a' w' h' => ⟨h'.1, wpSchF_sound hs hQ l L _ _ _ hL hB1 h'.1 h'.2⟩) h)
        · rw [if_neg hw] at h
          rw [if_neg hw]
          exact ⟨hS, wpSchF_sound hs hQ l L _ _ _ hL hB1 hS h⟩
theorem wp_region_schedF {id : Nat} {a : Act} {w : World} {l : List Oper} (sch : List (Nat × Bool)) (hm : P.follows .mixedOrders = true)
    (hB : (Region.noSelect l.toArray && schedF .any l.toArray sch (Array.replicate l.length false) && (sch.length == l.length) && sch.all (fun i => decide (i.1 < l.length))) = true)
    (hQ : ∀ c a (d : Tmp) v w, Q (.panic c) (Act.put a (some d) v) w → Q (.panic c) a w)
    (hS : S w.drew) (h : S w.drew → wpSchF P l.toArray Q S (sch.map fun i => (l.getD i.1 default, i.2)) a w.drew) : (Code.region id l.toArray true).wp P Q a w := by
  simp only [Bool.and_eq_true, beq_iff_eq] at hB
  obtain ⟨⟨⟨h1, h2⟩, h3⟩, h4⟩ := hB
  have hL : sch.map (fun i => (l.toArray[i.1]?, i.2)) = (sch.map fun i => (l.getD i.1 default, i.2)).map (fun o => (some o.1, o.2)) := by
    rw [List.map_map]
    refine List.map_congr_left fun i hi => ?_
    have : i.1 < l.length := by simpa using List.all_eq_true.1 h4 i hi
    simp [this]
  refine wp_region_held (S := S) hm ?_
  have := wpSchF_sound (md := .any) h1 hQ sch _ _ a w.drew hL h2 hS (h hS)
  rw [h3] at this
  simpa using this
theorem wpSchF_looks {a : Act} {w : World} {L1 L2 : List (Oper × Bool)} : ∀ (_ : L1.all (fun o => !o.2) = true) (_ : wpQuiet P ops (fun w' => ∃ x : WS S, w' = x.w) (fun a' => wpSchF P ops Q S L2 a' w) (L1.map (·.1)) a), wpSchF P ops Q S (L1 ++ L2) a w := by
  induction L1 generalizing a with
  | nil => intro _ h; exact h
  | cons o l ih =>
    obtain ⟨o, fl⟩ := o
    intro he h
    simp only [List.all_cons, Bool.and_eq_true, Bool.not_eq_true'] at he
    show wpSchF P ops Q S ((o, fl) :: (l ++ L2)) a w
    unfold wpSchF
    simp only [List.map_cons] at h
    unfold wpQuiet at h
    rw [he.1]
    by_cases hw : Region.wanted o (yielded ops a.tmps) = true
    · rw [if_pos hw] at h
      rw [if_pos hw, if_neg (by decide)]
      exact Oper.quiet_mono (fun a' h' => ih (by simpa using he.2) h') h
    · rw [if_neg hw] at h
      rw [if_neg hw]
      exact ih (by simpa using he.2) h
theorem wpSchF_act {a : Act} {w : World} {o : Oper} {L : List (Oper × Bool)} (hw : Region.wanted o (yielded ops a.tmps) = true)
    (h : ∀ K : Act → World → Prop, Shut (∀ a w, S w → (S w → wpSchF P ops Q S L a w) → K a w) → o.wp P a w K Q) : wpSchF P ops Q S ((o, true) :: L) a w := by
  unfold wpSchF
  rw [if_pos hw, if_pos rfl]
  exact h _ (fun a w h1 h2 => ⟨h1, h2 h1⟩)
theorem wpSchF_pass {a : Act} {w : World} {o : Oper} {fl : Bool} {L : List (Oper × Bool)} (hw : Region.wanted o (yielded ops a.tmps) = false) (h : wpSchF P ops Q S L (a.put o.dst undef) w) : wpSchF P ops Q S ((o, fl) :: L) a w := by
  unfold wpSchF
  rw [if_neg (by rw [hw]; decide)]
  exact h
theorem wpSchF_nil {a : Act} {w : World} (h : Q .normal a w) : wpSchF P ops Q S [] a w := h
end
end Go.Proofs.YteajnaabbddohaaGreatDoor
namespace Go.Proofs.YteajnaabbddohaaGreatDoor
open Go
section
variable {P : Program} {ops : Array Oper} {Q : Exit → Act → World → Prop} {S : World → Prop}
def wpSchR (P : Program) (ops : Array Oper) (Q : Exit → Act → World → Prop) (S : World → Prop) (R : Act → World → Prop) : List (Oper × Bool) → Act → World → Prop
  | [], a, w => R a w
  | (o, fl) :: l, a, w =>
    if Region.wanted o (yielded ops a.tmps) = true then
      (if fl = true then o.wp P a w (fun a' w' => S w' ∧ wpSchR P ops Q S R l a' w') Q else o.quiet P a (fun w' => ∃ x : WS S, w' = x.w) (fun a' => wpSchR P ops Q S R l a' w))
    else wpSchR P ops Q S R l (a.put o.dst undef) w
def schedR (md : Region.Mode) (ops : Array Oper) : List (Nat × Bool) → Array Bool → Bool
  | [], _ => true
  | (i, fl) :: l, listed => (match ops[i]? with
    | none => false
    | some o => if fl then Region.ready md ops listed == [i] else !effOp o && Region.free md ops listed i && (Region.ready md ops listed).contains i) && schedR md ops l (listed.setIfInBounds i true)
def listedR : List (Nat × Bool) → Array Bool → Array Bool
  | [], listed => listed
  | i :: l, listed => listedR l (listed.setIfInBounds i.1 true)
theorem wpSchR_sound {md : Region.Mode} {fuel : Nat} (hs : Region.noSelect ops = true) (hQ : ∀ c a (d : Tmp) v w, Q (.panic c) (Act.put a (some d) v) w → Q (.panic c) a w) :
    ∀ (l : List (Nat × Bool)) (L : List (Oper × Bool)) (listed : Array Bool) (a : Act) (w : World), l.map (fun i => (ops[i.1]?, i.2)) = L.map (fun o => (some o.1, o.2)) → schedR md ops l listed = true → S w →
      wpSchR P ops Q S (fun a w => S w → wpAnyH P md ops Q S fuel (listedR l listed) a w) L a w → wpAnyH P md ops Q S (l.length + fuel) listed a w
  | [], L, listed, a, w, hL, hB, hS, h => by
    cases L with
    | cons o L => simp at hL
    | nil =>
      rw [show ([] : List (Nat × Bool)).length + fuel = fuel by simp]
      exact h hS
  | (i, fl) :: l, L, listed, a, w, hL, hB, hS, h => by
    cases L with
    | nil => simp at hL
    | cons o L =>
      obtain ⟨o, fo⟩ := o
      simp only [List.map_cons, List.cons.injEq, Prod.mk.injEq] at hL
      obtain ⟨⟨hi, rfl⟩, hL⟩ := hL
      simp only [schedR, hi, Bool.and_eq_true] at hB
      obtain ⟨hB0, hB1⟩ := hB
      unfold wpSchR at h
      rw [show ((i, fl) :: l).length + fuel = (l.length + fuel) + 1 by simp; omega]
      cases fl with
      | false =>
        simp only [Bool.false_eq_true, if_false, Bool.and_eq_true, Bool.not_eq_true'] at h hB0
        by_cases hw : Region.wanted o (yielded ops a.tmps) = true
        · rw [if_pos hw] at h
          obtain ⟨v, hy, hK⟩ := yieldsIf_of_quiet hB0.1.1 hw h
          exact wpAnyH_take hi hs hB0.1.2 hB0.2 (panic_put hQ) hy hS (wpSchR_sound hs hQ l L _ _ _ hL hB1 hS hK)
        · rw [if_neg hw] at h
          exact wpAnyH_take hi hs hB0.1.2 hB0.2 (panic_put hQ) (.inr ⟨by simpa using hw, rfl⟩) hS (wpSchR_sound hs hQ l L _ _ _ hL hB1 hS h)
      | true =>
        simp only [if_true, beq_iff_eq] at h hB0
        refine wpAnyH_all hB0 (by simp) (fun j hj => ?_)
        obtain rfl : j = i := by simpa using hj
        unfold wpOp
        simp only [hi]
        by_cases hw : Region.wanted o (yielded ops a.tmps) = true
        · rw [if_pos hw] at h
          rw [if_pos hw]
          exact .inl (Oper.wp_mono (fun a' w' h' => ⟨h'.1, wpSchR_sound hs hQ l L _ _ _ hL hB1 h'.1 h'.2⟩) h)
        · rw [if_neg hw] at h
          rw [if_neg hw]
          exact ⟨hS, wpSchR_sound hs hQ l L _ _ _ hL hB1 hS h⟩
/-- the begin of a tree. -/
theorem wp_region_tree {id : Nat} {a : Act} {w : World} {l : List Oper} (hm : P.follows .mixedOrders = true) (hS : S w.drew)
    (h : S w.drew → wpAnyH P .any l.toArray Q S l.length (Array.replicate l.length false) a w.drew) : (Code.region id l.toArray true).wp P Q a w := by
  refine wp_region_held (S := S) hm ?_
  have := h hS
  simpa using this
/-- so many steps in the order 'sch'. -/
theorem wpTree_run {md : Region.Mode} {a : Act} {w : World} {l : List Oper} {n : Nat} {listed : Array Bool} (sch : List (Nat × Bool)) (fuel : Nat) (hn : sch.length + fuel = n)
    (hB : (Region.noSelect l.toArray && schedR md l.toArray sch listed && sch.all (fun i => decide (i.1 < l.length))) = true)
    (hQ : ∀ c a (d : Tmp) v w, Q (.panic c) (Act.put a (some d) v) w → Q (.panic c) a w) (hS : S w)
    (h : wpSchR P l.toArray Q S (fun a w => S w → wpAnyH P md l.toArray Q S fuel (listedR sch listed) a w) (sch.map fun i => (l.getD i.1 default, i.2)) a w) : wpAnyH P md l.toArray Q S n listed a w := by
  simp only [Bool.and_eq_true] at hB
  obtain ⟨⟨h1, h2⟩, h4⟩ := hB
  have hL : sch.map (fun i => (l.toArray[i.1]?, i.2)) = (sch.map fun i => (l.getD i.1 default, i.2)).map (fun o => (some o.1, o.2)) := by
    rw [List.map_map]
    refine List.map_congr_left fun i hi => ?_
    have : i.1 < l.length := by simpa using List.all_eq_true.1 h4 i hi
    simp [this]
  subst hn
  exact wpSchR_sound h1 hQ sch _ _ _ _ hL h2 hS h
/-- two steps are open: both ways. -/
theorem wpTree_fork {md : Region.Mode} {a : Act} {w : World} {l : List Oper} {n : Nat} {listed : Array Bool} (i j fuel : Nat) (hn : fuel + 1 = n)
    (hB : (Region.ready md l.toArray listed == [i, j] && decide (i < l.length) && decide (j < l.length)) = true) (hS : S w)
    (h1 : wpSchR P l.toArray Q S (fun a w => S w → wpAnyH P md l.toArray Q S fuel (listed.setIfInBounds i true) a w) [(l.getD i default, true)] a w)
    (h2 : wpSchR P l.toArray Q S (fun a w => S w → wpAnyH P md l.toArray Q S fuel (listed.setIfInBounds j true) a w) [(l.getD j default, true)] a w) : wpAnyH P md l.toArray Q S n listed a w := by
  simp only [Bool.and_eq_true, beq_iff_eq, decide_eq_true_eq] at hB
  obtain ⟨⟨hr, hi⟩, hj⟩ := hB
  subst hn
  have key : ∀ k, k < l.length → wpSchR P l.toArray Q S (fun a w => S w → wpAnyH P md l.toArray Q S fuel (listed.setIfInBounds k true) a w) [(l.getD k default, true)] a w →
      wpOp P l.toArray Q k (fun a' w' => S w' ∧ wpAnyH P md l.toArray Q S fuel (listed.setIfInBounds k true) a' w') a w := by
    intro k hk h
    unfold wpOp
    have hg : l.toArray[k]? = some (l.getD k default) := by simp [hk]
    simp only [hg]
    unfold wpSchR at h
    by_cases hw : Region.wanted (l.getD k default) (yielded l.toArray a.tmps) = true
    · rw [if_pos hw, if_pos rfl] at h
      rw [if_pos hw]
      refine .inl (Oper.wp_mono (fun a' w' h' => ?_) h)
      obtain ⟨h3, h4⟩ := h'
      unfold wpSchR at h4
      exact ⟨h3, h4 h3⟩
    · rw [if_neg hw] at h
      rw [if_neg hw]
      unfold wpSchR at h
      exact ⟨hS, h hS⟩
  refine wpAnyH_all hr (by simp) (fun k hk => ?_)
  simp only [List.mem_cons, List.mem_nil_iff, or_false] at hk
  rcases hk with rfl | rfl
  · exact key _ hi h1
  · exact key _ hj h2
theorem wpTree_end {md : Region.Mode} {a : Act} {w : World} {listed : Array Bool} (hB : (Region.ready md ops listed).isEmpty = true) (h : Q .normal a w) : wpAnyH P md ops Q S 0 listed a w := ⟨by simpa using hB, h⟩
theorem wpSchR_looks {R : Act → World → Prop} {a : Act} {w : World} {L1 L2 : List (Oper × Bool)} : ∀ (_ : L1.all (fun o => !o.2) = true) (_ : wpQuiet P ops (fun w' => ∃ x : WS S, w' = x.w) (fun a' => wpSchR P ops Q S R L2 a' w) (L1.map (·.1)) a), wpSchR P ops Q S R (L1 ++ L2) a w := by
  induction L1 generalizing a with
  | nil => intro _ h; exact h
  | cons o l ih =>
    obtain ⟨o, fl⟩ := o
    intro he h
    simp only [List.all_cons, Bool.and_eq_true, Bool.not_eq_true'] at he
    show wpSchR P ops Q S R ((o, fl) :: (l ++ L2)) a w
    unfold wpSchR
    simp only [List.map_cons] at h
    unfold wpQuiet at h
    rw [he.1]
    by_cases hw : Region.wanted o (yielded ops a.tmps) = true
    · rw [if_pos hw] at h
      rw [if_pos hw, if_neg (by decide)]
      exact Oper.quiet_mono (fun a' h' => ih (by simpa using he.2) h') h
    · rw [if_neg hw] at h
      rw [if_neg hw]
      exact ih (by simpa using he.2) h
theorem wpSchR_act {R : Act → World → Prop} {a : Act} {w : World} {o : Oper} {L : List (Oper × Bool)} (hw : Region.wanted o (yielded ops a.tmps) = true)
    (h : ∀ K : Act → World → Prop, Shut (∀ a w, S w → (S w → wpSchR P ops Q S R L a w) → K a w) → o.wp P a w K Q) : wpSchR P ops Q S R ((o, true) :: L) a w := by
  unfold wpSchR
  rw [if_pos hw, if_pos rfl]
  exact h _ (fun a w h1 h2 => ⟨h1, h2 h1⟩)
theorem wpSchR_pass {R : Act → World → Prop} {a : Act} {w : World} {o : Oper} {fl : Bool} {L : List (Oper × Bool)} (hw : Region.wanted o (yielded ops a.tmps) = false) (h : wpSchR P ops Q S R L (a.put o.dst undef) w) : wpSchR P ops Q S R ((o, fl) :: L) a w := by
  unfold wpSchR
  rw [if_neg (by rw [hw]; decide)]
  exact h
theorem wpSchR_nil {R : Act → World → Prop} {a : Act} {w : World} (h : R a w) : wpSchR P ops Q S R [] a w := h
end
end Go.Proofs.YteajnaabbddohaaGreatDoor
