/- The plain laws of LoopDeep: the steps that leave a loop, in the order of both ends; the innermost loop, loop by loop. No program's code in sight. -/
import Derived.Test.YteajnaabbddohaaGreatDoorLpRf
namespace Go.Proofs.YteajnaabbddohaaGreatDoor
open Go.Sort
set_option maxRecDepth 100000

/-- does the step from x to y leave the loop of b? -/
noncomputable def exB (F : PFunc) (b x y : Nat) : Bool := hdB F b && inR F b x && !inR F b y && leads (F.blk x).term (y : Int)
/-- of x, the steps to those below y. -/
noncomputable def exRow (F : PFunc) (b x y : Nat) : List (Int × Int) := ((List.range y).filter (exB F b x)).map fun (z : Nat) => ((x : Int), (z : Int))
/-- of those below x. -/
noncomputable def exAll (F : PFunc) (b x : Nat) : List (Int × Int) := (List.range x).flatMap fun z => exRow F b z F.blocks.length
section
variable {F : PFunc} {b x y n : Nat}
theorem exAll_step : exAll F b (x + 1) = exAll F b x ++ exRow F b x F.blocks.length := by simp [exAll, List.range_succ]
theorem exRow_step : (exRow F b x (y + 1)).length = (exRow F b x y).length + (exB F b x y).toNat := by
  unfold exRow
  rw [List.length_map, List.length_map, List.range_succ, List.filter_append, List.length_append]
  cases e : exB F b x y <;> simp [e]
theorem exAll_pre (hx : x < n) : ∃ r, exAll F b n = exAll F b x ++ exRow F b x F.blocks.length ++ r := by
  obtain ⟨k, rfl⟩ := Nat.le.dest hx
  unfold exAll
  rw [show x.succ + k = (x + 1) + k from rfl, List.range_add, List.range_succ, List.flatMap_append, List.flatMap_append]
  exact ⟨_, by rw [List.flatMap_cons, List.flatMap_nil, List.append_nil]⟩
theorem exAt (hx : x < F.blocks.length) (hy : y < F.blocks.length) (he : exB F b x y = true) : (exAll F b F.blocks.length)[(exAll F b x).length + (exRow F b x y).length]? = some ((x : Int), (y : Int)) := by
  obtain ⟨r, hr⟩ := exAll_pre (b := b) hx
  have h1 : (exRow F b x F.blocks.length)[(exRow F b x y).length]? = some ((x : Int), (y : Int)) := by
    unfold exRow
    rw [List.length_map, List.getElem?_map, filt_at hy he]
    rfl
  have h2 := (List.getElem?_eq_some_iff.1 h1).1
  rw [hr, List.append_assoc, List.getElem?_append_right (by omega), Nat.add_sub_cancel_left, List.getElem?_append_left h2, h1]
theorem exRow_le : (exRow F b x y).length ≤ y := by
  unfold exRow
  rw [List.length_map]
  exact Nat.le_trans (List.length_filter_le _ _) (by simp)
theorem exAll_le : (exAll F b x).length ≤ x * F.blocks.length := by
  induction x with
  | zero => simp [exAll]
  | succ x ih =>
    rw [exAll_step, List.length_append]
    have := exRow_le (F := F) (b := b) (x := x) (y := F.blocks.length)
    rw [Nat.add_mul]
    omega
/-- the exits, sorted, are these. -/
theorem exits_eq (ht : typedP F = true) (_hb : b < F.blocks.length) : sortQ (outL F (hdB F b) (b : Int) (bodyL F (hdB F b) (b : Int) F.blocks.length)) = exAll F b F.blocks.length := by
  cases hd : hdB F b
  · rw [show bodyL F false (b : Int) F.blocks.length = [] from if_neg (by simp)]
    have : exAll F b F.blocks.length = [] := by
      unfold exAll
      rw [List.flatMap_eq_nil_iff]
      intro x _
      unfold exRow
      rw [List.map_eq_nil_iff, List.filter_eq_nil_iff]
      intro y _ he
      unfold exB at he
      rw [hd] at he
      simp at he
    rw [this, show outL F false (b : Int) [] = [] from rfl]
    simp [sortQ]
  rw [bodyL_filt]
  have hsorted : (exAll F b F.blocks.length).Pairwise fun p q => ltOf cfQ p q = true := by
    unfold exAll
    rw [List.pairwise_flatMap]
    constructor
    · intro x _
      unfold exRow
      rw [List.pairwise_map]
      refine (List.Pairwise.filter _ List.pairwise_lt_range).imp fun h => ?_
      rw [ltQ, decide_eq_true_eq]
      exact .inr ⟨rfl, by simpa using h⟩
    · refine List.pairwise_lt_range.imp fun h p hp q hq => ?_
      unfold exRow at hp hq
      obtain ⟨z, _, rfl⟩ := List.mem_map.1 hp
      obtain ⟨z', _, rfl⟩ := List.mem_map.1 hq
      rw [ltQ, decide_eq_true_eq]
      exact .inl (by simpa using h)
  have hnod : (exAll F b F.blocks.length).Nodup := hsorted.imp fun {p q} h e => by
    subst e
    rw [swoQ.irrefl] at h
    cases h
  have hmem : ∀ p, p ∈ outL F true (b : Int) ((List.range F.blocks.length).filter (inR F b)) ↔ p ∈ exAll F b F.blocks.length := fun p => by
    unfold outL exAll
    rw [List.mem_flatMap, List.mem_flatMap]
    constructor
    · rintro ⟨x, hx, hp⟩
      obtain ⟨hx1, hx2⟩ := List.mem_filter.1 hx
      have hxn : x < F.blocks.length := by simpa using hx1
      unfold outJ at hp
      rw [List.take_length] at hp
      obtain ⟨y, hy, rfl⟩ := List.mem_map.1 hp
      obtain ⟨hy1, hy2⟩ := List.mem_filter.1 hy
      have hyn := EN_lt ht hxn y hy1
      refine ⟨x, hx1, List.mem_map.2 ⟨y, List.mem_filter.2 ⟨List.mem_range.2 hyn, ?_⟩, rfl⟩⟩
      have hl := (EN_leads ht hxn).1 hy1
      have h3 : lpB F true (b : Int) (y : Int) = inR F b y := by
        unfold lpB inR
        rw [Int.toNat_natCast, Int.toNat_natCast]
        have : (y : Int) < (F.blocks.length : Int) := by omega
        simp [this]
      rw [h3] at hy2
      unfold exB
      rw [hd, hx2, hl]
      simpa using hy2
    · rintro ⟨x, hx, hp⟩
      have hxn : x < F.blocks.length := by simpa using hx
      unfold exRow at hp
      obtain ⟨y, hy, rfl⟩ := List.mem_map.1 hp
      obtain ⟨hy1, hy2⟩ := List.mem_filter.1 hy
      have hyn : y < F.blocks.length := by simpa using hy1
      unfold exB at hy2
      rw [hd] at hy2
      simp only [Bool.true_and, Bool.and_eq_true] at hy2
      refine ⟨x, List.mem_filter.2 ⟨hx, hy2.1.1⟩, ?_⟩
      unfold outJ
      rw [List.take_length]
      refine List.mem_map.2 ⟨y, List.mem_filter.2 ⟨(EN_leads ht hxn).2 hy2.2, ?_⟩, rfl⟩
      have h3 : lpB F true (b : Int) (y : Int) = inR F b y := by
        unfold lpB inR
        rw [Int.toNat_natCast, Int.toNat_natCast]
        have : (y : Int) < (F.blocks.length : Int) := by omega
        simp [this]
      rw [h3]
      exact hy2.1.2
  have hnod1 : (outL F true (b : Int) ((List.range F.blocks.length).filter (inR F b))).Nodup := by
    unfold outL List.Nodup
    rw [List.pairwise_flatMap]
    constructor
    · intro x hx
      have hxn : x < F.blocks.length := by simpa using (List.mem_filter.1 hx).1
      unfold outJ
      rw [List.take_length, List.pairwise_map]
      refine (List.Pairwise.filter _ (EN_nodup F ht hxn)).imp fun h e => h ?_
      have := congrArg Prod.snd e
      simp only at this
      omega
    · refine (List.Pairwise.filter _ List.pairwise_lt_range).imp fun h p hp q hq e => ?_
      unfold outJ at hp hq
      obtain ⟨z, _, rfl⟩ := List.mem_map.1 hp
      obtain ⟨z', _, rfl⟩ := List.mem_map.1 hq
      simp at e
      omega
  have hs := List.pairwise_mergeSort (le := fun (x y : Int × Int) => !(ltOf cfQ) y x) (fun x y z h1 h2 => by
      simp only [Bool.not_eq_true'] at *
      exact swoQ.ntrans _ _ _ h2 h1) (fun x y => by
      cases h1 : ltOf cfQ y x
      · simp
      · cases h2 : ltOf cfQ x y
        · simp
        · have := swoQ.trans _ _ _ h1 h2
          rw [swoQ.irrefl] at this
          cases this) (outL F true (b : Int) ((List.range F.blocks.length).filter (inR F b)))
  have hp := List.mergeSort_perm (outL F true (b : Int) ((List.range F.blocks.length).filter (inR F b))) (fun (x y : Int × Int) => !(ltOf cfQ) y x)
  have hr : (exAll F b F.blocks.length).Pairwise fun x y => (!(ltOf cfQ) y x) = true := hsorted.imp fun {p q} h => by
    cases h2 : ltOf cfQ q p
    · rfl
    · have := swoQ.trans _ _ _ h h2
      rw [swoQ.irrefl] at this
      cases this
  refine List.Perm.eq_of_pairwise (fun p q _ _ h1 h2 => totQ p q (by simpa using h2) (by simpa using h1)) hs hr (hp.trans ((List.perm_ext_iff_of_nodup hnod1 hnod).2 hmem))
/-- the innermost so far: its size, its head. -/
def innS (f : Nat → Bool) (sz : Nat → Nat) (st : Option (Nat × Nat)) (h : Nat) : Option (Nat × Nat) := if f h = true then (match st with | none => some (sz h, h) | some p => if sz h < p.1 then some (sz h, h) else some p) else st
def innF (f : Nat → Bool) (sz : Nat → Nat) (l : List Nat) : Option (Nat × Nat) := l.foldl (innS f sz) none
theorem innF_snoc {f : Nat → Bool} {sz : Nat → Nat} {l : List Nat} {h : Nat} : innF f sz (l ++ [h]) = innS f sz (innF f sz l) h := by simp [innF]
theorem innF_filter {f p : Nat → Bool} {sz : Nat → Nat} {l : List Nat} : innF f sz (l.filter p) = innF (fun h => p h && f h) sz l := by
  unfold innF
  rw [List.foldl_filter]
  congr 1
  funext st h
  unfold innS
  dsimp only
  by_cases h1 : p h = true
  · rw [if_pos h1]
    by_cases h2 : f h = true
    · rw [if_pos h2, if_pos (by rw [h1, h2]; rfl)]
    · rw [if_neg h2, if_neg (by rw [h1, Bool.true_and]; exact h2)]
  · rw [if_neg h1, if_neg (by intro e; rw [Bool.and_eq_true] at e; exact h1 e.1)]
/-- how many blocks a loop has. -/
theorem lp_count {h : Nat} : (lpL F (latL F h) h).count true = ((List.range F.blocks.length).filter (inR F h)).length := by
  have hl : lpL F (latL F h) h = (List.range F.blocks.length).map (inR F h) := by
    refine bools_ext (by rw [lpL_len]; simp) fun x hx => ?_
    rw [lpL_len] at hx
    rw [show ((List.range F.blocks.length).map (inR F h)).getD x false = inR F h x by simp [List.getD, hx]]
    exact Iff.rfl
  rw [hl, List.count_eq_countP, List.countP_map, List.countP_eq_length_filter]
  congr 1
  refine List.filter_congr fun x _ => ?_
  show (inR F h x == true) = inR F h x
  cases inR F h x <;> rfl
end
end Go.Proofs.YteajnaabbddohaaGreatDoor
