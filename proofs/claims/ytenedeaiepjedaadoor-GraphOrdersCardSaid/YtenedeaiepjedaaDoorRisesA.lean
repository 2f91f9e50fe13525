/- The plain law of GraphRises: where each block stands in the order. No program's code in sight. -/
import Derived.Test.YtenedeaiepjedaaDoorGraph
namespace Go.Proofs.YtenedeaiepjedaaDoor
open Go.RowKit
set_option maxRecDepth 100000

/-- the places of so many of the order's blocks, from 1 on; 0: none. -/
def atRow (N : Nat) (l : List Nat) : Nat → List Nat
  | 0 => List.replicate N 0
  | n + 1 => (atRow N l n).set (l.getD n 0) (n + 1)
theorem atRow_len {N : Nat} {l : List Nat} : ∀ n, (atRow N l n).length = N
  | 0 => by simp [atRow]
  | n + 1 => by rw [atRow, List.length_set, atRow_len n]
theorem atRow_le {N : Nat} {l : List Nat} {b : Nat} : ∀ n, (atRow N l n).getD b 0 ≤ n
  | 0 => by simp [atRow, List.getD, List.getElem?_replicate]; split <;> simp
  | n + 1 => by
    have ih := atRow_le (N := N) (l := l) (b := b) n
    rw [atRow, List.getD, List.getElem?_set]
    split
    · split
      · simp
      · simp
    · rw [← List.getD_eq_getElem?_getD]; omega
theorem atRow_zero {N : Nat} {l : List Nat} {b : Nat} : ∀ n, n ≤ l.length → (b ∉ l.take n) → (atRow N l n).getD b 0 = 0
  | 0, _, _ => by simp [atRow, List.getD, List.getElem?_replicate]; split <;> simp
  | n + 1, hn, h => by
    rw [List.take_succ_eq_append_getElem (by omega)] at h
    simp only [List.mem_append, List.mem_singleton, not_or] at h
    have hg : l.getD n 0 = l[n] := by simp [List.getD, show n < l.length by omega]
    rw [atRow, hg, List.getD, List.getElem?_set_ne (fun e => h.2 e.symm), ← List.getD_eq_getElem?_getD]
    exact atRow_zero n (by omega) h.1
theorem atRow_at {N : Nat} {l : List Nat} (hnd : l.Nodup) (hlt : ∀ x ∈ l, x < N) : ∀ n, n ≤ l.length → ∀ i (hi : i < l.length), i < n → (atRow N l n).getD l[i] 0 = i + 1
  | 0, _, i, _, h => absurd h (Nat.not_lt_zero _)
  | n + 1, hn, i, hi, h => by
    have hg : l.getD n 0 = l[n]'(by omega) := by simp [List.getD, show n < l.length by omega]
    rw [atRow, hg]
    by_cases e : i = n
    · subst e
      have : l[i] < (atRow N l i).length := by rw [atRow_len]; exact hlt _ (List.getElem_mem hi)
      simp [List.getD, List.getElem?_set_self this]
    · have hne : l[n]'(by omega) ≠ l[i] := fun e' => e ((List.getElem_inj hnd).1 e').symm
      rw [List.getD, List.getElem?_set_ne hne, ← List.getD_eq_getElem?_getD]
      exact atRow_at hnd hlt n (by omega) i hi (by omega)
theorem parOk_at {E : Nat → List Nat} : ∀ {out : List Nat}, ParOk E [] out → ∀ i (hi : i < out.length), out[i] = 0 ∨ ∃ j, ∃ hj : j < out.length, i < j ∧ out[i] ∈ E out[j]
  | v :: post, ⟨h1, h2⟩, 0, _ => by
    rcases h1 with h | ⟨p, hp, h | h⟩
    · exact .inl h
    · cases h
    · obtain ⟨k, hk, rfl⟩ := List.mem_iff_getElem.1 h
      exact .inr ⟨k + 1, by simp; exact hk, by omega, by simpa using hp⟩
  | v :: post, ⟨h1, h2⟩, i + 1, hi => by
    rcases parOk_at h2 i (by simpa using hi) with h | ⟨j, hj, h3, h4⟩
    · exact .inl (by simpa using h)
    · exact .inr ⟨j + 1, by simp; exact hj, by omega, by simpa using h4⟩
theorem pw_symm : ∀ {l : List Nat}, l.Pairwise (fun a b => a ≠ b) → l.Pairwise (fun a b => b ≠ a)
  | [], _ => .nil
  | _ :: _, h => by
    rw [List.pairwise_cons] at h ⊢
    exact ⟨fun x hx e => h.1 x hx e.symm, pw_symm h.2⟩
theorem nodup_rev {l : List Nat} (h : l.Nodup) : l.reverse.Nodup := by
  unfold List.Nodup at *
  rw [List.pairwise_reverse]
  exact pw_symm h
section
variable {E : Nat → List Nat} {N : Nat} {out : List Nat}
/-- the place of a block. -/
def pl (N : Nat) (l : List Nat) (b : Nat) : Nat := (atRow N l l.length).getD b 0
theorem pl_pos (h : DfsFin E N out) {b : Nat} : 0 < pl N out.reverse b ↔ b ∈ out := by
  have hnd : out.reverse.Nodup := nodup_rev h.nod
  constructor
  · intro hp
    by_cases hb : b ∈ out
    · exact hb
    · unfold pl at hp
      rw [atRow_zero _ (Nat.le_refl _) (by rw [List.take_length]; simpa using hb)] at hp
      exact absurd hp (Nat.lt_irrefl _)
  · intro hb
    obtain ⟨i, hi, rfl⟩ := List.mem_iff_getElem.1 (List.mem_reverse.2 hb)
    unfold pl
    rw [atRow_at hnd (fun x hx => h.lt x (List.mem_reverse.1 hx)) _ (Nat.le_refl _) i hi hi]
    omega
theorem pl_before (h : DfsFin E N out) {b : Nat} (hb : b ∈ out) : b = 0 ∨ ∃ a, a ∈ out ∧ b ∈ E a ∧ pl N out.reverse a < pl N out.reverse b := by
  have hnd : out.reverse.Nodup := nodup_rev h.nod
  have hlt : ∀ x ∈ out.reverse, x < N := fun x hx => h.lt x (List.mem_reverse.1 hx)
  obtain ⟨i, hi, rfl⟩ := List.mem_iff_getElem.1 hb
  rcases parOk_at h.par i hi with h0 | ⟨j, hj, hij, he⟩
  · exact .inl h0
  · refine .inr ⟨out[j], List.getElem_mem hj, he, ?_⟩
    have key : ∀ k (hk : k < out.length), pl N out.reverse out[k] = out.length - k := by
      intro k hk
      have h1 := atRow_at hnd hlt _ (Nat.le_refl _) (out.length - 1 - k) (by simp; omega) (by simp; omega)
      rw [List.getElem_reverse] at h1
      have e : out.length - 1 - (out.length - 1 - k) = k := by omega
      simp only [e] at h1
      unfold pl
      rw [h1]
      omega
    rw [key i hi, key j hj]
    omega
theorem pl_led (h : DfsFin E N out) {b : Nat} : (b = 0 ∨ ∃ a, a ∈ out ∧ b ∈ E a) ↔ b ∈ out := by
  constructor
  · rintro (rfl | ⟨a, ha, hb⟩)
    · have := h.last
      exact List.mem_of_getLast? this
    · exact h.clo a ha b hb
  · intro hb
    rcases pl_before h hb with h0 | ⟨a, ha, he, _⟩
    · exact .inl h0
    · exact .inr ⟨a, ha, he⟩
end
theorem EN_leads {F : PFunc} (h : typedP F = true) {a b : Nat} (ha : a < F.blocks.length) : b ∈ EN F a ↔ leads (F.blk a).term (b : Int) = true := by
  rw [← endsOf_leads, EN_ints h ha]
  unfold ints
  simp only [List.mem_map]
  constructor
  · intro hb; exact ⟨b, hb, rfl⟩
  · rintro ⟨c, hc, he⟩
    have : c = b := by simp at he; omega
    rw [← this]; exact hc
theorem EN_out {F : PFunc} {a : Nat} (ha : ¬ a < F.blocks.length) : EN F a = [(0 : Nat)] := by
  unfold EN PFunc.blk
  rw [List.getD_eq_getElem?_getD, List.getElem?_eq_none (by omega)]
  rfl
theorem post_fin {F : PFunc} (h : typedP F = true) : DfsFin (EN F) F.blocks.length (postO F) :=
  DfsFin.start (EN_len2 F) (fun _ hv c hc => EN_lt h hv c hc) (shaped_count (typed_shaped h)).1
/-- is block b led to, by those below a? -/
def ledB (F : PFunc) (b a : Nat) : Bool := decide (b = 0) || (List.range a).any fun x => leads (F.blk x).term (b : Int) && decide (0 < pl F.blocks.length (postO F).reverse x)
def behB (F : PFunc) (b a : Nat) : Bool := decide (b = 0) || (List.range a).any fun x => leads (F.blk x).term (b : Int) && decide (0 < pl F.blocks.length (postO F).reverse x) && decide (pl F.blocks.length (postO F).reverse x < pl F.blocks.length (postO F).reverse b)
theorem led_step {F : PFunc} {b a : Nat} : ledB F b (a + 1) = (ledB F b a || (leads (F.blk a).term (b : Int) && decide (0 < pl F.blocks.length (postO F).reverse a))) := by
  unfold ledB
  rw [List.range_succ, List.any_append, Bool.or_assoc]
  simp
theorem beh_step {F : PFunc} {b a : Nat} : behB F b (a + 1) = (behB F b a || (leads (F.blk a).term (b : Int) && decide (0 < pl F.blocks.length (postO F).reverse a) && decide (pl F.blocks.length (postO F).reverse a < pl F.blocks.length (postO F).reverse b))) := by
  unfold behB
  rw [List.range_succ, List.any_append, Bool.or_assoc]
  simp
theorem led_end {F : PFunc} (h : typedP F = true) {b : Nat} : ledB F b F.blocks.length = decide (0 < pl F.blocks.length (postO F).reverse b) := by
  have fin := post_fin h
  rw [Bool.eq_iff_iff]
  unfold ledB
  simp only [Bool.or_eq_true, decide_eq_true_eq, List.any_eq_true, List.mem_range, Bool.and_eq_true, pl_pos fin]
  rw [← pl_led fin]
  constructor
  · rintro (h0 | ⟨x, hx, h1, h2⟩)
    · exact .inl h0
    · exact .inr ⟨x, h2, (EN_leads h hx).2 h1⟩
  · rintro (h0 | ⟨x, h2, h1⟩)
    · exact .inl h0
    · exact .inr ⟨x, fin.lt x h2, (EN_leads h (fin.lt x h2)).1 h1, h2⟩
theorem beh_end {F : PFunc} (h : typedP F = true) {b : Nat} (hb : 0 < pl F.blocks.length (postO F).reverse b) : behB F b F.blocks.length = true := by
  have fin := post_fin h
  unfold behB
  simp only [Bool.or_eq_true, decide_eq_true_eq, List.any_eq_true, List.mem_range, Bool.and_eq_true]
  rcases pl_before fin ((pl_pos fin).1 hb) with h0 | ⟨a, ha, he, hl⟩
  · exact .inl h0
  · exact .inr ⟨a, fin.lt a ha, ⟨(EN_leads h (fin.lt a ha)).1 he, (pl_pos fin).2 ha⟩, hl⟩
theorem post_head {F : PFunc} (h : typedP F = true) : ∃ r, (postO F).reverse = 0 :: r := by
  have := (post_fin h).last
  rw [List.getLast?_eq_head?_reverse] at this
  cases hr : (postO F).reverse with
  | nil => rw [hr] at this; simp at this
  | cons a r => rw [hr] at this; simp at this; subst this; exact ⟨r, rfl⟩
end Go.Proofs.YtenedeaiepjedaaDoor
