/- The graph of a typed program, by its order and its rows of what leads where. No program's code in sight. -/
import Derived.Test.YtcjodjmmojbigaaGreatDoorAbove
import Derived.Test.YtcjodjmmojbigaaGreatDoorWays
namespace Go.Proofs.YtcjodjmmojbigaaGreatDoor
open Go.RowKit

theorem mem_predRow {F : PFunc} {a b : Nat} : ∀ {i : Nat}, a ∈ predRow F b i ↔ a < i ∧ leads (F.blk a).term (b : Int) = true
  | 0 => by simp [predRow]
  | i + 1 => by
    have ih := mem_predRow (F := F) (a := a) (b := b) (i := i)
    rw [predRow]
    by_cases hl : leads (F.blk i).term (b : Int) = true
    · rw [if_pos hl, List.mem_append, ih, List.mem_singleton]
      constructor
      · rintro (⟨h1, h2⟩ | rfl)
        · exact ⟨by omega, h2⟩
        · exact ⟨by omega, hl⟩
      · rintro ⟨h1, h2⟩
        rcases Nat.lt_succ_iff_lt_or_eq.1 h1 with h | h
        · exact .inl ⟨h, h2⟩
        · exact .inr h
    · rw [if_neg hl, ih]
      constructor
      · rintro ⟨h1, h2⟩
        exact ⟨by omega, h2⟩
      · rintro ⟨h1, h2⟩
        rcases Nat.lt_succ_iff_lt_or_eq.1 h1 with h | h
        · exact ⟨h, h2⟩
        · subst h; exact absurd h2 hl
/-- the blocks that lead to b. -/
def PR (F : PFunc) (b : Nat) : List Nat := predRow F b F.blocks.length
theorem mem_PR {F : PFunc} (h : typedP F = true) {a b : Nat} : a ∈ PR F b ↔ a < F.blocks.length ∧ b ∈ EN F a := by
  unfold PR
  rw [mem_predRow]
  constructor
  · rintro ⟨h1, h2⟩; exact ⟨h1, (EN_leads h h1).2 h2⟩
  · rintro ⟨h1, h2⟩; exact ⟨h1, (EN_leads h h1).1 h2⟩
theorem PR_row {F : PFunc} (h : typedP F = true) {b : Nat} (hb : b < F.blocks.length) : (predsOf F).getD b [] = ints (PR F b) := predsF_row h hb _ (Nat.le_refl _)
theorem PR_len {F : PFunc} (b : Nat) : (PR F b).length ≤ F.blocks.length := predRow_le _
/-- the order. -/
def OR (F : PFunc) : List Nat := (postO F).reverse
theorem nodup_len : ∀ (n : Nat) (l : List Nat), l.Nodup → (∀ x ∈ l, x < n) → l.length ≤ n
  | 0, l, _, hl => by
    cases l with
    | nil => simp
    | cons x r => exact absurd (hl x (by simp)) (Nat.not_lt_zero _)
  | n + 1, l, hn, hl => by
    by_cases hm : n ∈ l
    · have ih := nodup_len n (l.erase n) (hn.erase n) (fun x hx => by
        have h1 := hl x (List.mem_of_mem_erase hx)
        have h2 : x ≠ n := fun e => by subst e; exact (hn.not_mem_erase) hx
        omega)
      rw [List.length_erase_of_mem hm] at ih
      omega
    · have ih := nodup_len n l hn (fun x hx => by
        have h1 := hl x hx
        have h2 : x ≠ n := fun e => by subst e; exact hm hx
        omega)
      omega
theorem gr_of {F : PFunc} (h : typedP F = true) : GrOk F.blocks.length (OR F) (PR F) := by
  have fin := post_fin h
  have hlt : ∀ x ∈ OR F, x < F.blocks.length := fun x hx => fin.lt x (List.mem_reverse.1 hx)
  refine ⟨post_head h, nodup_rev fin.nod, hlt, fun b a ha => ((mem_PR h).1 ha).1, fun {a b} ha hp => List.mem_reverse.2 (fin.clo a (List.mem_reverse.1 ha) b ((mem_PR h).1 hp).2), fun {b} hb h0 => ?_⟩
  rcases pl_before fin (List.mem_reverse.1 hb) with e | ⟨a, h1, h2, h3⟩
  · exact absurd e h0
  · exact ⟨a, List.mem_reverse.2 h1, (mem_PR h).2 ⟨fin.lt a h1, h2⟩, h3⟩
theorem OR_len {F : PFunc} (h : typedP F = true) : (OR F).length ≤ F.blocks.length := nodup_len _ _ (gr_of h).nod (gr_of h).lt
end Go.Proofs.YtcjodjmmojbigaaGreatDoor
