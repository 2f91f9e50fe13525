/- Where each block stands in the order. No program's code in sight. -/
import Derived.Test.YteajnaabbddohaaGreatDoorData
namespace Go.Proofs.YteajnaabbddohaaGreatDoor
open Go.RowKit
set_option maxRecDepth 100000

theorem getD_get {α : Type} {l : List α} {i : Nat} (h : i < l.length) (d : α) : l.getD i d = l[i] := by simp [h]
/-- the places of so many of the order's blocks, from 1 on; 0: none. -/
def atRow (N : Nat) (l : List Nat) : Nat → List Nat
  | 0 => List.replicate N 0
  | n + 1 => (atRow N l n).set (l.getD n 0) (n + 1)
theorem atRow_len {N : Nat} {l : List Nat} : ∀ n, (atRow N l n).length = N
  | 0 => by simp [atRow]
  | n + 1 => by rw [atRow, List.length_set, atRow_len n]
theorem atRow_le {N : Nat} {l : List Nat} {b : Nat} : ∀ n, (atRow N l n).getD b 0 ≤ n
  | 0 => by simp [atRow, List.getD, List.getElem?_replicate]; split <;> simp
  | n + 1 => by
    have ih := atRow_le (N := N) (l := l) (b := b) n
    rw [atRow, List.getD, List.getElem?_set]
    split
    · split
      · simp
      · simp
    · rw [← List.getD_eq_getElem?_getD]; omega
theorem atRow_zero {N : Nat} {l : List Nat} {b : Nat} : ∀ n, n ≤ l.length → (b ∉ l.take n) → (atRow N l n).getD b 0 = 0
  | 0, _, _ => by simp [atRow, List.getD, List.getElem?_replicate]; split <;> simp
  | n + 1, hn, h => by
    rw [List.take_succ_eq_append_getElem (by omega)] at h
    simp only [List.mem_append, List.mem_singleton, not_or] at h
    have hg : l.getD n 0 = l[n] := by simp [List.getD, show n < l.length by omega]
    rw [atRow, hg, List.getD, List.getElem?_set_ne (fun e => h.2 e.symm), ← List.getD_eq_getElem?_getD]
    exact atRow_zero n (by omega) h.1
theorem atRow_at {N : Nat} {l : List Nat} (hnd : l.Nodup) (hlt : ∀ x ∈ l, x < N) : ∀ n, n ≤ l.length → ∀ i (hi : i < l.length), i < n → (atRow N l n).getD l[i] 0 = i + 1
  | 0, _, i, _, h => absurd h (Nat.not_lt_zero _)
  | n + 1, hn, i, hi, h => by
    have hg : l.getD n 0 = l[n]'(by omega) := by simp [List.getD, show n < l.length by omega]
    rw [atRow, hg]
    by_cases e : i = n
    · subst e
      have : l[i] < (atRow N l i).length := by rw [atRow_len]; exact hlt _ (List.getElem_mem hi)
      simp [List.getD, List.getElem?_set_self this]
    · have hne : l[n]'(by omega) ≠ l[i] := fun e' => e ((List.getElem_inj hnd).1 e').symm
      rw [List.getD, List.getElem?_set_ne hne, ← List.getD_eq_getElem?_getD]
      exact atRow_at hnd hlt n (by omega) i hi (by omega)
theorem pw_symm : ∀ {l : List Nat}, l.Pairwise (fun a b => a ≠ b) → l.Pairwise (fun a b => b ≠ a)
  | [], _ => .nil
  | _ :: _, h => by
    rw [List.pairwise_cons] at h ⊢
    exact ⟨fun x hx e => h.1 x hx e.symm, pw_symm h.2⟩
theorem nodup_rev {l : List Nat} (h : l.Nodup) : l.reverse.Nodup := by
  unfold List.Nodup at *
  rw [List.pairwise_reverse]
  exact pw_symm h
/-- the place of a block. -/
def pl (N : Nat) (l : List Nat) (b : Nat) : Nat := (atRow N l l.length).getD b 0
end Go.Proofs.YteajnaabbddohaaGreatDoor
