/- The plain law of GraphEnds: the rows of graph.preds. No program's code in sight. -/
import Derived.Test.YtenedeaiepjedaaDoorRisesA
namespace Go.Proofs.YtenedeaiepjedaaDoor
open Go.RowKit
set_option maxRecDepth 100000

theorem EN_nodup (F : PFunc) (h : typedP F = true) {b : Nat} (hb : b < F.blocks.length) : (EN F b).Nodup := by
  have he := ends_in h hb
  unfold EN
  unfold endsOf at he ⊢
  split
  · simp
  · split
    · split
      · simp
      · rename_i h0 h1 h2
        rw [if_neg h0, if_pos h1, if_neg h2] at he
        have a0 := inB_true (he (F.blk b).term.t0 (by simp))
        have a1 := inB_true (he (F.blk b).term.t1 (by simp))
        simp
        omega
    · simp
theorem fold_row {i b : Nat} : ∀ {l : List Nat} {xss : List (List Int)}, l.Nodup → b < xss.length → (l.foldl (addP i) xss).getD b [] = if b ∈ l then xss.getD b [] ++ [(i : Int)] else xss.getD b []
  | [], xss, _, _ => by simp
  | c :: l, xss, hn, hb => by
    rw [List.nodup_cons] at hn
    rw [List.foldl_cons, fold_row hn.2 (by rw [addP_len]; exact hb)]
    by_cases hc : b = c
    · subst hc
      rw [if_neg hn.1, if_pos (by simp)]
      simp [addP, List.getD, hb]
    · have e : (addP i xss c).getD b [] = xss.getD b [] := by
        unfold addP
        rw [List.getD, List.getElem?_set_ne (fun e => hc e.symm), List.getD]
      rw [e]
      by_cases hl : b ∈ l
      · rw [if_pos hl, if_pos (by simp [hl])]
      · rw [if_neg hl, if_neg (by simp [hl, hc])]
/-- those below i that lead to b. -/
def predRow (F : PFunc) (b : Nat) : Nat → List Nat
  | 0 => []
  | i + 1 => if leads (F.blk i).term (b : Int) = true then predRow F b i ++ [i] else predRow F b i
theorem predsF_row {F : PFunc} (h : typedP F = true) {b : Nat} (hb : b < F.blocks.length) : ∀ i, i ≤ F.blocks.length → (predsF F i).getD b [] = ints (predRow F b i)
  | 0, _ => by simp [predsF, predRow, ints, List.getD, hb]
  | i + 1, hi => by
    have ih := predsF_row h hb i (by omega)
    rw [predsF, fold_row (EN_nodup F h (by omega)) (by rw [predsF_len]; exact hb), ih, predRow]
    by_cases hl : leads (F.blk i).term (b : Int) = true
    · rw [if_pos ((EN_leads h (by omega)).2 hl), if_pos hl]
      simp [ints]
    · rw [if_neg (fun e => hl ((EN_leads h (by omega)).1 e)), if_neg hl]
theorem predRow_prefix {F : PFunc} {b : Nat} : ∀ {i j : Nat}, i ≤ j → ∃ r, predRow F b j = predRow F b i ++ r
  | i, 0, h => ⟨[], by have : i = 0 := by omega
                       subst this; simp⟩
  | i, j + 1, h => by
    by_cases e : i = j + 1
    · subst e; exact ⟨[], by simp⟩
    · obtain ⟨r, hr⟩ := predRow_prefix (F := F) (b := b) (show i ≤ j by omega)
      rw [predRow]
      split
      · exact ⟨r ++ [j], by rw [hr, List.append_assoc]⟩
      · exact ⟨r, hr⟩
theorem predRow_at {F : PFunc} {b i N : Nat} (hi : i < N) (hl : leads (F.blk i).term (b : Int) = true) : (predRow F b i).length < (predRow F b N).length ∧ ith (ints (predRow F b N)) (predRow F b i).length = (i : Int) := by
  obtain ⟨r, hr⟩ := predRow_prefix (F := F) (b := b) (show i + 1 ≤ N by omega)
  rw [predRow, if_pos hl] at hr
  rw [hr]
  constructor
  · simp
  · simp [ith, ints, List.getD]
theorem predRow_le {F : PFunc} {b : Nat} : ∀ i, (predRow F b i).length ≤ i
  | 0 => by simp [predRow]
  | i + 1 => by
    have := predRow_le (F := F) (b := b) i
    rw [predRow]
    split
    · simp; omega
    · omega
end Go.Proofs.YtenedeaiepjedaaDoor
