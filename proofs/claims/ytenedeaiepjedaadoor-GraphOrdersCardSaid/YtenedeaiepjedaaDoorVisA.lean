/- The reference's walk, depth first, by recursion: the same as the walk with a stack. No program's code in sight. -/
import Derived.Test.YtenedeaiepjedaaDoorWayA
namespace Go.Proofs.YtenedeaiepjedaaDoor
open Go.RowKit

/-- block b, its ends before the k-th done, is left with the marks s' and the blocks o'. -/
inductive Vis (E : Nat → List Nat) : List Bool → List Nat → Nat → Nat → List Bool → List Nat → Prop
  | done {seen : List Bool} {out : List Nat} {b k : Nat} : k = (E b).length → Vis E seen out b k seen (out ++ [b])
  | old {seen : List Bool} {out : List Nat} {b k c : Nat} {s' : List Bool} {o' : List Nat} : k < (E b).length → (E b).getD k 0 = c → seen.getD c false = true → Vis E seen out b (k + 1) s' o' → Vis E seen out b k s' o'
  | new {seen : List Bool} {out : List Nat} {b k c : Nat} {s1 : List Bool} {o1 : List Nat} {s' : List Bool} {o' : List Nat} : k < (E b).length → (E b).getD k 0 = c → seen.getD c false = false →
      Vis E (seen.set c true) out c 0 s1 o1 → Vis E s1 o1 b (k + 1) s' o' → Vis E seen out b k s' o'
section
variable {E : Nat → List Nat} {n : Nat}
theorem Vis.dfs {seen : List Bool} {out : List Nat} {b k : Nat} {s' : List Bool} {o' : List Nat} (h : Vis E seen out b k s' o') : ∃ m, ∀ f r, Go.Proofs.YtenedeaiepjedaaDoor.dfs E (m + f) seen out ((b, k) :: r) = Go.Proofs.YtenedeaiepjedaaDoor.dfs E f s' o' r := by
  induction h with
  | done hk => exact ⟨1, fun f r => by rw [Nat.add_comm 1 f, dfs_pop hk]⟩
  | old hk hc hs _ ih =>
    obtain ⟨m, hm⟩ := ih
    exact ⟨m + 1, fun f r => by rw [show m + 1 + f = (m + f) + 1 by omega, dfs_old (by omega) hc hs, hm]⟩
  | new hk hc hs _ _ ih1 ih2 =>
    obtain ⟨m1, hm1⟩ := ih1
    obtain ⟨m2, hm2⟩ := ih2
    exact ⟨m1 + m2 + 1, fun f r => by rw [show m1 + m2 + 1 + f = (m1 + (m2 + f)) + 1 by omega, dfs_new (by omega) hc hs, hm1, hm2]⟩
theorem Vis.keeps {seen : List Bool} {out : List Nat} {b k : Nat} {s' : List Bool} {o' : List Nat} (h : Vis E seen out b k s' o') : ∀ x, seen.getD x false = true → s'.getD x false = true := by
  induction h with
  | done hk => exact fun x h => h
  | old hk hc hs _ ih => exact ih
  | @new seen out b k c s1 o1 s' o' hk hc hs _ _ ih1 ih2 =>
    refine fun x hx => ih2 x (ih1 x ?_)
    by_cases e : c = x
    · subst e; rw [hs] at hx; cases hx
    · have : (seen.set c true).getD x false = seen.getD x false := by simp [List.getD, List.getElem?_set_ne e]
      rw [this]; exact hx
theorem dfs_more (hE : ∀ v, (E v).length ≤ 2) (hl : ∀ v, v < n → ∀ c ∈ E v, c < n) (j : Nat) : ∀ (f : Nat) (seen : List Bool) (out : List Nat) (stk : List (Nat × Nat)), DfsInv E n seen out stk → frW E stk + 4 * (n - (out.length + stk.length)) ≤ f → dfs E (f + j) seen out stk = dfs E f seen out stk
  | 0, seen, out, stk, h, hf => by
    cases stk with
    | nil => rw [dfs_nil, dfs_nil]
    | cons p r => obtain ⟨b, k⟩ := p; simp [frW] at hf
  | f + 1, seen, out, stk, h, hf => by
    cases stk with
    | nil => rw [dfs_nil, dfs_nil]
    | cons p r =>
      obtain ⟨b, k⟩ := p
      have hb : b < n := by
        rw [← h.len]
        exact getD_true_lt ((h.mem b).2 (.inr (by simp)))
      rw [show f + 1 + j = (f + j) + 1 by omega]
      by_cases hk : k = (E b).length
      · rw [dfs_pop hk, dfs_pop hk]
        refine dfs_more hE hl j f _ _ _ (h.pop hk) ?_
        simp only [frW, List.length_cons, List.length_append, List.length_nil] at hf ⊢
        omega
      · have hle := h.ple (b, k) (by simp)
        have hlt : k < (E b).length := by simp at hle; omega
        obtain ⟨c, hc⟩ : ∃ c, (E b).getD k 0 = c := ⟨_, rfl⟩
        have hcn : c < n := by
          refine hl b hb c ?_
          have : (E b).getD k 0 = (E b)[k] := by simp [hlt]
          rw [← hc, this]
          exact List.getElem_mem hlt
        cases hs : seen.getD c false
        · rw [dfs_new hk hc hs, dfs_new hk hc hs]
          have h' := h.new hk hc hs hcn
          refine dfs_more hE hl j f _ _ _ h' ?_
          have hr := h'.room
          have he := hE c
          have e1 : (E (b, k).1).length = (E b).length := rfl
          simp only [frW, List.length_cons] at hf hr hle ⊢
          omega
        · rw [dfs_old hk hc hs, dfs_old hk hc hs]
          refine dfs_more hE hl j f _ _ _ (h.old hk hc hs) ?_
          simp only [frW, List.length_cons] at hf ⊢
          omega
end
/-- the recursion leaves the blocks as the stack does. -/
theorem Vis.post {F : PFunc} (hT : typedP F = true) {s' : List Bool} {o' : List Nat} (h : Vis (EN F) ((List.replicate F.blocks.length false).set 0 true) [] 0 0 s' o') : o' = postO F := by
  obtain ⟨m, hm⟩ := h.dfs
  have n1 := (shaped_count (typed_shaped hT)).1
  have h1 := hm (4 * F.blocks.length) []
  rw [dfs_nil, Nat.add_comm m, dfs_more (EN_len2 F) (fun v hv => EN_lt hT hv) m _ _ _ _ (DfsInv.start n1) (by have := EN_len2 F 0; simp [frW]; omega)] at h1
  exact h1.symm
/-- the walk's own three pieces of memory: the record, its marks, the blocks left. -/
def VisSt (F : PFunc) (B tw tb ti g gs : Nat) (v0 v1 v2 : Value) (w : World) (seen : List Bool) (out : List Nat) : Prop :=
  ∃ vo, w.ownsRow B tw 5 (.slice (some ⟨g, 0, none⟩) 1 1) 1 [v0, v1, v2, .slice (some ⟨gs, 0, none⟩) F.blocks.length F.blocks.length, vo] ∧
    w.ownsRow B tb 1 (.slice (some ⟨gs, 0, none⟩) F.blocks.length F.blocks.length) F.blocks.length (seen.map Value.bool) ∧
    w.ownsRow B ti 1 vo out.length ((ints out.reverse).map (Value.int .i64))
end Go.Proofs.YtenedeaiepjedaaDoor
