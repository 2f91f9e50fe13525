/- The plain law of the walk through a graph, depth first. No program in sight. -/
import Derived.Test.YteajnaabbddohaaGreatDoorStack
namespace Go.Proofs.YteajnaabbddohaaGreatDoor
/-- each frame's block is led to by the one below; the bottom one is block 0. -/
def ChainOk (E : Nat → List Nat) : List Nat → Prop
  | [] => True
  | [x] => x = 0
  | c :: b :: r => c ∈ E b ∧ ChainOk E (b :: r)
/-- each block that is left, but 0, is led to by one that is left later, or stands still. -/
def ParOk (E : Nat → List Nat) (S : List Nat) : List Nat → Prop
  | [] => True
  | v :: post => (v = 0 ∨ ∃ p, v ∈ E p ∧ (p ∈ S ∨ p ∈ post)) ∧ ParOk E S post
theorem ParOk.mono {E : Nat → List Nat} {S S' : List Nat} (h : ∀ x, x ∈ S → x ∈ S') : ∀ {l}, ParOk E S l → ParOk E S' l
  | [], _ => trivial
  | _ :: _, ⟨h1, h2⟩ => ⟨by
      rcases h1 with h1 | ⟨p, a, b | b⟩
      · exact .inl h1
      · exact .inr ⟨p, a, .inl (h p b)⟩
      · exact .inr ⟨p, a, .inr b⟩, ParOk.mono h h2⟩
theorem ParOk.pop {E : Nat → List Nat} {S : List Nat} {b : Nat} (hb : b = 0 ∨ ∃ p, b ∈ E p ∧ p ∈ S) : ∀ {l}, ParOk E (b :: S) l → ParOk E S (l ++ [b])
  | [], _ => ⟨by
      rcases hb with h | ⟨p, h1, h2⟩
      · exact .inl h
      · exact .inr ⟨p, h1, .inl h2⟩, trivial⟩
  | v :: post, ⟨h1, h2⟩ => ⟨by
      rcases h1 with h1 | ⟨p, a, b | b⟩
      · exact .inl h1
      · rcases List.mem_cons.1 b with b | b
        · exact .inr ⟨p, a, .inr (by subst b; simp)⟩
        · exact .inr ⟨p, a, .inl b⟩
      · exact .inr ⟨p, a, .inr (by simp [b])⟩, ParOk.pop hb h2⟩
structure DfsInv (E : Nat → List Nat) (n : Nat) (seen : List Bool) (out : List Nat) (stk : List (Nat × Nat)) : Prop where
  len : seen.length = n
  cnt : seen.count true = out.length + stk.length
  nod : (out ++ stk.map (·.1)).Nodup
  mem : ∀ v, seen.getD v false = true ↔ v ∈ out ∨ v ∈ stk.map (·.1)
  clo : ∀ v ∈ out, ∀ c ∈ E v, seen.getD c false = true
  pre : ∀ p ∈ stk, ∀ c ∈ (E p.1).take p.2, seen.getD c false = true
  ple : ∀ p ∈ stk, p.2 ≤ (E p.1).length
  top : stk = [] → out.getLast? = some 0
  chn : ChainOk E (stk.map (·.1))
  par : ParOk E (stk.map (·.1)) out
/-- what the walk ends in. -/
structure DfsFin (E : Nat → List Nat) (n : Nat) (out : List Nat) : Prop where
  nod : out.Nodup
  lt : ∀ v ∈ out, v < n
  clo : ∀ v ∈ out, ∀ c ∈ E v, c ∈ out
  last : out.getLast? = some 0
  par : ParOk E [] out
section
variable {E : Nat → List Nat} {n : Nat} {seen : List Bool} {out : List Nat} {r : List (Nat × Nat)} {b k c : Nat}
theorem getD_true_lt {l : List Bool} {v : Nat} (h : l.getD v false = true) : v < l.length := by
  rcases Nat.lt_or_ge v l.length with h' | h'
  · exact h'
  · rw [show l.getD v false = false by simp [List.getD, h']] at h; cases h
theorem getD_set_true {l : List Bool} {c v : Nat} (hc : c < l.length) : (l.set c true).getD v false = true ↔ v = c ∨ l.getD v false = true := by
  by_cases h : c = v
  · subst h; simp [List.getD, hc]
  · have : ¬ v = c := fun e => h e.symm
    simp [List.getD, h, this]
theorem DfsInv.fin (h : DfsInv E n seen out []) : DfsFin E n out := by
  have hm : ∀ v, seen.getD v false = true ↔ v ∈ out := fun v => by simpa using h.mem v
  exact ⟨by simpa using h.nod, fun v hv => by rw [← h.len]; exact getD_true_lt ((hm v).2 hv), fun v hv c hc => (hm c).1 (h.clo v hv c hc), h.top rfl, by simpa using h.par⟩
theorem ChainOk.tail : ∀ {l : List Nat}, ChainOk E (b :: l) → ChainOk E l ∧ (b = 0 ∨ ∃ p, b ∈ E p ∧ p ∈ l) ∧ (l = [] → b = 0)
  | [], h => ⟨trivial, .inl h, fun _ => h⟩
  | _ :: _, h => ⟨h.2, .inr ⟨_, h.1, by simp⟩, fun e => by cases e⟩
theorem DfsInv.pop (h : DfsInv E n seen out ((b, k) :: r)) (hk : k = (E b).length) : DfsInv E n seen (out ++ [b]) r := by
  obtain ⟨c1, c2, c3⟩ := ChainOk.tail (E := E) (b := b) (l := r.map (·.1)) (by simpa using h.chn)
  refine ⟨h.len, by rw [h.cnt]; simp; omega, by simpa using h.nod, fun v => by rw [h.mem v]; simp [or_assoc], ?_, fun p hp => h.pre p (by simp [hp]), fun p hp => h.ple p (by simp [hp]), ?_, c1, ?_⟩
  · intro v hv c hc
    rcases List.mem_append.1 hv with hv | hv
    · exact h.clo v hv c hc
    · simp at hv
      subst hv
      refine h.pre (v, k) (by simp) c ?_
      simpa [hk] using hc
  · intro e
    subst e
    simp [c3 rfl]
  · exact ParOk.pop c2 (by simpa using h.par)
theorem DfsInv.old (h : DfsInv E n seen out ((b, k) :: r)) (hk : k ≠ (E b).length) (hc : (E b).getD k 0 = c) (hs : seen.getD c false = true) : DfsInv E n seen out ((b, k + 1) :: r) := by
  have hle := h.ple (b, k) (by simp)
  have hlt : k < (E b).length := by simp at hle; omega
  refine ⟨h.len, by rw [h.cnt]; simp, by simpa using h.nod, fun v => by rw [h.mem v]; simp, h.clo, fun p hp => ?_, fun p hp => ?_, (fun e => by cases e), by simpa using h.chn, by simpa using h.par⟩
  · rcases List.mem_cons.1 hp with hp | hp
    · subst hp
      intro d hd
      simp only [List.take_succ_eq_append_getElem hlt, List.mem_append, List.mem_singleton] at hd
      rcases hd with hd | hd
      · exact h.pre (b, k) (by simp) d hd
      · subst hd
        have : (E b).getD k 0 = (E b)[k] := by simp [hlt]
        rw [← this, hc]
        exact hs
    · exact h.pre p (by simp [hp])
  · rcases List.mem_cons.1 hp with hp | hp
    · subst hp; exact hlt
    · exact h.ple p (by simp [hp])
theorem DfsInv.new (h : DfsInv E n seen out ((b, k) :: r)) (hk : k ≠ (E b).length) (hc : (E b).getD k 0 = c) (hs : seen.getD c false = false) (hcn : c < n) : DfsInv E n (seen.set c true) out ((c, 0) :: (b, k + 1) :: r) := by
  have hle := h.ple (b, k) (by simp)
  have hlt : k < (E b).length := by simp at hle; omega
  have hget : (E b)[k] = c := by
    have : (E b).getD k 0 = (E b)[k] := by simp [hlt]
    rw [← this, hc]
  have hup : ∀ v, seen.getD v false = true → (seen.set c true).getD v false = true := fun v hv => (getD_set_true (by rw [h.len]; exact hcn)).2 (.inr hv)
  have hcc : (seen.set c true).getD c false = true := (getD_set_true (by rw [h.len]; exact hcn)).2 (.inl rfl)
  have hno : ¬ (c ∈ out ∨ c ∈ ((b, k) :: r).map (·.1)) := fun e => by
    rw [(h.mem c).2 e] at hs
    cases hs
  refine ⟨by rw [List.length_set, h.len], by rw [count_set (by rw [h.len]; exact hcn) hs, h.cnt]; simp; omega, ?_, fun v => ?_, fun v hv d hd => hup d (h.clo v hv d hd), fun p hp => ?_, fun p hp => ?_, (fun e => by cases e), ?_, ParOk.mono (fun x hx => by simp at hx ⊢; exact .inr hx) h.par⟩
  · have hnod := h.nod
    simp only [List.map_cons, List.nodup_append, List.nodup_cons, List.mem_cons] at hnod hno ⊢
    obtain ⟨h1, ⟨h2, h3⟩, h4⟩ := hnod
    refine ⟨h1, ⟨fun e => hno (.inr e), h2, h3⟩, fun x hx y hy => ?_⟩
    rcases hy with hy | hy
    · intro e
      exact hno (.inl (by rw [← hy, ← e]; exact hx))
    · exact h4 x hx y hy
  · rw [getD_set_true (by rw [h.len]; exact hcn), h.mem v]
    simp
    constructor
    · rintro (e | e | e | e)
      · exact .inr (.inl e)
      · exact .inl e
      · exact .inr (.inr (.inl e))
      · exact .inr (.inr (.inr e))
    · rintro (e | e | e | e)
      · exact .inr (.inl e)
      · exact .inl e
      · exact .inr (.inr (.inl e))
      · exact .inr (.inr (.inr e))
  · rcases List.mem_cons.1 hp with hp | hp
    · subst hp; intro d hd; simp at hd
    · rcases List.mem_cons.1 hp with hp | hp
      · subst hp
        intro d hd
        simp only [List.take_succ_eq_append_getElem hlt, List.mem_append, List.mem_singleton] at hd
        rcases hd with hd | hd
        · exact hup d (h.pre (b, k) (by simp) d hd)
        · subst hd; rw [hget]; exact hcc
      · intro d hd; exact hup d (h.pre p (by simp [hp]) d hd)
  · rcases List.mem_cons.1 hp with hp | hp
    · subst hp; exact Nat.zero_le _
    · rcases List.mem_cons.1 hp with hp | hp
      · subst hp; exact hlt
      · exact h.ple p (by simp [hp])
  · exact ⟨by rw [← hget]; exact List.getElem_mem hlt, by simpa using h.chn⟩
theorem DfsInv.room {stk : List (Nat × Nat)} (h : DfsInv E n seen out stk) : out.length + stk.length ≤ n := by
  rw [← h.cnt, ← h.len]; exact List.count_le_length
theorem dfs_fin (hE : ∀ v, (E v).length ≤ 2) (hl : ∀ v, v < n → ∀ c ∈ E v, c < n) : ∀ (f : Nat) (seen : List Bool) (out : List Nat) (stk : List (Nat × Nat)), DfsInv E n seen out stk → frW E stk + 4 * (n - (out.length + stk.length)) ≤ f → DfsFin E n (dfs E f seen out stk)
  | 0, seen, out, stk, h, hf => by
    cases stk with
    | nil => exact h.fin
    | cons p r => obtain ⟨b, k⟩ := p; simp [frW] at hf
  | f + 1, seen, out, stk, h, hf => by
    cases stk with
    | nil => exact h.fin
    | cons p r =>
      obtain ⟨b, k⟩ := p
      have hb : b < n := by
        rw [← h.len]
        exact getD_true_lt ((h.mem b).2 (.inr (by simp)))
      by_cases hk : k = (E b).length
      · rw [dfs_pop hk]
        refine dfs_fin hE hl f _ _ _ (h.pop hk) ?_
        simp only [frW, List.length_cons, List.length_append, List.length_nil] at hf ⊢
        omega
      · have hle := h.ple (b, k) (by simp)
        have hlt : k < (E b).length := by simp at hle; omega
        obtain ⟨c, hc⟩ : ∃ c, (E b).getD k 0 = c := ⟨_, rfl⟩
        have hcn : c < n := by
          refine hl b hb c ?_
          have : (E b).getD k 0 = (E b)[k] := by simp [hlt]
          rw [← hc, this]
          exact List.getElem_mem hlt
        cases hs : seen.getD c false
        · rw [dfs_new hk hc hs]
          have h' := h.new hk hc hs hcn
          refine dfs_fin hE hl f _ _ _ h' ?_
          have hr := h'.room
          have he := hE c
          have e1 : (E (b, k).1).length = (E b).length := rfl
          simp only [frW, List.length_cons] at hf hr hle ⊢
          omega
        · rw [dfs_old hk hc hs]
          refine dfs_fin hE hl f _ _ _ (h.old hk hc hs) ?_
          simp only [frW, List.length_cons] at hf ⊢
          omega
theorem DfsInv.start (hn : 0 < n) : DfsInv E n ((List.replicate n false).set 0 true) [] [(0, 0)] := by
  refine ⟨by simp, ?_, by simp, fun v => ?_, by simp, fun p hp => by simp at hp; subst hp; simp, fun p hp => by simp at hp; subst hp; simp, (fun e => by cases e), rfl, trivial⟩
  · rw [count_set (by simpa using hn) (by cases n <;> simp [List.replicate_succ])]
    simp [List.count_replicate]
  rw [getD_set_true (by simpa using hn)]
  simp [List.getD, List.getElem?_replicate]
  intro h
  split at h <;> simp at h
theorem DfsFin.start (hE : ∀ v, (E v).length ≤ 2) (hl : ∀ v, v < n → ∀ c ∈ E v, c < n) (hn : 0 < n) : DfsFin E n (dfs E (4 * n) ((List.replicate n false).set 0 true) [] [(0, 0)]) := by
  refine dfs_fin hE hl _ _ _ _ (DfsInv.start hn) ?_
  have := hE 0
  simp [frW]
  omega
end
end Go.Proofs.YteajnaabbddohaaGreatDoor
