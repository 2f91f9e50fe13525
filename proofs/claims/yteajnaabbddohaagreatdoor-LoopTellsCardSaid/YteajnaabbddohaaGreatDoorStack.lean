/- Several rows of the program's own in one world; a stack of frames. No program's code in sight. And the walk through a graph, depth first, with its stack. -/
import Derived.Test.YteajnaabbddohaaGreatDoorEnds
import Derived.Laws.OwnMore
import Derived.Deep.LoopGhost
namespace Go.Proofs.YteajnaabbddohaaGreatDoor
open Go.RowKit

theorem own_ne {w : World} {B B' e e' size size' n n' : Nat} {v v' : Value} {xs xs' : List Value} (h : w.ownsRow B e size v n xs) (h' : w.ownsRow B' e' size' v' n' xs') (hne : e ≠ e') {g : Nat} (hg : v.ownBlock = some g) : v'.ownBlock ≠ some g := by
  intro hg'
  rcases h.2 with ⟨rfl, _⟩ | ⟨g1, cap, cur, rfl, _, h1, _⟩
  · simp [Value.ownBlock] at hg
  · rcases h'.2 with ⟨rfl, _⟩ | ⟨g2, cap', cur', rfl, _, h2, _⟩
    · simp [Value.ownBlock] at hg'
    · simp only [Value.ownBlock, Option.some.injEq] at hg hg'
      subst hg
      subst hg'
      rw [h1] at h2
      simp only [Option.some.injEq, Obj.cells.injEq] at h2
      exact hne h2.2.1
/-- a row behind a change of another row. -/
theorem own_grown {w a w' : World} {base e sz n : Nat} {v : Value} {xs : List Value} {r : Option Nat} (h : w.ownsRow base e sz v n xs) (ha : Below w.heap.size w a) (hg : a.grownBy w' r) (hne : ∀ g, v.ownBlock = some g → r ≠ some g) : w'.ownsRow base e sz v n xs := by
  obtain ⟨hl, h⟩ := h
  refine ⟨hl, ?_⟩
  rcases h with h | ⟨g, cap, cur, hv, hb, hh, rest⟩
  · exact .inl h
  · have hlt := (Array.getElem?_eq_some_iff.1 hh).1
    exact .inr ⟨g, cap, cur, hv, hb, by rw [hg.block g (Nat.lt_of_lt_of_le hlt ha.size) (fun e => hne g (by subst hv; rfl) e.symm), ha.block g hlt]; exact hh, rest⟩
theorem own_lt {w : World} {base e sz n : Nat} {v : Value} {xs : List Value} (h : w.ownsRow base e sz v n xs) {g : Nat} (hg : v.ownBlock = some g) : base ≤ g ∧ g < w.heap.size := h.lt g hg

theorem own_succ {w : World} {base e sz n : Nat} {v : Value} {xs : List Value} (h : w.ownsRow base e sz v (n + 1) xs) : ∃ g cap, v = .slice (some ⟨g, 0, none⟩) (n + 1) cap ∧ base ≤ g ∧ g < w.heap.size ∧ n + 1 ≤ cap ∧ cap ≤ maxLen := by
  rcases h.2 with ⟨_, h0⟩ | ⟨g, cap, cur, hv, h1, h2, h3, h4, _⟩
  · cases h0
  · exact ⟨g, cap, hv, h1, (Array.getElem?_eq_some_iff.1 h2).1, h3, h4⟩
/-- frames, the top one first; the bottom one lies first. -/
def flatF : List (Nat × Nat) → List Value
  | [] => []
  | p :: r => flatF r ++ [.int .i64 (p.1 : Int), .int .i64 (p.2 : Int)]
theorem flatF_len : ∀ l, (flatF l).length = l.length * 2
  | [] => rfl
  | p :: r => by simp [flatF, flatF_len r]; omega
theorem flatF_top0 (p : Nat × Nat) (r : List (Nat × Nat)) : (flatF (p :: r))[r.length * 2]? = some (.int .i64 (p.1 : Int)) := by
  rw [← flatF_len r]; simp [flatF]
theorem flatF_top1 (p : Nat × Nat) (r : List (Nat × Nat)) : (flatF (p :: r))[r.length * 2 + 1]? = some (.int .i64 (p.2 : Int)) := by
  rw [← flatF_len r]; simp [flatF]
theorem flatF_set (b k k' : Nat) (r : List (Nat × Nat)) : (flatF ((b, k) :: r)).set (r.length * 2 + 1) (.int .i64 (k' : Int)) = flatF ((b, k') :: r) := by
  rw [← flatF_len r]
  simp [flatF]
theorem own_pop {w : World} {base e g cap : Nat} {p : Nat × Nat} {r : List (Nat × Nat)} (h : w.ownsRow base e 2 (.slice (some ⟨g, 0, none⟩) (r.length + 1) cap) (r.length + 1) (flatF (p :: r))) :
    w.ownsRow base e 2 (.slice (some ⟨g, 0, none⟩) r.length cap) r.length (flatF r) := by
  obtain ⟨h1, h2⟩ := h
  rcases h2 with ⟨h0, _⟩ | ⟨g', cap', cur, hv, hg, hh, hn, hcap, hsz, htake⟩
  · cases h0
  · cases hv
    refine ⟨flatF_len r, .inr ⟨g, cap, cur, rfl, hg, hh, by omega, hcap, hsz, ?_⟩⟩
    have h3 : (cur.toList.take ((r.length + 1) * 2)).take (r.length * 2) = (flatF (p :: r)).take (r.length * 2) := by rw [htake]
    rw [List.take_take, Nat.min_eq_left (by omega)] at h3
    rw [h3, ← flatF_len r, flatF]
    simp

theorem cell_two_new (w : World) (a b : Value) (t : TypeId) : ∀ j u, [a, b][j]? = some u → (w.alloc (.cells #[a, b] t)).cell? ((⟨w.heap.size, 0, none⟩ : Addr).add j) = some u := by
  intro j u hj
  match j, hj with
  | 0, hj => simp at hj; subst hj; simp [Addr.add]
  | 1, hj => simp at hj; subst hj; simp [Addr.add]
  | j + 2, hj => simp at hj
/-- append of one element of two cells. -/
theorem wpList_append2 {P : Program} (w : World) {ops : Array Oper} {rest : List Oper} {o : Oper} {a : Act} {Q : Exit → Act → World → Prop} (hgd : o.guard = none) (s x : Operand) (t : TypeId)
    (ho : o.op = .call { callee := .builtin .append, args := #[s, x], argTypes := #[t, t] })
    (base : Nat) (e : TypeId) (bytes : Nat) (ht : P.underlying t = some (.slice e)) {z : Value} (hinf : (P.info? e).map (fun i => (i.zero, i.size, i.bytes)) = some (some z, 2, bytes)) (hz1 : z.cells.size = 2)
    (v : Value) (n : Nat) (xs : List Value) (hs : a.eval s = v) (hown : w.ownsRow base e 2 v n xs)
    (N : Nat) (hN : w.heap.size = N) (u1 u2 : Value) (hx : a.eval x = .slice (some ⟨N, 0, none⟩) 1 1) (h1 : u1.oneCell' = true) (h2 : u2.oneCell' = true)
    (h63 : n < 1048576) (hby : bytes ≤ 64) (hbase : base ≤ w.heap.size)
    (h : ∀ v' w', w'.ownsRow base e 2 v' (n + 1) (xs ++ [u1, u2]) → (w.alloc (.cells #[u1, u2] e)).grownBy w' v.ownBlock → wpList P ops Q rest (a.put o.dst v') w') :
    wpList P ops Q (o :: rest) a (w.alloc (.cells #[u1, u2] e)) := by
  subst hN
  obtain ⟨i, hi, hz, hsz, hb⟩ := info_parts hinf
  refine wpList_append_own _ hgd s x t ho base e i z 2 bytes ht hi hz hsz hb hz1 (by decide) v n xs hs (hown.alloc _) ⟨w.heap.size, 0, none⟩ 1 1 [u1, u2] hx rfl (cell_two_new w u1 u2 e) (fun q hq => by simp at hq; rcases hq with rfl | rfl <;> assumption) (by unfold maxLen; omega) ?_ (by simp; omega) (fun v' w' a b _ => h v' w' a b)
  calc (n + 1) * bytes ≤ 1048576 * 64 := Nat.mul_le_mul (by omega) hby
    _ ≤ 140737488355328 := by decide
/-- the walk: seen, out, and the stack. -/
def dfs (E : Nat → List Nat) : Nat → List Bool → List Nat → List (Nat × Nat) → List Nat
  | 0, _, out, _ => out
  | _ + 1, _, out, [] => out
  | f + 1, seen, out, (b, k) :: r =>
    if k = (E b).length then dfs E f seen (out ++ [b]) r
    else if seen.getD ((E b).getD k 0) false then dfs E f seen out ((b, k + 1) :: r)
    else dfs E f (seen.set ((E b).getD k 0) true) out (((E b).getD k 0, 0) :: (b, k + 1) :: r)
theorem dfs_nil {E : Nat → List Nat} {f : Nat} {seen : List Bool} {out : List Nat} : dfs E f seen out [] = out := by cases f <;> rfl
theorem dfs_pop {E : Nat → List Nat} {f b k : Nat} {seen : List Bool} {out : List Nat} {r : List (Nat × Nat)} (h : k = (E b).length) : dfs E (f + 1) seen out ((b, k) :: r) = dfs E f seen (out ++ [b]) r := by rw [dfs, if_pos h]
theorem dfs_old {E : Nat → List Nat} {f b k c : Nat} {seen : List Bool} {out : List Nat} {r : List (Nat × Nat)} (h : k ≠ (E b).length) (hc : (E b).getD k 0 = c) (hs : seen.getD c false = true) :
    dfs E (f + 1) seen out ((b, k) :: r) = dfs E f seen out ((b, k + 1) :: r) := by rw [dfs, if_neg h, hc, if_pos hs]
theorem dfs_new {E : Nat → List Nat} {f b k c : Nat} {seen : List Bool} {out : List Nat} {r : List (Nat × Nat)} (h : k ≠ (E b).length) (hc : (E b).getD k 0 = c) (hs : seen.getD c false = false) :
    dfs E (f + 1) seen out ((b, k) :: r) = dfs E f (seen.set c true) out ((c, 0) :: (b, k + 1) :: r) := by rw [dfs, if_neg h, hc, hs]; rfl
/-- how many rounds the frames still take. -/
def frW (E : Nat → List Nat) : List (Nat × Nat) → Nat
  | [] => 0
  | (b, k) :: r => ((E b).length - k + 1) + frW E r
/-- a state that the walk comes to. -/
structure DfsOk (E : Nat → List Nat) (n : Nat) (seen : List Bool) (out : List Nat) (stk : List (Nat × Nat)) : Prop where
  len : seen.length = n
  cnt : seen.count true = out.length + stk.length
  frames : ∀ p ∈ stk, p.1 < n ∧ p.2 ≤ (E p.1).length
  outs : ∀ b ∈ out, b < n
theorem count_set {c : Nat} : ∀ {seen : List Bool}, c < seen.length → seen.getD c false = false → (seen.set c true).count true = seen.count true + 1 := by
  induction c with
  | zero =>
    intro seen h hs
    cases seen with
    | nil => simp at h
    | cons a r => simp at hs; subst hs; simp
  | succ c ih =>
    intro seen h hs
    cases seen with
    | nil => simp at h
    | cons a r =>
      have := ih (seen := r) (by simpa using h) (by simpa using hs)
      simp only [List.set_cons_succ, List.count_cons, this]
      omega
section
variable {E : Nat → List Nat} {n : Nat} {seen : List Bool} {out : List Nat} {r : List (Nat × Nat)} {b k c : Nat}
theorem DfsOk.room {stk : List (Nat × Nat)} (h : DfsOk E n seen out stk) : out.length + stk.length ≤ n := by
  rw [← h.cnt, ← h.len]; exact List.count_le_length
theorem DfsOk.top (h : DfsOk E n seen out ((b, k) :: r)) : b < n ∧ k ≤ (E b).length := h.frames (b, k) (by simp)
theorem DfsOk.pop (h : DfsOk E n seen out ((b, k) :: r)) : DfsOk E n seen (out ++ [b]) r :=
  ⟨h.len, by rw [h.cnt]; simp; omega, fun p hp => h.frames p (by simp [hp]), fun x hx => by
    rcases List.mem_append.1 hx with hx | hx
    · exact h.outs x hx
    · simp at hx; subst hx; exact h.top.1⟩
theorem DfsOk.old (h : DfsOk E n seen out ((b, k) :: r)) (hk : k ≠ (E b).length) : DfsOk E n seen out ((b, k + 1) :: r) :=
  ⟨h.len, by rw [h.cnt]; simp, fun p hp => by
    rcases List.mem_cons.1 hp with hp | hp
    · subst hp; have := h.top; exact ⟨this.1, by show k + 1 ≤ (E b).length; omega⟩
    · exact h.frames p (by simp [hp]), h.outs⟩
theorem DfsOk.new (h : DfsOk E n seen out ((b, k) :: r)) (hk : k ≠ (E b).length) (hc : c < n) (hs : seen.getD c false = false) : DfsOk E n (seen.set c true) out ((c, 0) :: (b, k + 1) :: r) :=
  ⟨by rw [List.length_set, h.len], by rw [count_set (by rw [h.len]; exact hc) hs, h.cnt]; simp; omega, fun p hp => by
    rcases List.mem_cons.1 hp with hp | hp
    · subst hp; exact ⟨hc, Nat.zero_le _⟩
    · rcases List.mem_cons.1 hp with hp | hp
      · subst hp; have := h.top; exact ⟨this.1, by show k + 1 ≤ (E b).length; omega⟩
      · exact h.frames p (by simp [hp]), h.outs⟩
end
end Go.Proofs.YteajnaabbddohaaGreatDoor
