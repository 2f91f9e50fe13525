/- Rows that the program makes itself: one element appended at a time; such a row read as a list of numbers. No program's code in sight. -/
import Derived.Test.YteajnaabbddohaaGreatDoorData
import Derived.OwnWalk
namespace Go.Proofs.YteajnaabbddohaaGreatDoor
open Go.RowKit

theorem cell_new_one (w : World) (u : Value) (t : TypeId) : ∀ j x, [u][j]? = some x → (w.alloc (.cells #[u] t)).cell? ((⟨w.heap.size, 0, none⟩ : Addr).add j) = some x := cell_one_new _ _ _

section
variable {P : Program}
theorem wpList_append1 (w : World) {ops : Array Oper} {rest : List Oper} {o : Oper} {a : Act} {Q : Exit → Act → World → Prop} (hgd : o.guard = none) (s x : Operand) (t : TypeId)
    (ho : o.op = .call { callee := .builtin .append, args := #[s, x], argTypes := #[t, t] })
    (base : Nat) (e : TypeId) (bytes : Nat) (ht : P.underlying t = some (.slice e)) {z : Value} (hinf : (P.info? e).map (fun i => (i.zero, i.size, i.bytes)) = some (some z, 1, bytes)) (hz1 : z.cells.size = 1)
    (v : Value) (n : Nat) (xs : List Value) (hs : a.eval s = v) (hown : w.ownsRow base e 1 v n xs)
    (N : Nat) (hN : w.heap.size = N) (u : Value) (hx : a.eval x = .slice (some ⟨N, 0, none⟩) 1 1) (h1 : u.oneCell' = true)
    (h63 : n < 1048576) (hby : bytes ≤ 64) (hbase : base ≤ w.heap.size)
    (h : ∀ v' w', w'.ownsRow base e 1 v' (n + 1) (xs ++ [u]) → (w.alloc (.cells #[u] e)).grownBy w' v.ownBlock → wpList P ops Q rest (a.put o.dst v') w') :
    wpList P ops Q (o :: rest) a (w.alloc (.cells #[u] e)) := by
  subst hN
  obtain ⟨i, hi, hz, hsz, hb⟩ := info_parts hinf
  refine wpList_append_own _ hgd s x t ho base e i z 1 bytes ht hi hz hsz hb hz1 (by decide) v n xs hs (hown.alloc _) ⟨w.heap.size, 0, none⟩ 1 1 [u] hx rfl (cell_new_one w u e) (by simpa using h1) (by unfold maxLen; omega) ?_ (by simp; omega) (fun v' w' a b _ => h v' w' a b)
  calc (n + 1) * bytes ≤ 1048576 * 64 := Nat.mul_le_mul (by omega) hby
    _ ≤ 140737488355328 := by decide
end

theorem Rd.of_own {w : World} {base : Nat} {e : TypeId} {c n : Nat} {A : Option Addr} {xs : List Int} (h : w.ownsRow base e 1 (.slice A n c) n (xs.map (Value.int .i64))) : n = xs.length ∧ n ≤ c ∧ Rd w.heap.size A xs 1 (IntC w) := by
  obtain ⟨hl, h⟩ := h
  have hn : n = xs.length := by simpa using hl.symm
  rcases h with ⟨hv, hn0⟩ | ⟨g, cap, cur, hv, hb, hg, hnc, hcm, hsz, hcur⟩
  · injection hv with h1 h2 h3
    subst h1 h2 h3
    refine ⟨hn, Nat.le_refl _, fun i x hx => ?_⟩
    have : xs = [] := List.eq_nil_of_length_eq_zero hn.symm
    subst this
    simp at hx
  · injection hv with h1 h2 h3
    subst h1 h3
    refine ⟨hn, hnc, fun i x hx => ⟨g, 0, rfl, (Array.getElem?_eq_some_iff.1 hg).1, ?_⟩⟩
    unfold IntC
    rw [cell_of_row w g _ cur e (0, 0) hg]
    have hi : i < xs.length := (List.getElem?_eq_some_iff.1 hx).1
    have : (cur.toList.take (n * 1))[i]? = some (.int .i64 x) := by rw [hcur]; simp [hx]
    rw [List.getElem?_take] at this
    split at this
    · simpa using this
    · cases this
theorem own_form {w : World} {base : Nat} {e : TypeId} {sz n : Nat} {v : Value} {xs : List Value} (h : w.ownsRow base e sz v n xs) : ∃ A c, v = .slice A n c := by
  rcases h.2 with ⟨rfl, rfl⟩ | ⟨g, cap, cur, rfl, _⟩
  · exact ⟨none, 0, rfl⟩
  · exact ⟨_, _, rfl⟩
/-- a call that hands back a list of numbers in memory of its own. -/
def RetInts (w : World) (xs : List Int) (e : Ending) (w' : World) : Prop :=
  ∃ A c, e = .returned (.slice A xs.length c) ∧ Len xs.length ∧ xs.length ≤ c ∧ Rd w'.heap.size A xs 1 (IntC w') ∧ Below w.heap.size w w'
theorem RetInts.of_own {w w' : World} {xs : List Int} {base : Nat} {e : TypeId} {v : Value} {n : Nat} (h : w'.ownsRow base e 1 v n (xs.map (Value.int .i64))) (hn : n ≤ 1048576) (hb : Below w.heap.size w w') : RetInts w xs (.returned v) w' := by
  obtain ⟨A, c, rfl⟩ := own_form h
  obtain ⟨rfl, hc, hr⟩ := Rd.of_own h
  exact ⟨A, c, rfl, by unfold Len; omega, hc, hr, hb⟩
theorem Rd.sints {w : World} {B : Nat} {A : Option Addr} {c : Nat} {xs : List Int} (h : Rd B A xs 1 (IntC w)) (hl : Len xs.length) (hc : xs.length ≤ c) : SInts w B (.slice A xs.length c) xs := ⟨A, c, rfl, hl, hc, h⟩
/-- an own row behind a call that only makes memory. -/
theorem own_below {w w' : World} {base : Nat} {e : TypeId} {sz n : Nat} {v : Value} {xs : List Value} (h : w.ownsRow base e sz v n xs) (hb : Below w.heap.size w w') : w'.ownsRow base e sz v n xs := by
  obtain ⟨hl, h⟩ := h
  refine ⟨hl, ?_⟩
  rcases h with h | ⟨g, cap, cur, hv, hg, hh, r⟩
  · exact .inl h
  · exact .inr ⟨g, cap, cur, hv, hg, (hb.block g (Array.getElem?_eq_some_iff.1 hh).1).trans hh, r⟩
/-- behind an append onto an own row: the blocks below its base stand. -/
theorem grown_kept {w w' : World} {base : Nat} {e : TypeId} {sz n : Nat} {v : Value} {xs : List Value} {o : Obj} (h : w.ownsRow base e sz v n xs) (hg : (w.alloc o).grownBy w' v.ownBlock) {k : Nat} (hk : k < base) (hk' : k < w.heap.size) :
    w'.heap[k]? = w.heap[k]? :=
  (hg.block k (by simp; omega) (fun he => by have := (h.lt k he.symm).1; omega)).trans (Below.heap_alloc w o k hk')
theorem grown_below {w w' a : World} {base B : Nat} {e : TypeId} {sz n : Nat} {v : Value} {xs : List Value} {o : Obj} (h : w.ownsRow base e sz v n xs) (hg : (w.alloc o).grownBy w' v.ownBlock) (hb : Below B a w) (hB : B ≤ base) (hB' : B ≤ w.heap.size) :
    Below B a w' :=
  (hb.alloc hB' o).grown hg (by simp; omega) (fun k hk => by have := (h.lt k hk).1; omega)
/-- behind an append onto an own row: a cell of another block than the row's. -/
theorem grown_cell {w a w' : World} {base : Nat} {e : TypeId} {sz n : Nat} {v : Value} {xs : List Value} (h : w.ownsRow base e sz v n xs) (hg : a.grownBy w' v.ownBlock) (p : Addr) (hp : p.block < base ∨ w.heap.size ≤ p.block) (ha : p.block < a.heap.size) :
    w'.cell? p = a.cell? p :=
  World.cell?_of_block (w := a) (hg.block p.block ha (fun he => by have := h.lt p.block he.symm; omega))
end Go.Proofs.YteajnaabbddohaaGreatDoor
