/- Rows of numbers by the library: Clone, Sort, Equal, in all their forms. The memory of dom's fronts: only the row of fronts turns, and what is new. No program is walked here. -/
import Derived.Test.YteajnaabbddohaaGreatDoorOrder
import Derived.Test.YteajnaabbddohaaGreatDoorShelf
import Derived.Test.YteajnaabbddohaaGreatDoorRefR
import Derived.Lib.OwnBridge
import Derived.Test.YteajnaabbddohaaGreatDoorTreeP
import Derived.Sort.OwnSortedInts
namespace Go.Proofs.YteajnaabbddohaaGreatDoor
open Go.RowKit Go.Sort
set_option maxRecDepth 100000

theorem Rd.at_int {B : Nat} {w : World} {A : Option Addr} {xs : List Int} (h : Rd B A xs 1 (IntC w)) (hx : xs ≠ []) : ∃ b off, A = some ⟨b, off, none⟩ ∧ b < B ∧ ∀ j, j < xs.length → w.cell? ⟨b, off + j, none⟩ = some (.int .i64 (xs.getD j 0)) := by
  obtain ⟨b, off, ha, hb, -⟩ := h 0 _ (ith_get (List.length_pos_iff.2 hx))
  refine ⟨b, off, ha, hb, fun j hj => ?_⟩
  obtain ⟨b', off', ha', -, hr⟩ := h j _ (ith_get hj)
  rw [ha] at ha'
  cases ha'
  simpa [IntC, ith] using hr
theorem clone_calls {B : Nat} {w : World} {A : Option Addr} {c : Nat} {xs : List Int} (hr : Rd B A xs 1 (IntC w)) (hl : xs.length ≤ 17592186044416) :
    Calls Tryz.prog 56 #[.slice A xs.length c] w fun e w' => ∃ v', e = .returned v' ∧ w'.ownsRow w.heap.size 3 1 v' xs.length (xs.map (Value.int .i64)) ∧ Below w.heap.size w w' := by
  by_cases hx : xs = []
  · subst hx
    cases A with
    | none =>
      refine (Tryz.slices_Clone_int_nil 0 c w).mono ?_
      rintro e w' ⟨rfl, rfl⟩
      exact ⟨_, rfl, World.ownsRow_nil _ _ _ _, Below.refl _ _⟩
    | some a =>
      refine (Tryz.slices_Clone_int_zero a c w).mono ?_
      rintro e w' ⟨v', rfl, h, -, hb⟩
      exact ⟨_, rfl, h, hb⟩
  · obtain ⟨b, off, rfl, hb, hc⟩ := hr.at_int hx
    refine (Tryz.slices_Clone_int b off xs.length c xs w (Nat.le_refl _) (by omega) hc).mono ?_
    rintro e w' ⟨v', rfl, h, -, hb⟩
    rw [List.take_length] at h
    exact ⟨_, rfl, h, hb⟩
def sortI (xs : List Int) : List Int := xs.mergeSort fun x y => decide (x ≤ y)
theorem sortI_len {xs : List Int} : (sortI xs).length = xs.length := List.length_mergeSort _
theorem below_grow {B : Nat} {a w : World} {os : Array Obj} (h : Below B a w) (hB : B ≤ w.heap.size) : Below B a (grow w os) := by
  refine ⟨h.os, h.tape, h.output, by have := h.size; simp [grow]; omega, fun k hk => ?_⟩
  rw [← h.block k hk]
  simp only [grow]
  rw [Array.getElem?_append_left (by omega)]
theorem sort_calls {base n : Nat} {w : World} {v : Value} {xs : List Int} (h : w.ownsRow base 3 1 v n (xs.map (Value.int .i64))) (hn : n ≤ 1048576) :
    Calls Tryz.prog 47 #[v] w fun e w' => e = .returned (.tuple #[]) ∧ w'.ownsRow base 3 1 v n ((sortI xs).map (Value.int .i64)) ∧ ∀ B a, Below B a w → B ≤ base → Below B a w' := by
  have hl : xs.length = n := by simpa using h.1
  by_cases hx : v = .slice none 0 0
  · subst hx
    have hn0 : n = 0 := by
      rcases h.2 with ⟨-, e⟩ | ⟨g, cap, cur, hv, -⟩
      · exact e
      · cases hv
    subst hn0
    obtain rfl := List.eq_nil_of_length_eq_zero hl
    refine (Tryz.slices_Sort_int_none none 0 w).mono ?_
    rintro e w' ⟨rfl, rfl⟩
    exact ⟨rfl, by simpa [sortI] using h, fun B a hb _ => hb⟩
  · obtain ⟨g, cap, rfl, hg, hgl, hc, hcm, -, hH⟩ := Lib.holds_of_ownsRow h hx
    have hs := Tryz.slices_Sort_int g 0 cap xs w hH hgl (by omega)
    rw [hl] at hs
    refine hs.mono ?_
    rintro e w' ⟨rfl, q, os, rfl⟩
    have h9 := Lib.ownsRow_putRow (q := q) h (ys := sortI xs) (by rw [sortI_len, hl]) (Nat.le_refl _)
    rw [List.take_of_length_le (by rw [sortI_len, hl]; exact Nat.le_refl _)] at h9
    refine ⟨rfl, own_below h9 (below_grow (Below.refl _ _) (Nat.le_refl _)), fun B a hb hB => below_grow (Lib.below_putRow hb (by omega)) (by simp; omega)⟩
theorem equal_calls {B1 B2 : Nat} {w : World} {A1 A2 : Option Addr} {c1 c2 : Nat} {xs ys : List Int} (h1 : Rd B1 A1 xs 1 (IntC w)) (h2 : Rd B2 A2 ys 1 (IntC w)) (hl1 : Len xs.length) (hl2 : Len ys.length) :
    Calls Tryz.prog 136 #[.slice A1 xs.length c1, .slice A2 ys.length c2] w fun e w' => e = .returned (.bool (decide (xs = ys))) ∧ Below w.heap.size w w' := by
  unfold Len at *
  by_cases hn : xs.length = ys.length
  · by_cases hx : xs = []
    · subst hx
      refine (Tryz.slices_Equal_int_empty A1 A2 c1 ys.length c2 w (by omega)).mono ?_
      rintro e w' ⟨rfl, rfl⟩
      refine ⟨?_, Below.refl _ _⟩
      obtain rfl := List.eq_nil_of_length_eq_zero hn.symm
      simp
    · have hy : ys ≠ [] := fun e => by subst e; exact hx (List.eq_nil_of_length_eq_zero hn)
      obtain ⟨b, off, rfl, -, hc⟩ := h1.at_int hx
      obtain ⟨b', off', rfl, -, hc'⟩ := h2.at_int hy
      refine (Tryz.slices_Equal_int b off xs.length c1 b' off' ys.length c2 xs ys w (Nat.le_refl _) (Nat.le_refl _) (by omega) (by omega) hc hc').mono ?_
      rintro e w' ⟨rfl, q, rfl⟩
      refine ⟨?_, bdrewN (Below.refl _ _) _⟩
      rw [List.take_length, List.take_length]
      exact ret_bool (by rw [Bool.eq_iff_iff]; simp)
  · refine (Tryz.slices_Equal_int_lens A1 A2 xs.length c1 ys.length c2 w hn).mono ?_
    rintro e w' ⟨rfl, rfl⟩
    exact ⟨ret_bool (by rw [eq_comm, decide_eq_false_iff_not]; exact fun e => hn (by rw [e])), Below.refl _ _⟩
theorem equalN_calls {B1 B2 n m : Nat} {w : World} {A1 A2 : Option Addr} {c1 c2 : Nat} {xs ys : List Int} (h1 : Rd B1 A1 xs 1 (IntC w)) (h2 : Rd B2 A2 ys 1 (IntC w)) (hn : xs.length = n) (hm : ys.length = m) (hl1 : Len n) (hl2 : Len m) :
    Calls Tryz.prog 136 #[.slice A1 n c1, .slice A2 m c2] w fun e w' => e = .returned (.bool (decide (xs = ys))) ∧ Below w.heap.size w w' := by
  subst hn hm
  exact equal_calls h1 h2 hl1 hl2
end Go.Proofs.YteajnaabbddohaaGreatDoor
namespace Go.Proofs.YteajnaabbddohaaGreatDoor
open Go.RowKit Go.Sort
set_option maxRecDepth 100000

/-- of the blocks of wk, g alone has turned. -/
structure Only (g : Nat) (wk wr : World) : Prop where
  hb : Below g wk wr
  kp : ∀ k, k < wk.heap.size → k ≠ g → wr.heap[k]? = wk.heap[k]?
section
variable {g : Nat} {wk wr w' w3 : World} {B gf n i c : Nat} {X : List (List Int)}
theorem Only.refl (g : Nat) (w : World) : Only g w w := ⟨Below.refl _ _, fun _ _ _ => rfl⟩
theorem Only.below (h : Only g wk wr) (hg : g < wk.heap.size) (hb : Below wr.heap.size wr w') : Only g wk w' :=
  ⟨h.hb.trans (hb.mono (by have := h.hb.size; omega)), fun k hk hne => (hb.block k (by have := h.hb.size; omega)).trans (h.kp k hk hne)⟩
theorem Only.cell (h : Only g wk wr) {b o : Nat} (hb : b < wk.heap.size) (hne : b ≠ g) : wr.cell? ⟨b, o, none⟩ = wk.cell? ⟨b, o, none⟩ := World.cell?_of_block (h.kp b hb hne)
theorem Only.rowO (h : Only g wk wr) {r : Nat} {L : List (Option Nat)} (hr : RowO wk r L) (hne : r ≠ g) : RowO wr r L :=
  ⟨Nat.lt_of_lt_of_le hr.1 h.hb.size, fun j hj => (h.cell hr.1 hne).trans (hr.2 j hj)⟩
/-- a sort of a row of one's own: it alone turns. -/
theorem sortG_calls {base n : Nat} {w : World} {v : Value} {xs : List Int} (h : w.ownsRow base 3 1 v n (xs.map (Value.int .i64))) (hn : n ≤ 1048576) :
    Calls Tryz.prog 47 #[v] w fun e w' => e = .returned (.tuple #[]) ∧ w'.ownsRow base 3 1 v n ((sortI xs).map (Value.int .i64)) ∧ w.grownBy w' v.ownBlock := by
  have hl : xs.length = n := by simpa using h.1
  by_cases hx : v = .slice none 0 0
  · subst hx
    have hn0 : n = 0 := by
      rcases h.2 with ⟨-, e⟩ | ⟨g, cap, cur, hv, -⟩
      · exact e
      · cases hv
    subst hn0
    obtain rfl := List.eq_nil_of_length_eq_zero hl
    refine (Tryz.slices_Sort_int_none none 0 w).mono ?_
    rintro e w' ⟨rfl, rfl⟩
    exact ⟨rfl, by simpa [sortI] using h, World.grownBy.refl _ _⟩
  · obtain ⟨g, cap, rfl, hg, hgl, hc, hcm, -, hH⟩ := Lib.holds_of_ownsRow h hx
    have hs := Tryz.slices_Sort_int g 0 cap xs w hH hgl (by omega)
    rw [hl] at hs
    refine hs.mono ?_
    rintro e w' ⟨rfl, q, os, rfl⟩
    have h9 := Lib.ownsRow_putRow (q := q) h (ys := sortI xs) (by rw [sortI_len, hl]) (Nat.le_refl _)
    rw [List.take_of_length_le (by rw [sortI_len, hl]; exact Nat.le_refl _)] at h9
    exact ⟨rfl, own_below h9 (below_grow (Below.refl _ _) (Nat.le_refl _)), grownBy_sortedI _⟩
/-- the fronts so far. -/
structure T2 (wk wr : World) (B n gf : Nat) (X : List (List Int)) : Prop where
  o : Only gf wk wr
  x : OwnRows wr B 23 3 gf (fun k => k < wk.heap.size) X
theorem T2.below (h : T2 wk wr B n gf X) (hg : gf < wk.heap.size) (hb : Below wr.heap.size wr w') : T2 wk w' B n gf X := ⟨h.o.below hg hb, h.x.below hb⟩
theorem T2.add (h : T2 wk wr B n gf X) (hg : gf < wk.heap.size) (hc : c < X.length) {v v' : Value} (hv : wr.cell? ⟨gf, c, none⟩ = some v)
    (hown : w3.ownsRow B 3 1 v' ((X.getD c []).length + 1) ((X.getD c []).map (Value.int .i64) ++ [.int .i64 (i : Int)])) (hgr : (wr.alloc (.cells #[.int .i64 (i : Int)] 3)).grownBy w3 v.ownBlock)
    (hfr : ∀ k, v'.ownBlock = some k → v.ownBlock = some k ∨ wr.heap.size < k) :
    T2 wk (w3.setCell ⟨gf, c, none⟩ v') B n gf (X.set c (X.getD c [] ++ [(i : Int)])) ∧ w3.cell? ⟨gf, c, none⟩ = some v ∧ w3.frozen? ⟨gf, c, none⟩ = false ∧ gf < w3.heap.size ∧ Only gf wk w3 := by
  have hrow := h.x.row hc hv
  have hsz := h.o.hb.size
  obtain ⟨h1, h2⟩ := h.x.step (by decide) hc hv hown hgr hfr (fun k hk ha => by omega)
  obtain ⟨m1, m2, m3⟩ := h.x.mid (by decide) hc hv hgr
  have kept : ∀ k, k < wk.heap.size → w3.heap[k]? = wr.heap[k]? := fun k hk => (hgr.block k (by simp; omega) (fun e => hrow.2 k e.symm hk)).trans (Below.heap_alloc wr _ k (by omega))
  have o3 : Only gf wk w3 := ⟨(h.o.hb.alloc (by omega) _).grown hgr (by simp; omega) (fun k hk => by have := hrow.2 k hk; omega), fun k hk hne => (kept k hk).trans (h.o.kp k hk hne)⟩
  refine ⟨⟨⟨o3.hb.setCell (p := ⟨gf, c, none⟩) (Nat.le_refl _) _, fun k hk hne => ?_⟩, h1⟩, m1, m2, m3, o3⟩
  rw [Below.heap_setCell _ _ _ _ (by simpa using hne)]
  exact o3.kp k hk hne
end
end Go.Proofs.YteajnaabbddohaaGreatDoor
