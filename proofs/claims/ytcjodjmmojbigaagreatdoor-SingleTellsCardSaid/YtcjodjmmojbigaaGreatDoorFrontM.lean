/- The memory of dom's fronts: only the row of fronts turns, and what is new. No program is walked here. -/
import Derived.Test.YtcjodjmmojbigaaGreatDoorTreeP
import Derived.Test.YtcjodjmmojbigaaGreatDoorSlc
import Derived.Sort.OwnSortedInts
namespace Go.Proofs.YtcjodjmmojbigaaGreatDoor
open Go.RowKit Go.Sort
set_option maxRecDepth 100000

/-- of the blocks of wk, g alone has turned. -/
structure Only (g : Nat) (wk wr : World) : Prop where
  hb : Below g wk wr
  kp : ∀ k, k < wk.heap.size → k ≠ g → wr.heap[k]? = wk.heap[k]?
section
variable {g : Nat} {wk wr w' w3 : World} {B gf n i c : Nat} {X : List (List Int)}
theorem Only.refl (g : Nat) (w : World) : Only g w w := ⟨Below.refl _ _, fun _ _ _ => rfl⟩
theorem Only.below (h : Only g wk wr) (hg : g < wk.heap.size) (hb : Below wr.heap.size wr w') : Only g wk w' :=
  ⟨h.hb.trans (hb.mono (by have := h.hb.size; omega)), fun k hk hne => (hb.block k (by have := h.hb.size; omega)).trans (h.kp k hk hne)⟩
theorem Only.cell (h : Only g wk wr) {b o : Nat} (hb : b < wk.heap.size) (hne : b ≠ g) : wr.cell? ⟨b, o, none⟩ = wk.cell? ⟨b, o, none⟩ := World.cell?_of_block (h.kp b hb hne)
theorem Only.rowO (h : Only g wk wr) {r : Nat} {L : List (Option Nat)} (hr : RowO wk r L) (hne : r ≠ g) : RowO wr r L :=
  ⟨Nat.lt_of_lt_of_le hr.1 h.hb.size, fun j hj => (h.cell hr.1 hne).trans (hr.2 j hj)⟩
/-- a sort of a row of one's own: it alone turns. -/
theorem sortG_calls {base n : Nat} {w : World} {v : Value} {xs : List Int} (h : w.ownsRow base 3 1 v n (xs.map (Value.int .i64))) (hn : n ≤ 1048576) :
    Calls Tryz.prog 63 #[v] w fun e w' => e = .returned (.tuple #[]) ∧ w'.ownsRow base 3 1 v n ((sortI xs).map (Value.int .i64)) ∧ w.grownBy w' v.ownBlock := by
  have hl : xs.length = n := by simpa using h.1
  by_cases hx : v = .slice none 0 0
  · subst hx
    have hn0 : n = 0 := by
      rcases h.2 with ⟨-, e⟩ | ⟨g, cap, cur, hv, -⟩
      · exact e
      · cases hv
    subst hn0
    obtain rfl := List.eq_nil_of_length_eq_zero hl
    refine (Tryz.slices_Sort_int_none none 0 w).mono ?_
    rintro e w' ⟨rfl, rfl⟩
    exact ⟨rfl, by simpa [sortI] using h, World.grownBy.refl _ _⟩
  · obtain ⟨g, cap, rfl, hg, hgl, hc, hcm, -, hH⟩ := Lib.holds_of_ownsRow h hx
    have hs := Tryz.slices_Sort_int g 0 cap xs w hH hgl (by omega)
    rw [hl] at hs
    refine hs.mono ?_
    rintro e w' ⟨rfl, q, os, rfl⟩
    have h9 := Lib.ownsRow_putRow (q := q) h (ys := sortI xs) (by rw [sortI_len, hl]) (Nat.le_refl _)
    rw [List.take_of_length_le (by rw [sortI_len, hl]; exact Nat.le_refl _)] at h9
    exact ⟨rfl, own_below h9 (below_grow (Below.refl _ _) (Nat.le_refl _)), grownBy_sortedI _⟩
/-- the fronts so far. -/
structure T2 (wk wr : World) (B n gf : Nat) (X : List (List Int)) : Prop where
  o : Only gf wk wr
  x : OwnRows wr B 23 3 gf (fun k => k < wk.heap.size) X
theorem T2.below (h : T2 wk wr B n gf X) (hg : gf < wk.heap.size) (hb : Below wr.heap.size wr w') : T2 wk w' B n gf X := ⟨h.o.below hg hb, h.x.below hb⟩
theorem T2.add (h : T2 wk wr B n gf X) (hg : gf < wk.heap.size) (hc : c < X.length) {v v' : Value} (hv : wr.cell? ⟨gf, c, none⟩ = some v)
    (hown : w3.ownsRow B 3 1 v' ((X.getD c []).length + 1) ((X.getD c []).map (Value.int .i64) ++ [.int .i64 (i : Int)])) (hgr : (wr.alloc (.cells #[.int .i64 (i : Int)] 3)).grownBy w3 v.ownBlock)
    (hfr : ∀ k, v'.ownBlock = some k → v.ownBlock = some k ∨ wr.heap.size < k) :
    T2 wk (w3.setCell ⟨gf, c, none⟩ v') B n gf (X.set c (X.getD c [] ++ [(i : Int)])) ∧ w3.cell? ⟨gf, c, none⟩ = some v ∧ w3.frozen? ⟨gf, c, none⟩ = false ∧ gf < w3.heap.size ∧ Only gf wk w3 := by
  have hrow := h.x.row hc hv
  have hsz := h.o.hb.size
  obtain ⟨h1, h2⟩ := h.x.step (by decide) hc hv hown hgr hfr (fun k hk ha => by omega)
  obtain ⟨m1, m2, m3⟩ := h.x.mid (by decide) hc hv hgr
  have kept : ∀ k, k < wk.heap.size → w3.heap[k]? = wr.heap[k]? := fun k hk => (hgr.block k (by simp; omega) (fun e => hrow.2 k e.symm hk)).trans (Below.heap_alloc wr _ k (by omega))
  have o3 : Only gf wk w3 := ⟨(h.o.hb.alloc (by omega) _).grown hgr (by simp; omega) (fun k hk => by have := hrow.2 k hk; omega), fun k hk hne => (kept k hk).trans (h.o.kp k hk hne)⟩
  refine ⟨⟨⟨o3.hb.setCell (p := ⟨gf, c, none⟩) (Nat.le_refl _) _, fun k hk hne => ?_⟩, h1⟩, m1, m2, m3, o3⟩
  rw [Below.heap_setCell _ _ _ _ (by simpa using hne)]
  exact o3.kp k hk hne
end
end Go.Proofs.YtcjodjmmojbigaaGreatDoor
