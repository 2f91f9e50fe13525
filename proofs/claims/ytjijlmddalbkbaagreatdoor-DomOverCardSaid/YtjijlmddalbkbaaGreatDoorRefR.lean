/- The reference's table in plain words; boxes in memory. -/
import Derived.Test.YtjijlmddalbkbaaGreatDoorRefA
import Derived.Test.YtjijlmddalbkbaaGreatDoorSchT
namespace Go.Proofs.YtjijlmddalbkbaaGreatDoor
open Go.RowKit
set_option maxRecDepth 100000

/-- the table lies at block b. -/
def RowsAt (w : World) (b : Nat) : Prop := ∀ n, n < 27 → w.cell? ⟨b, n * 3, none⟩ = some (.string (bs (kindAt n).1)) ∧ w.cell? ⟨b, n * 3 + 1, none⟩ = some (.string (bs (kindAt n).2.1)) ∧ w.cell? ⟨b, n * 3 + 2, none⟩ = some (.string (bs (kindAt n).2.2))
theorem kindsArr_at : ∀ n, n < 27 → kindsArr[n * 3]? = some (.string (bs (kindAt n).1)) ∧ kindsArr[n * 3 + 1]? = some (.string (bs (kindAt n).2.1)) ∧ kindsArr[n * 3 + 2]? = some (.string (bs (kindAt n).2.2)) := by
  intro n q
  iterate 27 (refine (Nat.lt_succ_iff_lt_or_eq.1 q).elim ?_ (by rintro rfl; exact ⟨rfl, rfl, rfl⟩); clear q; intro q)
  exact absurd q (Nat.not_lt_zero _)
theorem rows2_calls {w : World} : Calls Tryz.prog 75 #[] w fun e w' => e = .returned (.slice (some ⟨w.heap.size, 0, none⟩) 27 27) ∧ RowsAt w' w.heap.size ∧ w.heap.size < w'.heap.size ∧ Below w.heap.size w w' := by
  refine rows_calls.mono fun e w' ⟨he, hw⟩ => ?_
  subst hw
  refine ⟨he, fun n hn => ?_, by simp, by (focus repeat (first | assumption | exact Below.refl _ _ | refine Below.drew ?_ | refine Below.alloc ?_ (by first | omega | exact Below.size (by assumption) | (simp; done) | (simp; omega)) _ | refine Below.setCell ?_ (by first | omega | exact Below.size (by assumption) | (simp; done) | (simp; omega)) _ | refine below_setRow ?_ (by first | omega | exact Below.size (by assumption) | (simp; done) | (simp; omega)) _ | (refine Below.trans ?_ (Below.mono (by assumption) ?_); rotate_left; exact (by first | omega | exact Below.size (by assumption) | (simp; done) | (simp; omega)))))⟩
  obtain ⟨h0, h1, h2⟩ := kindsArr_at n hn
  have hg := heap_alloc_new w (.cells kindsArr 118)
  exact ⟨(cell_of_row _ _ _ _ _ _ hg).trans h0, (cell_of_row _ _ _ _ _ _ hg).trans h1, (cell_of_row _ _ _ _ _ _ hg).trans h2⟩
theorem box2 {w w' : World} {x y : Value} {t : TypeId} (hb : Below (w.heap.size + 1) (w.alloc (.cells #[x, y] t)) w') :
    w.heap.size < w'.heap.size ∧ w'.cell? ⟨w.heap.size, 0, none⟩ = some x ∧ w'.cell? ⟨w.heap.size, 1, none⟩ = some y := by
  have hg := heap_alloc_new w (.cells #[x, y] t)
  have hs := hb.size
  simp at hs
  exact ⟨by omega, (hb.cell (p := ⟨w.heap.size, 0, none⟩) (Nat.lt_succ_self _)).trans (cell_of_row _ _ 0 _ _ _ hg), (hb.cell (p := ⟨w.heap.size, 1, none⟩) (Nat.lt_succ_self _)).trans (cell_of_row _ _ 1 _ _ _ hg)⟩

theorem boxN {w w' : World} {cs : Array Value} {t : TypeId} (hb : Below (w.heap.size + 1) (w.alloc (.cells cs t)) w') :
    w.heap.size < w'.heap.size ∧ ∀ j, w'.cell? ⟨w.heap.size, j, none⟩ = cs[j]? := by
  have hg := heap_alloc_new w (.cells cs t)
  have hs := hb.size
  simp at hs
  exact ⟨by omega, fun j => (hb.cell (p := ⟨w.heap.size, j, none⟩) (Nat.lt_succ_self _)).trans (cell_of_row _ _ j _ _ _ hg)⟩
theorem str_beq {s t : ByteArray} : (s.toList == t.toList) = decide (s = t) := by
  rw [Bool.eq_iff_iff]
  simp only [beq_iff_eq, decide_eq_true_eq, Lib.toList_data]
  constructor
  · intro h
    obtain ⟨a⟩ := s
    obtain ⟨b⟩ := t
    simp only [ByteArray.mk.injEq]
    exact Array.toList_inj.1 h
  · rintro rfl; rfl
theorem bdrewN {B : Nat} {a w : World} (h : Below B a w) (n : Nat) : Below B a (w.drewN n) := h.trans ⟨rfl, rfl, rfl, Nat.le_refl _, fun _ _ => rfl⟩
theorem set3 {w : World} {b : Nat} {u v t : Value} (h : ∀ j, j < 3 → (w.cell? ⟨b, j, none⟩).isSome = true) :
    (((w.setCell ⟨b, 0, none⟩ u).setCell ⟨b, 1, none⟩ v).setCell ⟨b, 2, none⟩ t).cell? ⟨b, 0, none⟩ = some u ∧
    (((w.setCell ⟨b, 0, none⟩ u).setCell ⟨b, 1, none⟩ v).setCell ⟨b, 2, none⟩ t).cell? ⟨b, 1, none⟩ = some v ∧
    (((w.setCell ⟨b, 0, none⟩ u).setCell ⟨b, 1, none⟩ v).setCell ⟨b, 2, none⟩ t).cell? ⟨b, 2, none⟩ = some t := by
  have n01 : (⟨b, 0, none⟩ : Addr) ≠ ⟨b, 1, none⟩ := by simp
  have n02 : (⟨b, 0, none⟩ : Addr) ≠ ⟨b, 2, none⟩ := by simp
  have n12 : (⟨b, 1, none⟩ : Addr) ≠ ⟨b, 2, none⟩ := by simp
  refine ⟨?_, ?_, ?_⟩
  · rw [World.cell?_setCell_other (h := n02.symm), World.cell?_setCell_other (h := n01.symm), World.cell?_setCell_same' _ _ _ (h 0 (by decide))]
  · rw [World.cell?_setCell_other (h := n12.symm), World.cell?_setCell_same' _ _ _ (by rw [World.cell?_setCell_other (h := n01)]; exact h 1 (by decide))]
  · rw [World.cell?_setCell_same' _ _ _ (by rw [World.cell?_setCell_other (h := n12), World.cell?_setCell_other (h := n02)]; exact h 2 (by decide))]
theorem bs_get (l : List UInt8) (i : Nat) (h : i < l.length) : ∃ h' : i < (bs l).size, (((bs l)[i]'h').toNat : Int) = ((l.getD i 0).toNat : Int) := by
  have hs : (bs l).size = l.length := by simp [bs, ByteArray.size]
  refine ⟨by rw [hs]; exact h, ?_⟩
  have : (bs l)[i]'(by rw [hs]; exact h) = l.getD i 0 := by
    simp only [List.getD, List.getElem?_eq_getElem h, Option.getD_some]
    rfl
  rw [this]
end Go.Proofs.YtjijlmddalbkbaaGreatDoor
