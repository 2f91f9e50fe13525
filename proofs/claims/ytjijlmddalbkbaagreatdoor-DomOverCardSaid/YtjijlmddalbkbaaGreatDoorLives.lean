/- The laws' example: it is typed, its order is 0, 1, 2, and it is joined. -/
import Derived.Test.YtjijlmddalbkbaaGreatDoorGraph
namespace Go.Proofs.YtjijlmddalbkbaaGreatDoor
open Go.RowKit
set_option maxRecDepth 100000

def fn0 : PFunc := ⟨[⟨⟨#[110]⟩, 0⟩, ⟨⟨#[118]⟩, 1⟩], [0, 1], [⟨⟨#[97]⟩, [], [], ⟨1, 1, 2, 1⟩⟩, ⟨⟨#[98]⟩, [], [], ⟨0, 0, 2, 0⟩⟩, ⟨⟨#[99]⟩, [], [], ⟨2, 0, 0, 0⟩⟩]⟩
theorem fn0_typed : typedP fn0 = true := by decide +kernel
theorem fn0_order : ints (postO fn0).reverse = [0, 1, 2] := by decide +kernel
theorem fn0_small : Small fn0 := ⟨by decide, by decide, fun i hi => by
  have : i < 3 := hi
  match i, this with
  | 0, _ => decide
  | 1, _ => decide
  | 2, _ => decide⟩
def blks0 : Array Value := #[.string ⟨#[97]⟩, .slice none 0 0, .slice none 0 0, .int .i64 1, .int .i64 1, .int .i64 2, .int .i64 1, .string ⟨#[98]⟩, .slice none 0 0, .slice none 0 0, .int .i64 0, .int .i64 0, .int .i64 2, .int .i64 0, .string ⟨#[99]⟩, .slice none 0 0, .slice none 0 0, .int .i64 2, .int .i64 0, .int .i64 0, .int .i64 0]
def vars0 : Array Value := #[.string ⟨#[110]⟩, .int .i64 0, .string ⟨#[118]⟩, .int .i64 1]
theorem sl_nil {α : Type} {B : Nat} {sz : Nat} {R : Nat → Nat → α → Prop} : Sl B (.slice none 0 0) ([] : List α) sz R := ⟨none, 0, rfl, by simp [Len], Nat.le_refl _, fun i x hx => by simp at hx⟩
/-- the example in memory. -/
theorem fn0_at {w : World} {b0 b1 b2 : Nat} (h0 : b0 < w.heap.size) (h1 : b1 < w.heap.size) (h2 : b2 < w.heap.size) (c0 : ∀ j, w.cell? ⟨b0, j, none⟩ = vars0[j]?) (c1 : ∀ j, w.cell? ⟨b1, j, none⟩ = (#[.int .i64 0, .int .i64 1] : Array Value)[j]?) (c2 : ∀ j, w.cell? ⟨b2, j, none⟩ = blks0[j]?) :
    FnV w w.heap.size (.agg #[.slice (some ⟨b0, 0, none⟩) 2 2, .slice (some ⟨b1, 0, none⟩) 2 2, .slice (some ⟨b2, 0, none⟩) 3 3]) fn0 := by
  refine ⟨_, _, _, rfl, ⟨_, _, rfl, by simp [Len, fn0], by decide, fun i x hx => ?_⟩, ⟨_, _, rfl, by simp [Len, fn0], by decide, fun i x hx => ?_⟩, ⟨_, _, rfl, by simp [Len, fn0], by decide, fun i x hx => ?_⟩⟩
  · refine ⟨b0, 0, rfl, h0, ?_⟩
    match i, hx with
    | 0, hx => cases hx; exact ⟨by decide, c0 0, c0 1⟩
    | 1, hx => cases hx; exact ⟨by decide, c0 2, c0 3⟩
  · refine ⟨b1, 0, rfl, h1, ?_⟩
    match i, hx with
    | 0, hx => cases hx; exact c1 0
    | 1, hx => cases hx; exact c1 1
  · refine ⟨b2, 0, rfl, h2, ?_⟩
    match i, hx with
    | 0, hx => cases hx; exact ⟨by decide, c2 0, ⟨_, c2 1, sl_nil⟩, ⟨_, c2 2, sl_nil⟩, c2 3, c2 4, c2 5, c2 6⟩
    | 1, hx => cases hx; exact ⟨by decide, c2 7, ⟨_, c2 8, sl_nil⟩, ⟨_, c2 9, sl_nil⟩, c2 10, c2 11, c2 12, c2 13⟩
    | 2, hx => cases hx; exact ⟨by decide, c2 14, ⟨_, c2 15, sl_nil⟩, ⟨_, c2 16, sl_nil⟩, c2 17, c2 18, c2 19, c2 20⟩
theorem fn0_nophis : ∀ b ∈ fn0.blocks, b.phis = [] := by
  intro b hb
  simp only [fn0, List.mem_cons, List.mem_nil_iff, or_false] at hb
  rcases hb with rfl | rfl | rfl <;> rfl

set_option maxHeartbeats 2000000 in
theorem lives_calls {W w : World} (hU : Uni W) (hW : Below W.heap.size W w) :
    Calls Tryz.prog 10 #[] w fun e w' => e = .returned (.bool true) ∧ Below w.heap.size w w' := by
  obtain ⟨V0, hV0⟩ : ∃ V0 : World, V0 = (((w.alloc (.cells vars0 74)).alloc (.cells #[.int .i64 0, .int .i64 1] 3)).alloc (.cells blks0 82)) := ⟨_, rfl⟩
  have hb0 : Below w.heap.size w V0 := by subst hV0; (focus repeat (first | assumption | exact Below.refl _ _ | refine Below.drew ?_ | refine Below.alloc ?_ (by first | omega | exact Below.size (by assumption) | (simp; done) | (simp; omega)) _ | refine Below.setCell ?_ (by first | omega | exact Below.size (by assumption) | (simp; done) | (simp; omega)) _ | refine below_setRow ?_ (by first | omega | exact Below.size (by assumption) | (simp; done) | (simp; omega)) _ | (refine Below.trans ?_ (Below.mono (by assumption) ?_); rotate_left; exact (by first | omega | exact Below.size (by assumption) | (simp; done) | (simp; omega)))))
  have hU0 : Uni V0 := (hU.below hW).below hb0
  have hs0 : V0.heap.size = w.heap.size + 3 := by subst hV0; simp
  have hF : FnV V0 V0.heap.size (.agg #[.slice (some ⟨w.heap.size, 0, none⟩) 2 2, .slice (some ⟨w.heap.size + 1, 0, none⟩) 2 2, .slice (some ⟨w.heap.size + 2, 0, none⟩) 3 3]) fn0 := by
    refine fn0_at (by omega) (by omega) (by omega) (fun j => ?_) (fun j => ?_) (fun j => ?_)
    · subst hV0
      rw [World.cell?_alloc_lt _ _ _ (by simp; omega), World.cell?_alloc_lt _ _ _ (by simp)]
      exact cell_of_row _ _ j _ _ _ (heap_alloc_new _ _)
    · subst hV0
      rw [World.cell?_alloc_lt _ _ _ (by simp)]
      exact cell_of_row _ _ j _ _ _ (by simpa using heap_alloc_new (w.alloc (.cells vars0 74)) (.cells #[.int .i64 0, .int .i64 1] 3))
    · subst hV0
      exact cell_of_row _ _ j _ _ _ (by simpa using heap_alloc_new ((w.alloc (.cells vars0 74)).alloc (.cells #[.int .i64 0, .int .i64 1] 3)) (.cells blks0 82))
  have ho := fun (w : World) (h : Below V0.heap.size V0 w) => orderYes_calls hU0 hF h fn0_small fn0_typed
  have hj := fun (w : World) (h : Below V0.heap.size V0 w) => joinedNoPhis_calls hU0 hF h fn0_small fn0_typed fn0_nophis
  rw [fn0_order] at ho
  go_enter Tryz.func10, Tryz.ntmps10
  subst hV0
  have h3 : ∀ t vs, w.heap.size + 1 + 1 + 1 < ((((w.alloc (.cells vars0 74)).alloc (.cells #[.int .i64 0, .int .i64 1] 3)).alloc (.cells blks0 82)).alloc (.cells vs t)).heap.size := by intro t vs; simp
  have h4 : ∀ t vs, ((((w.alloc (.cells vars0 74)).alloc (.cells #[.int .i64 0, .int .i64 1] 3)).alloc (.cells blks0 82)).alloc (.cells vs t)).heap[w.heap.size + 1 + 1 + 1]? = some (.cells vs t (0, 0)) := by
    intro t vs
    simpa using heap_alloc_new (((w.alloc (.cells vars0 74)).alloc (.cells #[.int .i64 0, .int .i64 1] 3)).alloc (.cells blks0 82)) (.cells vs t)
  have hbl : ∀ t vs, Below w.heap.size w ((((w.alloc (.cells vars0 74)).alloc (.cells #[.int .i64 0, .int .i64 1] 3)).alloc (.cells blks0 82)).alloc (.cells vs t)) := fun t vs => hb0.alloc (by simp; omega) _
  go_wp2_with fail
  refine (ho _ ((Below.refl _ _).alloc (Nat.le_refl _) _)).mono ?_
  rintro e w5 ⟨A5, c5, rfl, l5, k5, r5, hb5⟩
  obtain ⟨b, off, rfl, hb5l, hc0⟩ := r5.int (Below.refl _ _) (i := 0) (by decide)
  obtain ⟨b', off', he, -, hc1⟩ := r5.int (Below.refl _ _) (i := 1) (by decide)
  simp only [Option.some.injEq, Addr.mk.injEq, and_true] at he
  obtain ⟨rfl, rfl⟩ := he
  obtain ⟨b', off', he, -, hc2⟩ := r5.int (Below.refl _ _) (i := 2) (by decide)
  simp only [Option.some.injEq, Addr.mk.injEq, and_true] at he
  obtain ⟨rfl, rfl⟩ := he
  replace hc0 : w5.cell? ⟨b, off, none⟩ = some (.int .i64 0) := hc0
  replace hc1 : w5.cell? ⟨b, off + 1, none⟩ = some (.int .i64 1) := hc1
  replace hc2 : w5.cell? ⟨b, off + 2, none⟩ = some (.int .i64 2) := hc2
  have hq := hb5.size
  simp at hq
  have q0 : w5.cell? ⟨w.heap.size + 1 + 1 + 1, 0, none⟩ = some (.slice (some ⟨w.heap.size, 0, none⟩) 2 2) := (hb5.cell (p := ⟨w.heap.size + 1 + 1 + 1, 0, none⟩) (h3 _ _)).trans (cell_of_row _ _ _ _ _ _ (h4 _ _))
  have q1 : w5.cell? ⟨w.heap.size + 1 + 1 + 1, 1, none⟩ = some (.slice (some ⟨w.heap.size + 1, 0, none⟩) 2 2) := (hb5.cell (p := ⟨w.heap.size + 1 + 1 + 1, 1, none⟩) (h3 _ _)).trans (cell_of_row _ _ _ _ _ _ (h4 _ _))
  have q2 : w5.cell? ⟨w.heap.size + 1 + 1 + 1, 2, none⟩ = some (.slice (some ⟨w.heap.size + 1 + 1, 0, none⟩) 3 3) := (hb5.cell (p := ⟨w.heap.size + 1 + 1 + 1, 2, none⟩) (h3 _ _)).trans (cell_of_row _ _ _ _ _ _ (h4 _ _))
  have hB5 := (hbl _ _).trans (hb5.mono (by simp; omega))
  have hV5 := ((Below.refl _ _).alloc (Nat.le_refl _) _).trans (hb5.mono (by simp))
  go_wp2_with fail
  refine (hj _ hV5).mono ?_
  rintro e w6 ⟨rfl, hb6⟩
  go_wp2
  go_ret
  exact ⟨rfl, hB5.trans (hb6.mono hB5.size)⟩
end Go.Proofs.YtjijlmddalbkbaaGreatDoor
