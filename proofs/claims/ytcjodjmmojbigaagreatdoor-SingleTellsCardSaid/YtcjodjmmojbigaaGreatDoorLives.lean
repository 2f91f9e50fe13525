/- The laws' example: it is typed, its order is 0, 1, 2, and it is joined. -/
import Derived.Test.YtcjodjmmojbigaaGreatDoorGraph
namespace Go.Proofs.YtcjodjmmojbigaaGreatDoor
open Go.RowKit
set_option maxRecDepth 100000

def fn0 : PFunc := ⟨[⟨⟨#[110]⟩, 0⟩, ⟨⟨#[118]⟩, 1⟩], [0, 1], [⟨⟨#[97]⟩, [], [], ⟨1, 1, 2, 1⟩⟩, ⟨⟨#[98]⟩, [], [], ⟨0, 0, 2, 0⟩⟩, ⟨⟨#[99]⟩, [], [], ⟨2, 0, 0, 0⟩⟩]⟩
theorem fn0_typed : typedP fn0 = true := by decide +kernel
theorem fn0_order : ints (postO fn0).reverse = [0, 1, 2] := by decide +kernel
theorem fn0_small : Small fn0 := ⟨by decide, by decide, fun i hi => by
  have : i < 3 := hi
  match i, this with
  | 0, _ => decide
  | 1, _ => decide
  | 2, _ => decide⟩
def blks0 : Array Value := #[.string ⟨#[97]⟩, .slice none 0 0, .slice none 0 0, .int .i64 1, .int .i64 1, .int .i64 2, .int .i64 1, .string ⟨#[98]⟩, .slice none 0 0, .slice none 0 0, .int .i64 0, .int .i64 0, .int .i64 2, .int .i64 0, .string ⟨#[99]⟩, .slice none 0 0, .slice none 0 0, .int .i64 2, .int .i64 0, .int .i64 0, .int .i64 0]
def vars0 : Array Value := #[.string ⟨#[110]⟩, .int .i64 0, .string ⟨#[118]⟩, .int .i64 1]
theorem sl_nil {α : Type} {B : Nat} {sz : Nat} {R : Nat → Nat → α → Prop} : Sl B (.slice none 0 0) ([] : List α) sz R := ⟨none, 0, rfl, by simp [Len], Nat.le_refl _, fun i x hx => by simp at hx⟩
/-- the example in memory. -/
theorem fn0_at {w : World} {b0 b1 b2 : Nat} (h0 : b0 < w.heap.size) (h1 : b1 < w.heap.size) (h2 : b2 < w.heap.size) (c0 : ∀ j, w.cell? ⟨b0, j, none⟩ = vars0[j]?) (c1 : ∀ j, w.cell? ⟨b1, j, none⟩ = (#[.int .i64 0, .int .i64 1] : Array Value)[j]?) (c2 : ∀ j, w.cell? ⟨b2, j, none⟩ = blks0[j]?) :
    FnV w w.heap.size (.agg #[.slice (some ⟨b0, 0, none⟩) 2 2, .slice (some ⟨b1, 0, none⟩) 2 2, .slice (some ⟨b2, 0, none⟩) 3 3]) fn0 := by
  refine ⟨_, _, _, rfl, ⟨_, _, rfl, by simp [Len, fn0], by decide, fun i x hx => ?_⟩, ⟨_, _, rfl, by simp [Len, fn0], by decide, fun i x hx => ?_⟩, ⟨_, _, rfl, by simp [Len, fn0], by decide, fun i x hx => ?_⟩⟩
  · refine ⟨b0, 0, rfl, h0, ?_⟩
    match i, hx with
    | 0, hx => cases hx; exact ⟨by decide, c0 0, c0 1⟩
    | 1, hx => cases hx; exact ⟨by decide, c0 2, c0 3⟩
  · refine ⟨b1, 0, rfl, h1, ?_⟩
    match i, hx with
    | 0, hx => cases hx; exact c1 0
    | 1, hx => cases hx; exact c1 1
  · refine ⟨b2, 0, rfl, h2, ?_⟩
    match i, hx with
    | 0, hx => cases hx; exact ⟨by decide, c2 0, ⟨_, c2 1, sl_nil⟩, ⟨_, c2 2, sl_nil⟩, c2 3, c2 4, c2 5, c2 6⟩
    | 1, hx => cases hx; exact ⟨by decide, c2 7, ⟨_, c2 8, sl_nil⟩, ⟨_, c2 9, sl_nil⟩, c2 10, c2 11, c2 12, c2 13⟩
    | 2, hx => cases hx; exact ⟨by decide, c2 14, ⟨_, c2 15, sl_nil⟩, ⟨_, c2 16, sl_nil⟩, c2 17, c2 18, c2 19, c2 20⟩
theorem fn0_nophis : ∀ b ∈ fn0.blocks, b.phis = [] := by
  intro b hb
  simp only [fn0, List.mem_cons, List.mem_nil_iff, or_false] at hb
  rcases hb with rfl | rfl | rfl <;> rfl

end Go.Proofs.YtcjodjmmojbigaaGreatDoor
