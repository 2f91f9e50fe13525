/- Layer 11's example: what is above what in it. -/
import Derived.Test.YtjdkcichkpolgaaGreatDoorGraph
import Derived.Test.YtjdkcichkpolgaaGreatDoorNew
import Derived.Test.YtjdkcichkpolgaaGreatDoorTreeVC
import Derived.Test.YtjdkcichkpolgaaGreatDoorWays
namespace Go.Proofs.YtjdkcichkpolgaaGreatDoor
open Go.RowKit
set_option maxRecDepth 100000
def fn1 : PFunc := ⟨[⟨⟨#[110]⟩, 0⟩, ⟨⟨#[118]⟩, 1⟩], [0, 1], [⟨⟨#[97]⟩, [], [], ⟨1, 1, 1, 2⟩⟩, ⟨⟨#[98]⟩, [], [], ⟨0, 0, 3, 0⟩⟩, ⟨⟨#[99]⟩, [], [], ⟨0, 0, 3, 0⟩⟩, ⟨⟨#[100]⟩, [], [], ⟨2, 0, 0, 0⟩⟩]⟩
theorem fn1_typed : typedP fn1 = true := by decide +kernel
theorem fn1_order : OR fn1 = [0, 2, 1, 3] := by decide +kernel
theorem fn1_pr : PR fn1 0 = [] ∧ PR fn1 1 = [0] ∧ PR fn1 2 = [0] ∧ PR fn1 3 = [1, 2] := by decide +kernel
theorem fn1_small : Small fn1 := ⟨ZD, ZD, fun i hi => by
 have : i < 4 := hi
 match i, this with
 | 0, _ => decide
 | 1, _ => decide
 | 2, _ => decide
 | 3, _ => decide⟩
def blks1 : Array Value := #[.string ⟨#[97]⟩, .slice none 0 0, .slice none 0 0, .int .i64 1, .int .i64 1, .int .i64 1, .int .i64 2, .string ⟨#[98]⟩, .slice none 0 0, .slice none 0 0, .int .i64 0, .int .i64 0, .int .i64 3, .int .i64 0, .string ⟨#[99]⟩, .slice none 0 0, .slice none 0 0, .int .i64 0, .int .i64 0, .int .i64 3, .int .i64 0, .string ⟨#[100]⟩, .slice none 0 0, .slice none 0 0, .int .i64 2, .int .i64 0, .int .i64 0, .int .i64 0]
theorem fn1_at {w : World} {b0 b1 b2 : Nat} (h0 : b0 < w.heap.size) (h1 : b1 < w.heap.size) (h2 : b2 < w.heap.size) (c0 : ∀ j, w.cell? ⟨b0, j, none⟩ = vars0[j]?) (c1 : ∀ j, w.cell? ⟨b1, j, none⟩ = (#[.int .i64 0, .int .i64 1] : Array Value)[j]?) (c2 : ∀ j, w.cell? ⟨b2, j, none⟩ = blks1[j]?) :
 FnV w w.heap.size (.agg #[.slice (some ⟨b0, 0, none⟩) 2 2, .slice (some ⟨b1, 0, none⟩) 2 2, .slice (some ⟨b2, 0, none⟩) 4 4]) fn1 := by
 refine ⟨_, _, _, rfl, ⟨_, _, rfl, by simp [Len, fn1], ZD, fun i x hx => ?_⟩, ⟨_, _, rfl, by simp [Len, fn1], ZD, fun i x hx => ?_⟩, ⟨_, _, rfl, by simp [Len, fn1], ZD, fun i x hx => ?_⟩⟩
 · refine ⟨b0, 0, rfl, h0, ?_⟩
   match i, hx with
   | 0, hx => cases hx; exact ⟨ZD, c0 0, c0 1⟩
   | 1, hx => cases hx; exact ⟨ZD, c0 2, c0 3⟩
 · refine ⟨b1, 0, rfl, h1, ?_⟩
   match i, hx with
   | 0, hx => cases hx; exact c1 0
   | 1, hx => cases hx; exact c1 1
 · refine ⟨b2, 0, rfl, h2, ?_⟩
   match i, hx with
   | 0, hx => cases hx; exact ⟨ZD, c2 0, ⟨_, c2 1, sl_nil⟩, ⟨_, c2 2, sl_nil⟩, c2 3, c2 4, c2 5, c2 6⟩
   | 1, hx => cases hx; exact ⟨ZD, c2 7, ⟨_, c2 8, sl_nil⟩, ⟨_, c2 9, sl_nil⟩, c2 10, c2 11, c2 12, c2 13⟩
   | 2, hx => cases hx; exact ⟨ZD, c2 14, ⟨_, c2 15, sl_nil⟩, ⟨_, c2 16, sl_nil⟩, c2 17, c2 18, c2 19, c2 20⟩
   | 3, hx => cases hx; exact ⟨ZD, c2 21, ⟨_, c2 22, sl_nil⟩, ⟨_, c2 23, sl_nil⟩, c2 24, c2 25, c2 26, c2 27⟩
section
variable {L : List (Option Nat)} (t : NearOk 4 (OR fn1) (PR fn1) L)
include t
theorem fn1_over13 : ¬ Anc (fnO L) 1 3 := by
 obtain ⟨p0, p1, p2, p3⟩ := fn1_pr
 rw [t.dom (by rw [fn1_order]; simp)]
 intro h
 exact h (.step (.step (.start ZD) (show 0 ∈ PR fn1 2 by rw [p2]; simp) ZD) (show 2 ∈ PR fn1 3 by rw [p3]; simp) ZD)
theorem fn1_over23 : ¬ Anc (fnO L) 2 3 := by
 obtain ⟨p0, p1, p2, p3⟩ := fn1_pr
 rw [t.dom (by rw [fn1_order]; simp)]
 intro h
 exact h (.step (.step (.start ZD) (show 0 ∈ PR fn1 1 by rw [p1]; simp) ZD) (show 1 ∈ PR fn1 3 by rw [p3]; simp) ZD)
theorem fn1_near3 : fnO L 3 = some 0 := by
 have h3 : 3 ∈ OR fn1 := by rw [fn1_order]; simp
 cases h : fnO L 3 with
 | none => exact absurd h (t.all h3)
 | some p =>
  have hu := t.tok.up ZD h
  have ha : Anc (fnO L) p 3 := .up ZD h .refl
  have hp := hu.2.1
  rw [fn1_order] at hp
  simp only [List.mem_cons, List.mem_nil_iff, or_false] at hp
  rcases hp with rfl | rfl | rfl | rfl
  · rfl
  · exact absurd ha (fn1_over23 t)
  · exact absurd ha (fn1_over13 t)
  · have := hu.2.2.1; omega
theorem fn1_over03 : Anc (fnO L) 0 3 := .up ZD (fn1_near3 t) .refl
theorem fn1_front : frontL 4 (SF (OR fn1) (PR fn1) (L.set 0 none) (fnO L) (OR fn1)) 1 = [3] := by
 obtain ⟨p0, p1, p2, p3⟩ := fn1_pr
 have hlen : (List.range 4) = [0, 1, 2, 3] := by decide
 have n3 : fnO (L.set 0 none) 3 = some 0 := by rw [fnO_ne ZD]; exact fn1_near3 t
 have a10 : ¬ Anc (fnO L) 1 0 := fun h => by have := h.of0; omega
 have f0 : ¬ SF (OR fn1) (PR fn1) (L.set 0 none) (fnO L) (OR fn1) 1 0 := by rintro ⟨_, p, h1, _⟩; rw [p0] at h1; cases h1
 have f1 : ¬ SF (OR fn1) (PR fn1) (L.set 0 none) (fnO L) (OR fn1) 1 1 := by rintro ⟨_, p, h1, _, h3, _⟩; rw [p1] at h1; simp at h1; subst h1; exact a10 h3
 have f2 : ¬ SF (OR fn1) (PR fn1) (L.set 0 none) (fnO L) (OR fn1) 1 2 := by rintro ⟨_, p, h1, _, h3, _⟩; rw [p2] at h1; simp at h1; subst h1; exact a10 h3
 have f3 : SF (OR fn1) (PR fn1) (L.set 0 none) (fnO L) (OR fn1) 1 3 := by
  refine ⟨by rw [fn1_order]; simp, 1, by rw [p3]; simp, by rw [fn1_order]; simp, .refl, ?_⟩
  rintro ⟨q, h1, h2⟩
  rw [n3] at h1
  obtain rfl := Option.some.inj h1
  exact a10 h2
 unfold frontL
 rw [hlen]
 simp [f0, f1, f2, f3]
end
set_option maxHeartbeats 4000000 in
theorem livesD_calls {W w : World} (hU : Uni W) (hW : Below W.heap.size W w) :
 Calls Tryz.prog 20 #[] w fun e w' => e = .returned (.bool true) ∧ Below w.heap.size w w' := by
 obtain ⟨V0, hV0⟩ : ∃ V0 : World, V0 = (((w.alloc (.cells vars0 63)).alloc (.cells #[.int .i64 0, .int .i64 1] 3)).alloc (.cells blks1 52)) := ⟨_, rfl⟩
 have hb0 : Below w.heap.size w V0 := by subst hV0; exact BL
 have hU0 : Uni V0 := (hU.below hW).below hb0
 have hs0 : V0.heap.size = w.heap.size + 3 := by subst hV0; simp
 have hF : FnV V0 V0.heap.size (.agg #[.slice (some ⟨w.heap.size, 0, none⟩) 2 2, .slice (some ⟨w.heap.size + 1, 0, none⟩) 2 2, .slice (some ⟨w.heap.size + 2, 0, none⟩) 4 4]) fn1 := by
  refine fn1_at ZO ZO ZO (fun j => ?_) (fun j => ?_) (fun j => ?_)
  · subst hV0
    rw [World.cell?_alloc_lt _ _ _ ZX, World.cell?_alloc_lt _ _ _ ZS]
    exact cell_of_row _ _ j _ _ _ (heap_alloc_new _ _)
  · subst hV0
    rw [World.cell?_alloc_lt _ _ _ ZS]
    exact cell_of_row _ _ j _ _ _ (by simpa using heap_alloc_new (w.alloc (.cells vars0 63)) (.cells #[.int .i64 0, .int .i64 1] 3))
  · subst hV0
    exact cell_of_row _ _ j _ _ _ (by simpa using heap_alloc_new ((w.alloc (.cells vars0 63)).alloc (.cells #[.int .i64 0, .int .i64 1] 3)) (.cells blks1 52))
 have hn := fun (w : World) (h : Below V0.heap.size V0 w) => newYes_calls hU0 hF h fn1_small fn1_typed
 have g := Lib.hid (gr_of fn1_typed)
 rw [show fn1.blocks.length = 4 from rfl] at hn g
 go_enter Tryz.func20, Tryz.ntmps20
 subst hV0
 have hbl : ∀ t vs, Below w.heap.size w ((((w.alloc (.cells vars0 63)).alloc (.cells #[.int .i64 0, .int .i64 1] 3)).alloc (.cells blks1 52)).alloc (.cells vs t)) := fun t vs => hb0.alloc ZX _
 go_wp2_with fail
 refine (hn _ ((Below.refl _ _).alloc (Nat.le_refl _) _)).mono ?_
 rintro e w5 ⟨v, rfl, ⟨tb, gn, gl, gk, gf, L, V, rfl, hD⟩, hb5⟩
 have hB5 := (hbl _ _).trans (hb5.mono ZX)
 have n3 : fnO (L.set 0 none) 3 = some 0 := by rw [fnO_ne ZD]; exact fn1_near3 hD.near
 have hfr := front_calls g.out hD 1 ZD ZD
 rw [if_pos (by rw [fn1_order]; simp), fn1_front hD.near] at hfr
 have hO1 : inO (OR fn1) 1 = true := by rw [fn1_order]; decide
 have hO0 : inO (OR fn1) 0 = true := by rw [fn1_order]; decide
 have hO3 : inO (OR fn1) 3 = true := by rw [fn1_order]; decide
 have ov03 : overB (OR fn1) L 0 3 = true := by unfold overB; rw [hO0, hO3]; simpa using fn1_over03 hD.near
 have ov13 : overB (OR fn1) L 1 3 = false := by unfold overB; rw [hO1, hO3]; simpa using fn1_over13 hD.near
 go_wp2_with fail
 refine (tNear_calls g.out hD 3 ZD).mono ?_
 rintro e w6 ⟨⟨p, ⟨-, hp, rfl⟩ | ⟨hp, -⟩⟩, hw6⟩
 case inr => rw [n3] at hp; cases hp
 obtain rfl : 0 = p := by rw [n3] at hp; exact Option.some.inj hp
 subst w6
 clear hp
 go_wp2_with fail
 refine hfr.mono ?_
 rintro e w7 ⟨A7, c7, rfl, l7, k7, r7, hb7⟩
 obtain ⟨b7, o7, rfl, hb7l, hc7⟩ := r7.int (Below.refl _ _) (i := 0) ZD
 replace hc7 : w7.cell? ⟨b7, o7, none⟩ = some (.int .i64 3) := hc7
 have hl1 : (ints [3]).length = 1 := rfl
 rw [hl1]
 have hD7 := hD.keep (Kept.of_below hb7) hb7.size
 have h1 := over_calls g.out hD7 0 3
 rw [ov03] at h1
 go_wp2_with fail
 refine h1.mono ?_
 rintro e w8 ⟨rfl, hb8⟩
 have h2 := over_calls g.out (hD7.keep (Kept.of_below hb8) hb8.size) 1 3
 rw [ov13] at h2
 go_wp2_with fail
 refine h2.mono ?_
 rintro e w9 ⟨rfl, hb9⟩
 go_wp2
 go_ret
 refine ⟨rfl, hB5.trans ((hb7.trans ((hb8.trans (hb9.mono hb8.size)).mono hb7.size)).mono hB5.size)⟩
end Go.Proofs.YtjdkcichkpolgaaGreatDoor
