/- Layer 12's example: its loop, its exit. -/
import Derived.Test.YthhpbkfngcflcaaGreatDoorLpRd
import Derived.Test.YthhpbkfngcflcaaGreatDoorLpPl
import Derived.Test.YthhpbkfngcflcaaGreatDoorLpNewW
namespace Go.Proofs.YthhpbkfngcflcaaGreatDoor
open Go.RowKit
set_option maxRecDepth 100000
def fn2 : PFunc := ⟨[⟨⟨#[110]⟩, 0⟩, ⟨⟨#[118]⟩, 1⟩], [0, 1], [⟨⟨#[97]⟩, [], [], ⟨0, 0, 1, 0⟩⟩, ⟨⟨#[104]⟩, [], [], ⟨1, 1, 2, 3⟩⟩, ⟨⟨#[98]⟩, [], [], ⟨0, 0, 1, 0⟩⟩, ⟨⟨#[122]⟩, [], [], ⟨2, 0, 0, 0⟩⟩]⟩
theorem fn2_typed : typedP fn2 = true := by decide +kernel
theorem fn2_order : OR fn2 = [0, 1, 3, 2] := by decide +kernel
theorem fn2_en : EN fn2 0 = [1] ∧ EN fn2 1 = [2, 3] ∧ EN fn2 2 = [1] ∧ EN fn2 3 = [] := by decide +kernel
theorem fn2_pz : pz 4 [0, 1, 3, 2] 0 = 0 ∧ pz 4 [0, 1, 3, 2] 1 = 1 ∧ pz 4 [0, 1, 3, 2] 2 = 3 ∧ pz 4 [0, 1, 3, 2] 3 = 2 := by decide +kernel
theorem fn2_small : Small fn2 := ⟨ZD, ZD, fun i hi => by
 have : i < 4 := hi
 match i, this with
 | 0, _ => decide
 | 1, _ => decide
 | 2, _ => decide
 | 3, _ => decide⟩
def blks2 : Array Value := #[.string ⟨#[97]⟩, .slice none 0 0, .slice none 0 0, .int .i64 0, .int .i64 0, .int .i64 1, .int .i64 0, .string ⟨#[104]⟩, .slice none 0 0, .slice none 0 0, .int .i64 1, .int .i64 1, .int .i64 2, .int .i64 3, .string ⟨#[98]⟩, .slice none 0 0, .slice none 0 0, .int .i64 0, .int .i64 0, .int .i64 1, .int .i64 0, .string ⟨#[122]⟩, .slice none 0 0, .slice none 0 0, .int .i64 2, .int .i64 0, .int .i64 0, .int .i64 0]
theorem fn2_at {w : World} {b0 b1 b2 : Nat} (h0 : b0 < w.heap.size) (h1 : b1 < w.heap.size) (h2 : b2 < w.heap.size) (c0 : ∀ j, w.cell? ⟨b0, j, none⟩ = vars0[j]?) (c1 : ∀ j, w.cell? ⟨b1, j, none⟩ = (#[.int .i64 0, .int .i64 1] : Array Value)[j]?) (c2 : ∀ j, w.cell? ⟨b2, j, none⟩ = blks2[j]?) :
 FnV w w.heap.size (.agg #[.slice (some ⟨b0, 0, none⟩) 2 2, .slice (some ⟨b1, 0, none⟩) 2 2, .slice (some ⟨b2, 0, none⟩) 4 4]) fn2 := by
 refine ⟨_, _, _, rfl, ⟨_, _, rfl, by simp [Len, fn2], ZD, fun i x hx => ?_⟩, ⟨_, _, rfl, by simp [Len, fn2], ZD, fun i x hx => ?_⟩, ⟨_, _, rfl, by simp [Len, fn2], ZD, fun i x hx => ?_⟩⟩
 · refine ⟨b0, 0, rfl, h0, ?_⟩
   match i, hx with
   | 0, hx => cases hx; exact ⟨ZD, c0 0, c0 1⟩
   | 1, hx => cases hx; exact ⟨ZD, c0 2, c0 3⟩
 · refine ⟨b1, 0, rfl, h1, ?_⟩
   match i, hx with
   | 0, hx => cases hx; exact c1 0
   | 1, hx => cases hx; exact c1 1
 · refine ⟨b2, 0, rfl, h2, ?_⟩
   match i, hx with
   | 0, hx => cases hx; exact ⟨ZD, c2 0, ⟨_, c2 1, sl_nil⟩, ⟨_, c2 2, sl_nil⟩, c2 3, c2 4, c2 5, c2 6⟩
   | 1, hx => cases hx; exact ⟨ZD, c2 7, ⟨_, c2 8, sl_nil⟩, ⟨_, c2 9, sl_nil⟩, c2 10, c2 11, c2 12, c2 13⟩
   | 2, hx => cases hx; exact ⟨ZD, c2 14, ⟨_, c2 15, sl_nil⟩, ⟨_, c2 16, sl_nil⟩, c2 17, c2 18, c2 19, c2 20⟩
   | 3, hx => cases hx; exact ⟨ZD, c2 21, ⟨_, c2 22, sl_nil⟩, ⟨_, c2 23, sl_nil⟩, c2 24, c2 25, c2 26, c2 27⟩
theorem fn2_tab12 : tabB fn2 1 2 = true := by
 refine tabB_iff.2 ⟨by rw [fn2_order]; simp, by rw [fn2_order]; simp, .inr fun h => ?_⟩
 have key : ∀ b, Avoid (fun x y => x ∈ PR fn2 y) 1 b → b ≠ 1 ∧ b ≠ 2 := fun b hb => by
  induction hb with
  | start h => exact ⟨h.symm, ZD⟩
  | @step a b _ hab hne ih =>
   refine ⟨hne, fun e => ?_⟩
   subst e
   obtain ⟨h1, h2⟩ := (mem_PR fn2_typed).1 hab
   have h1 : a < 4 := h1
   obtain ⟨e0, e1, e2, e3⟩ := fn2_en
   match a, h1 with
   | 0, _ => rw [e0] at h2; simp at h2
   | 1, _ => exact ih.1 rfl
   | 2, _ => exact ih.2 rfl
   | 3, _ => rw [e3] at h2; cases h2
 exact (key 2 h).2 rfl
theorem fn2_lat : latL fn2 1 = [2] := by
 have hpr : PR fn2 1 = [0, 2] := by decide +kernel
 have h0 : tabB fn2 1 0 = false := by
  rw [← Bool.not_eq_true, tabB_iff]
  rintro ⟨_, _, h⟩
  rcases h with h | h
  · cases h
  · exact h (.start ZD)
 unfold latL
 rw [hpr]
 simp [h0, fn2_tab12]
theorem fn2_lp : (∀ b, inLp fn2 1 b ↔ b = 1 ∨ b = 2) := by
 obtain ⟨e0, e1, e2, e3⟩ := fn2_en
 intro b
 unfold inLp
 rw [fn2_lat]
 constructor
 · rintro (h | h)
   · exact .inl h
   · refine .inr ?_
     have key : ∀ y, Plus (lpR fn2 [2] 1) 1 y → y = 2 := fun y hy => by
      induction hy with
      | one hr =>
       rcases hr.1 with ⟨_, h2⟩ | ⟨h1, _⟩
       · simpa using h2
       · exact absurd rfl h1
      | @more x y _ hr ih =>
       subst ih
       rcases hr.1 with ⟨h1, _⟩ | ⟨_, h2⟩
       · cases h1
       · have h3 := (mem_PR fn2_typed).1 h2
         have h4 : y < 4 := h3.1
         have h5 := h3.2
         match y, h4 with
         | 0, _ => rw [e0] at h5; simp at h5
         | 1, _ => exact absurd rfl hr.2.2
         | 2, _ => rfl
         | 3, _ => rw [e3] at h5; cases h5
     exact key b h
 · rintro (rfl | rfl)
   · exact .inl rfl
   · exact .inr (.one ⟨.inl ⟨rfl, ZS⟩, by rw [fn2_order]; simp, ZD⟩)
theorem fn2_head : headB fn2 1 = true := decide_eq_true ⟨ZD, mem_headsL.2 ⟨ZD, by rw [show (1 : Int).toNat = 1 from rfl, fn2_lat]; decide⟩⟩
theorem fn2_at_lp (b : Nat) (hb : b < 4) : (lpL fn2 (latL fn2 1) 1).getD b false = decide (b = 1 ∨ b = 2) := by
 rw [Bool.eq_iff_iff, decide_eq_true_eq, ← fn2_lp b]
 exact lpL_in hb
theorem fn2_in (b : Nat) (hb : b < 4) : lpB fn2 true 1 (b : Int) = decide (b = 1 ∨ b = 2) := by
 unfold lpB
 rw [show (1 : Int).toNat = 1 from rfl, Int.toNat_natCast, fn2_at_lp b hb, show fn2.blocks.length = 4 from rfl]
 simp
 omega
theorem fn2_body : bodyL fn2 true 1 4 = [1, 2] := by
 unfold bodyL
 rw [if_pos rfl, show (1 : Int).toNat = 1 from rfl, show List.range 4 = [0, 1, 2, 3] from ZD]
 rw [List.filter_congr (q := fun b => decide (b = 1 ∨ b = 2)) (fun b hb => fn2_at_lp b (by simp at hb; omega))]
 decide
theorem fn2_out : outL fn2 true 1 [1, 2] = [(1, 3)] := by
 obtain ⟨e0, e1, e2, e3⟩ := fn2_en
 have key : ∀ l : List Nat, (∀ c ∈ l, c < 4) → l.filter (fun (c : Nat) => !lpB fn2 true 1 (c : Int)) = l.filter (fun c => !decide (c = 1 ∨ c = 2)) := fun l hl => List.filter_congr fun c hc => by rw [fn2_in c (hl c hc)]
 have k1 := key [2, 3] ZD
 have k2 := key [1] ZD
 unfold outL outJ
 rw [List.flatMap_cons, List.flatMap_cons, List.flatMap_nil, e1, e2, List.take_length, List.take_length, k1, k2]
 decide
theorem fn2_red : redB fn2 = true := by
 obtain ⟨e0, e1, e2, e3⟩ := fn2_en
 obtain ⟨p0, p1, p2, p3⟩ := fn2_pz
 unfold redB
 rw [fn2_order]
 simp only [List.all_cons, List.all_nil, e0, e1, e2, e3, redE, fn2_order, show fn2.blocks.length = 4 from rfl, p0, p1, p2, p3, fn2_tab12]
 decide
set_option maxHeartbeats 4000000 in
theorem livesL_calls {W w : World} (hU : Uni W) (hW : Below W.heap.size W w) :
 Calls Tryz.prog 19 #[] w fun e w' => e = .returned (.bool true) ∧ Below w.heap.size w w' := by
 obtain ⟨V0, hV0⟩ : ∃ V0 : World, V0 = (((w.alloc (.cells vars0 86)).alloc (.cells #[.int .i64 0, .int .i64 1] 3)).alloc (.cells blks2 69)) := ⟨_, rfl⟩
 have hb0 : Below w.heap.size w V0 := by subst hV0; exact BL
 have hU0 : Uni V0 := (hU.below hW).below hb0
 have hs0 : V0.heap.size = w.heap.size + 3 := by subst hV0; simp
 have hF : FnV V0 V0.heap.size (.agg #[.slice (some ⟨w.heap.size, 0, none⟩) 2 2, .slice (some ⟨w.heap.size + 1, 0, none⟩) 2 2, .slice (some ⟨w.heap.size + 2, 0, none⟩) 4 4]) fn2 := by
  refine fn2_at ZO ZO ZO (fun j => ?_) (fun j => ?_) (fun j => ?_)
  · subst hV0
    rw [World.cell?_alloc_lt _ _ _ ZX, World.cell?_alloc_lt _ _ _ ZS]
    exact cell_of_row _ _ j _ _ _ (heap_alloc_new _ _)
  · subst hV0
    rw [World.cell?_alloc_lt _ _ _ ZS]
    exact cell_of_row _ _ j _ _ _ (by simpa using heap_alloc_new (w.alloc (.cells vars0 86)) (.cells #[.int .i64 0, .int .i64 1] 3))
  · subst hV0
    exact cell_of_row _ _ j _ _ _ (by simpa using heap_alloc_new ((w.alloc (.cells vars0 86)).alloc (.cells #[.int .i64 0, .int .i64 1] 3)) (.cells blks2 69))
 have hn := fun (w : World) (h : Below V0.heap.size V0 w) => loopNew_calls hU0 hF h fn2_small fn2_typed
 go_enter Tryz.func19, Tryz.ntmps19
 subst hV0
 have hbl : ∀ t vs, Below w.heap.size w ((((w.alloc (.cells vars0 86)).alloc (.cells #[.int .i64 0, .int .i64 1] 3)).alloc (.cells blks2 69)).alloc (.cells vs t)) := fun t vs => hb0.alloc ZX _
 go_wp2_with fail
 refine (hn _ ((Below.refl _ _).alloc (Nat.le_refl _) _)).mono ?_
 rintro e w5 ⟨nb, mb, ve, vs, es, clk, rfl, hN, hb5⟩
 have hB5 := (hbl _ _).trans (hb5.mono ZX)
 have hO := nof_calls hN ZD 1 ZD ZD
 have hE := hN.endsC fn2_typed 1
 have hR := fun (w' : World) (h : Below w5.heap.size w5 w') => reducible_calls (hN.below h)
 rw [fn2_head] at hO hE
 have hex := exits_calls hO ZD (fun _ => hE)
 rw [show fn2.blocks.length = 4 from rfl, fn2_body, fn2_out, show sortQ [(1, 3)] = [(1, 3)] by decide +kernel] at hex
 have hin := fun (W : World) (hW : Below w5.heap.size w5 W) (c : Int) => nin_calls (b := c) (fun W' hW' => hO W' (hW.trans (hW'.mono hW.size)) : OfC W _ _ fn2 true 1)
 have i2 : lpB fn2 true 1 2 = true := (fn2_in 2 ZD).trans ZD
 have i3 : lpB fn2 true 1 3 = false := (fn2_in 3 ZD).trans ZD
 rw [fn2_red] at hR
 clear hN hO hE
 go_wp2_with fail
 refine hex.mono ?_
 rintro e w6 ⟨v6, rfl, ho6, hb6⟩
 replace ho6 : w6.ownsRow w5.heap.size 65 2 v6 1 [.int .i64 1, .int .i64 3] := ho6
 obtain ⟨g6, c6, hv6, -, hgl6, -, -⟩ := own_succ (n := 0) ho6
 replace hv6 : v6 = .slice (some ⟨g6, 0, none⟩) 1 c6 := hv6
 subst hv6
 have k0 := ho6.cellAt 0 ZD
 have k1 := ho6.cellAt 1 ZD
 replace k0 : w6.cell? ⟨g6, 0, none⟩ = some (.int .i64 1) := k0
 replace k1 : w6.cell? ⟨g6, 1, none⟩ = some (.int .i64 3) := k1
 have h1 := hin w6 hb6 2
 rw [i2] at h1
 clear ho6 hex
 go_wp2_with fail
 refine h1.mono ?_
 rintro e w7 ⟨rfl, hb7⟩
 have h2 := hin w7 (hb6.trans (hb7.mono hb6.size)) 3
 rw [i3] at h2
 go_wp2_with fail
 refine h2.mono ?_
 rintro e w8 ⟨rfl, hb8⟩
 have hb68 := hb7.trans (hb8.mono hb7.size)
 replace k0 := (hb68.cell (p := ⟨g6, 0, none⟩) hgl6).trans k0
 replace k1 := (hb68.cell (p := ⟨g6, 1, none⟩) hgl6).trans k1
 replace hgl6 := Nat.lt_of_lt_of_le hgl6 hb68.size
 have heq := eqQ 1 3 1 3 w8
 rw [show decide ((1 : Int) = 1 ∧ (3 : Int) = 3) = true from ZD] at heq
 have h3 := hR w8 (hb6.trans (hb68.mono hb6.size))
 go_wp2_with (go_at_call 56; refine h3.mono ?_; rintro e w9 ⟨rfl, rfl⟩)
 go_ret
 exact ⟨rfl, hB5.trans ((hb6.trans (hb68.mono hb6.size)).mono hB5.size)⟩
end Go.Proofs.YthhpbkfngcflcaaGreatDoor
