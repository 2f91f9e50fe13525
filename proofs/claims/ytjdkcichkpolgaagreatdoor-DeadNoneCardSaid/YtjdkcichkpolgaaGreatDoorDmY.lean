/- Layer 32's example: of an add and a div that nobody asks for, the div stays. -/
import Derived.Test.YtjdkcichkpolgaaGreatDoorDmD
import Derived.Test.YtjdkcichkpolgaaGreatDoorDmJ
namespace Go.Proofs.YtjdkcichkpolgaaGreatDoor
open Go.RowKit
set_option maxRecDepth 100000
def fnD : PFunc := ⟨[⟨⟨#[110]⟩, 0⟩, ⟨⟨#[109]⟩, 0⟩, ⟨⟨#[107]⟩, 0⟩], [0], [⟨⟨#[97]⟩, [], [⟨2, 1, [0, 0], 0⟩, ⟨5, 2, [0, 0], 0⟩], ⟨2, 0, 0, 0⟩⟩]⟩
def fnD2 : PFunc := ⟨[⟨⟨#[110]⟩, 0⟩, ⟨⟨#[109]⟩, 0⟩, ⟨⟨#[107]⟩, 0⟩], [0], [⟨⟨#[97]⟩, [], [⟨5, 2, [0, 0], 0⟩], ⟨2, 0, 0, 0⟩⟩]⟩
theorem fnD_few : fewB fnD = true := by decide +kernel
theorem fnD_typed : typedP fnD = true := by decide +kernel
theorem fnD_be (T : Nat → Nat → Bool) : behindB fnD T 0 = true := by rfl
theorem fnD_right : rightS fnD = true := by
 rw [rightS, single_yes (by decide +kernel) (by decide +kernel) (by decide +kernel) (fun i hi => by
  have : i < 1 := hi
  obtain rfl : i = 0 := by omega
  exact fnD_be _), fnD_typed]
 rfl
theorem fnD_nd : ndL fnD = [true, false, false] := by
 refine (ndL_of (F := fnD) (l := [true, false, false]) rfl (fun u hu => ?_) (fun u hu => ?_)).symm
 · match u, hu with
   | 0, _ => exact .term (b := ⟨⟨#[97]⟩, [], [⟨2, 1, [0, 0], 0⟩, ⟨5, 2, [0, 0], 0⟩], ⟨2, 0, 0, 0⟩⟩) (by simp [fnD]) ZD
   | 1, h => cases h
   | 2, h => cases h
   | u + 3, h => cases h
 · have := ask_whole (l := [true, false, false]) (rngF_of fnD_typed) (fun u hu => by
    have : u < 3 := hu
    match u, this with
    | 0, _ => exact .inl rfl
    | 1, _ => exact .inr ZD
    | 2, _ => exact .inr ZD) hu
   simpa using this
theorem fnD_sw : SwF (ndL fnD) fnD = fnD2 := by rw [fnD_nd]; rfl
theorem box6 {w V : World} {b0 b1 b2 b3 b4 b5 : Array Value} {t0 t1 t2 t3 t4 t5 : TypeId} (hV : V = ((((((w.alloc (.cells b0 t0)).alloc (.cells b1 t1)).alloc (.cells b2 t2)).alloc (.cells b3 t3)).alloc (.cells b4 t4)).alloc (.cells b5 t5))) :
 BoxAt V (w.heap.size) b0 t0 ∧ BoxAt V (w.heap.size + 1) b1 t1 ∧ BoxAt V (w.heap.size + 1 + 1) b2 t2 ∧ BoxAt V (w.heap.size + 1 + 1 + 1) b3 t3 ∧ BoxAt V (w.heap.size + 1 + 1 + 1 + 1) b4 t4 ∧ BoxAt V (w.heap.size + 1 + 1 + 1 + 1 + 1) b5 t5 := by
 subst hV
 have h0 := BoxAt.new w b0 t0
 have h1 := BoxAt.new (w.alloc (.cells b0 t0)) b1 t1
 replace h0 := h0.alloc (.cells b1 t1)
 have h2 := BoxAt.new ((w.alloc (.cells b0 t0)).alloc (.cells b1 t1)) b2 t2
 replace h0 := h0.alloc (.cells b2 t2)
 replace h1 := h1.alloc (.cells b2 t2)
 have h3 := BoxAt.new (((w.alloc (.cells b0 t0)).alloc (.cells b1 t1)).alloc (.cells b2 t2)) b3 t3
 replace h0 := h0.alloc (.cells b3 t3)
 replace h1 := h1.alloc (.cells b3 t3)
 replace h2 := h2.alloc (.cells b3 t3)
 have h4 := BoxAt.new ((((w.alloc (.cells b0 t0)).alloc (.cells b1 t1)).alloc (.cells b2 t2)).alloc (.cells b3 t3)) b4 t4
 replace h0 := h0.alloc (.cells b4 t4)
 replace h1 := h1.alloc (.cells b4 t4)
 replace h2 := h2.alloc (.cells b4 t4)
 replace h3 := h3.alloc (.cells b4 t4)
 have h5 := BoxAt.new (((((w.alloc (.cells b0 t0)).alloc (.cells b1 t1)).alloc (.cells b2 t2)).alloc (.cells b3 t3)).alloc (.cells b4 t4)) b5 t5
 replace h0 := h0.alloc (.cells b5 t5)
 replace h1 := h1.alloc (.cells b5 t5)
 replace h2 := h2.alloc (.cells b5 t5)
 replace h3 := h3.alloc (.cells b5 t5)
 replace h4 := h4.alloc (.cells b5 t5)
 simp only [World.size_alloc] at h1 h2 h3 h4 h5
 exact ⟨h0, h1, h2, h3, h4, h5⟩
theorem fnD_at {w : World} {b : Nat} (hl : b + 5 < w.heap.size) (c0 : ∀ j, w.cell? ⟨b, j, none⟩ = (#[.string ⟨#[110]⟩, .int .i64 0, .string ⟨#[109]⟩, .int .i64 0, .string ⟨#[107]⟩, .int .i64 0] : Array Value)[j]?) (c1 : ∀ j, w.cell? ⟨b + 1, j, none⟩ = (#[.int .i64 0] : Array Value)[j]?) (c2 : ∀ j, w.cell? ⟨b + 2, j, none⟩ = (#[.int .i64 0, .int .i64 0] : Array Value)[j]?)
 (c3 : ∀ j, w.cell? ⟨b + 3, j, none⟩ = (#[.int .i64 0, .int .i64 0] : Array Value)[j]?) (c4 : ∀ j, w.cell? ⟨b + 4, j, none⟩ = (#[.int .i64 2, .int .i64 1, .slice (some ⟨b + 2, 0, none⟩) 2 2, .int .i64 0, .int .i64 5, .int .i64 2, .slice (some ⟨b + 3, 0, none⟩) 2 2, .int .i64 0] : Array Value)[j]?)
 (c5 : ∀ j, w.cell? ⟨b + 5, j, none⟩ = (#[.string ⟨#[97]⟩, .slice none 0 0, .slice (some ⟨b + 4, 0, none⟩) 2 2, .int .i64 2, .int .i64 0, .int .i64 0, .int .i64 0] : Array Value)[j]?) :
 FnV w w.heap.size (.agg #[.slice (some ⟨b, 0, none⟩) 3 3, .slice (some ⟨b + 1, 0, none⟩) 1 1, .slice (some ⟨b + 5, 0, none⟩) 1 1]) fnD := by
 refine ⟨_, _, _, rfl, ⟨_, _, rfl, by simp [Len, fnD], ZD, fun i x hx => ?_⟩, ⟨_, _, rfl, by simp [Len, fnD], ZD, fun i x hx => ?_⟩, ⟨_, _, rfl, by simp [Len, fnD], ZD, fun i x hx => ?_⟩⟩
 · refine ⟨b, 0, rfl, ZO, ?_⟩
   match i, hx with
   | 0, hx => cases hx; exact ⟨ZD, c0 0, c0 1⟩
   | 1, hx => cases hx; exact ⟨ZD, c0 2, c0 3⟩
   | 2, hx => cases hx; exact ⟨ZD, c0 4, c0 5⟩
 · refine ⟨b + 1, 0, rfl, ZO, ?_⟩
   match i, hx with
   | 0, hx => cases hx; exact c1 0
 · refine ⟨b + 5, 0, rfl, ZO, ?_⟩
   match i, hx with
   | 0, hx =>
    cases hx
    refine ⟨ZD, c5 0, ⟨_, c5 1, sl_nil⟩, ⟨_, c5 2, _, _, rfl, by simp [Len], ZD, fun i x hx => ⟨b + 4, 0, rfl, ZO, ?_⟩⟩, c5 3, c5 4, c5 5, c5 6⟩
    match i, hx with
    | 0, hx =>
     cases hx
     refine ⟨c4 0, c4 1, ⟨_, c4 2, _, _, rfl, by simp [Len], ZD, fun i x hx => ⟨b + 2, 0, rfl, ZO, ?_⟩⟩, c4 3⟩
     match i, hx with
     | 0, hx => cases hx; exact c2 0
     | 1, hx => cases hx; exact c2 1
    | 1, hx =>
     cases hx
     refine ⟨c4 4, c4 5, ⟨_, c4 6, _, _, rfl, by simp [Len], ZD, fun i x hx => ⟨b + 3, 0, rfl, ZO, ?_⟩⟩, c4 7⟩
     match i, hx with
     | 0, hx => cases hx; exact c3 0
     | 1, hx => cases hx; exact c3 1
set_option maxHeartbeats 4000000 in
theorem livesX_calls {W w : World} (hU : Uni W) (hW : Below W.heap.size W w) :
 Calls Tryz.prog 32 #[] w fun e w' => e = .returned (.bool true) ∧ Below w.heap.size w w' := by
 obtain ⟨V, hV⟩ : ∃ V : World, V = (((((w.alloc (.cells #[.string ⟨#[110]⟩, .int .i64 0, .string ⟨#[109]⟩, .int .i64 0, .string ⟨#[107]⟩, .int .i64 0] 63)).alloc (.cells #[.int .i64 0] 3)).alloc (.cells #[.int .i64 0, .int .i64 0] 3)).alloc (.cells #[.int .i64 0, .int .i64 0] 3)).alloc (.cells #[.int .i64 2, .int .i64 1, .slice (some ⟨w.heap.size + 1 + 1, 0, none⟩) 2 2, .int .i64 0, .int .i64 5, .int .i64 2, .slice (some ⟨w.heap.size + 1 + 1 + 1, 0, none⟩) 2 2, .int .i64 0] 55)).alloc (.cells #[.string ⟨#[97]⟩, .slice none 0 0, .slice (some ⟨w.heap.size + 1 + 1 + 1 + 1, 0, none⟩) 2 2, .int .i64 2, .int .i64 0, .int .i64 0, .int .i64 0] 52) := ⟨_, rfl⟩
 have hb0 : Below w.heap.size w V := by subst hV; (focus repeat (first | assumption | exact Below.refl _ _ | refine Below.drew ?_ | refine Below.alloc ?_ (by first | omega | exact Below.size ZA | (simp; done) | (simp; omega)) _ | (refine Below.trans ?_ (Below.mono ZA ?_); rotate_left; exact (by first | omega | exact Below.size ZA | (simp; done) | (simp; omega)))))
 have hU9 := (hU.below hW).below hb0
 have hs9 : V.heap.size = w.heap.size + 6 := by subst hV; simp
 obtain ⟨x0, x1, x2, x3, x4, x5⟩ := box6 hV
 have hF1 : FnV V V.heap.size (.agg #[.slice (some ⟨w.heap.size, 0, none⟩) 3 3, .slice (some ⟨w.heap.size + 1, 0, none⟩) 1 1, .slice (some ⟨w.heap.size + 1 + 1 + 1 + 1 + 1, 0, none⟩) 1 1]) fnD :=
  fnD_at (b := w.heap.size) ZO x0.cell x1.cell x2.cell x3.cell x4.cell x5.cell
 have h1 := sweep_calls hU9 hF1 (BL_alloc V (.cells #[.slice (some ⟨w.heap.size, 0, none⟩) 3 3, .slice (some ⟨w.heap.size + 1, 0, none⟩) 1 1, .slice (some ⟨w.heap.size + 1 + 1 + 1 + 1 + 1, 0, none⟩) 1 1] 26)) (few_small fnD_few) (few_bnd fnD_few)
 unfold RetSw at h1
 rw [fnD_right, fnD_sw] at h1
 have HB0 := Lib.hid hb0
 have HVF := Lib.hid (BL_alloc V (.cells #[.slice (some ⟨w.heap.size, 0, none⟩) 3 3, .slice (some ⟨w.heap.size + 1, 0, none⟩) 1 1, .slice (some ⟨w.heap.size + 1 + 1 + 1 + 1 + 1, 0, none⟩) 1 1] 26))
 have h9 : w.heap.size ≤ V.heap.size := by omega
 clear x0 x1 x2 x3 x4 x5 hF1 hU9 hU hW hs9 hb0
 go_enter Tryz.func32, Tryz.ntmps32
 go_wp2_with fail
 rw [← hV]
 clear hV
 refine h1.mono ?_
 rintro e w5 ⟨⟨h, -⟩ | ⟨-, v, rfl, hG⟩, hb5⟩
 · cases h
 obtain ⟨A0, c0, A1, c1, A2, c2, rfl, -, -, -, -, -, -, -, -, r2⟩ := hG.open_
 obtain ⟨bb, off, A3, c3, A4, c4, rfl, hbb, -, -, hy1, hy2, -, -, -, -, -, -, -, -, -, r4⟩ := r2.blk (Below.refl _ _) (i := 0) ZD
 obtain ⟨bi, oi, A5, c5, rfl, hbi, hx0, -⟩ := r4.inst (Below.refl _ _) (i := 0) ZD
 replace hy2 : w5.cell? ⟨bb, off + 2, none⟩ = some (.slice (some ⟨bi, oi, none⟩) 1 c4) := by
  rw [show (fnD2.blk 0).insts.length = 1 from rfl] at hy2
  simpa using hy2
 replace hx0 : w5.cell? ⟨bi, oi, none⟩ = some (.int .i64 5) := by
  rw [show ((fnD2.blk 0).inst 0).op = 5 from rfl] at hx0
  simpa using hx0
 have HB5 := Lib.hid (HB0.out.trans ((HVF.out.trans (hb5.mono HVF.out.size)).mono h9))
 have e0 : fnD2.vars.length = 3 := rfl
 have e1 : fnD2.params.length = 1 := rfl
 have e2 : fnD2.blocks.length = 1 := rfl
 rw [e0, e1, e2]
 clear e0 e1 e2 hy1 hb5 hG r2 r4 h1
 go_wp2
 go_ret
 exact ⟨rfl, BL⟩
end Go.Proofs.YtjdkcichkpolgaaGreatDoor
