/- Layer 32's example: of an add and a div that nobody asks for, the div stays. -/
import Derived.Test.YtjdkcichkpolgaaGreatDoorDmD
import Derived.Test.YtjdkcichkpolgaaGreatDoorDmJ
import Derived.Test.YtjdkcichkpolgaaGreatDoorDmV
import Derived.Test.YtjdkcichkpolgaaGreatDoorSame
import Derived.Test.YtjdkcichkpolgaaGreatDoorFewB
namespace Go.Proofs.YtjdkcichkpolgaaGreatDoor
open Go.RowKit
set_option maxRecDepth 100000
def fnD : PFunc := ⟨[⟨⟨#[110]⟩, 0⟩, ⟨⟨#[109]⟩, 0⟩, ⟨⟨#[107]⟩, 0⟩], [0], [⟨⟨#[97]⟩, [], [⟨2, 1, [0, 0], 0⟩, ⟨5, 2, [0, 0], 0⟩], ⟨2, 0, 0, 0⟩⟩]⟩
def fnD2 : PFunc := ⟨[⟨⟨#[110]⟩, 0⟩, ⟨⟨#[109]⟩, 0⟩, ⟨⟨#[107]⟩, 0⟩], [0], [⟨⟨#[97]⟩, [], [⟨5, 2, [0, 0], 0⟩], ⟨2, 0, 0, 0⟩⟩]⟩
theorem fnD_few : fewB fnD = true := by decide +kernel
theorem fnD_typed : typedP fnD = true := by decide +kernel
theorem fnD_be (T : Nat → Nat → Bool) : behindB fnD T 0 = true := by rfl
theorem fnD_right : rightS fnD = true := by
 rw [rightS, single_yes (by decide +kernel) (by decide +kernel) (by decide +kernel) (fun i hi => by
  have : i < 1 := hi
  obtain rfl : i = 0 := by omega
  exact fnD_be _), fnD_typed]
 rfl
theorem fnD_nd : ndL fnD = [true, false, false] := by
 refine (ndL_of (F := fnD) (l := [true, false, false]) rfl (fun u hu => ?_) (fun u hu => ?_)).symm
 · match u, hu with
   | 0, _ => exact .term (b := ⟨⟨#[97]⟩, [], [⟨2, 1, [0, 0], 0⟩, ⟨5, 2, [0, 0], 0⟩], ⟨2, 0, 0, 0⟩⟩) (by simp [fnD]) ZD
   | 1, h => cases h
   | 2, h => cases h
   | u + 3, h => cases h
 · have := ask_whole (l := [true, false, false]) (rngF_of fnD_typed) (fun u hu => by
    have : u < 3 := hu
    match u, this with
    | 0, _ => exact .inl rfl
    | 1, _ => exact .inr ZD
    | 2, _ => exact .inr ZD) hu
   simpa using this
theorem fnD_sw : SwF (ndL fnD) fnD = fnD2 := by rw [fnD_nd]; rfl
theorem box6 {w V : World} {b0 b1 b2 b3 b4 b5 : Array Value} {t0 t1 t2 t3 t4 t5 : TypeId} (hV : V = ((((((w.alloc (.cells b0 t0)).alloc (.cells b1 t1)).alloc (.cells b2 t2)).alloc (.cells b3 t3)).alloc (.cells b4 t4)).alloc (.cells b5 t5))) :
 BoxAt V (w.heap.size) b0 t0 ∧ BoxAt V (w.heap.size + 1) b1 t1 ∧ BoxAt V (w.heap.size + 1 + 1) b2 t2 ∧ BoxAt V (w.heap.size + 1 + 1 + 1) b3 t3 ∧ BoxAt V (w.heap.size + 1 + 1 + 1 + 1) b4 t4 ∧ BoxAt V (w.heap.size + 1 + 1 + 1 + 1 + 1) b5 t5 := by
 subst hV
 have h0 := BoxAt.new w b0 t0
 have h1 := BoxAt.new (w.alloc (.cells b0 t0)) b1 t1
 replace h0 := h0.alloc (.cells b1 t1)
 have h2 := BoxAt.new ((w.alloc (.cells b0 t0)).alloc (.cells b1 t1)) b2 t2
 replace h0 := h0.alloc (.cells b2 t2)
 replace h1 := h1.alloc (.cells b2 t2)
 have h3 := BoxAt.new (((w.alloc (.cells b0 t0)).alloc (.cells b1 t1)).alloc (.cells b2 t2)) b3 t3
 replace h0 := h0.alloc (.cells b3 t3)
 replace h1 := h1.alloc (.cells b3 t3)
 replace h2 := h2.alloc (.cells b3 t3)
 have h4 := BoxAt.new ((((w.alloc (.cells b0 t0)).alloc (.cells b1 t1)).alloc (.cells b2 t2)).alloc (.cells b3 t3)) b4 t4
 replace h0 := h0.alloc (.cells b4 t4)
 replace h1 := h1.alloc (.cells b4 t4)
 replace h2 := h2.alloc (.cells b4 t4)
 replace h3 := h3.alloc (.cells b4 t4)
 have h5 := BoxAt.new (((((w.alloc (.cells b0 t0)).alloc (.cells b1 t1)).alloc (.cells b2 t2)).alloc (.cells b3 t3)).alloc (.cells b4 t4)) b5 t5
 replace h0 := h0.alloc (.cells b5 t5)
 replace h1 := h1.alloc (.cells b5 t5)
 replace h2 := h2.alloc (.cells b5 t5)
 replace h3 := h3.alloc (.cells b5 t5)
 replace h4 := h4.alloc (.cells b5 t5)
 simp only [World.size_alloc] at h1 h2 h3 h4 h5
 exact ⟨h0, h1, h2, h3, h4, h5⟩
theorem fnD_at {w : World} {b : Nat} (hl : b + 5 < w.heap.size) (c0 : ∀ j, w.cell? ⟨b, j, none⟩ = (#[.string ⟨#[110]⟩, .int .i64 0, .string ⟨#[109]⟩, .int .i64 0, .string ⟨#[107]⟩, .int .i64 0] : Array Value)[j]?) (c1 : ∀ j, w.cell? ⟨b + 1, j, none⟩ = (#[.int .i64 0] : Array Value)[j]?) (c2 : ∀ j, w.cell? ⟨b + 2, j, none⟩ = (#[.int .i64 0, .int .i64 0] : Array Value)[j]?)
 (c3 : ∀ j, w.cell? ⟨b + 3, j, none⟩ = (#[.int .i64 0, .int .i64 0] : Array Value)[j]?) (c4 : ∀ j, w.cell? ⟨b + 4, j, none⟩ = (#[.int .i64 2, .int .i64 1, .slice (some ⟨b + 2, 0, none⟩) 2 2, .int .i64 0, .int .i64 5, .int .i64 2, .slice (some ⟨b + 3, 0, none⟩) 2 2, .int .i64 0] : Array Value)[j]?)
 (c5 : ∀ j, w.cell? ⟨b + 5, j, none⟩ = (#[.string ⟨#[97]⟩, .slice none 0 0, .slice (some ⟨b + 4, 0, none⟩) 2 2, .int .i64 2, .int .i64 0, .int .i64 0, .int .i64 0] : Array Value)[j]?) :
 FnV w w.heap.size (.agg #[.slice (some ⟨b, 0, none⟩) 3 3, .slice (some ⟨b + 1, 0, none⟩) 1 1, .slice (some ⟨b + 5, 0, none⟩) 1 1]) fnD := by
 refine ⟨_, _, _, rfl, ⟨_, _, rfl, by simp [Len, fnD], ZD, fun i x hx => ?_⟩, ⟨_, _, rfl, by simp [Len, fnD], ZD, fun i x hx => ?_⟩, ⟨_, _, rfl, by simp [Len, fnD], ZD, fun i x hx => ?_⟩⟩
 · refine ⟨b, 0, rfl, ZO, ?_⟩
   match i, hx with
   | 0, hx => cases hx; exact ⟨ZD, c0 0, c0 1⟩
   | 1, hx => cases hx; exact ⟨ZD, c0 2, c0 3⟩
   | 2, hx => cases hx; exact ⟨ZD, c0 4, c0 5⟩
 · refine ⟨b + 1, 0, rfl, ZO, ?_⟩
   match i, hx with
   | 0, hx => cases hx; exact c1 0
 · refine ⟨b + 5, 0, rfl, ZO, ?_⟩
   match i, hx with
   | 0, hx =>
    cases hx
    refine ⟨ZD, c5 0, ⟨_, c5 1, sl_nil⟩, ⟨_, c5 2, _, _, rfl, by simp [Len], ZD, fun i x hx => ⟨b + 4, 0, rfl, ZO, ?_⟩⟩, c5 3, c5 4, c5 5, c5 6⟩
    match i, hx with
    | 0, hx =>
     cases hx
     refine ⟨c4 0, c4 1, ⟨_, c4 2, _, _, rfl, by simp [Len], ZD, fun i x hx => ⟨b + 2, 0, rfl, ZO, ?_⟩⟩, c4 3⟩
     match i, hx with
     | 0, hx => cases hx; exact c2 0
     | 1, hx => cases hx; exact c2 1
    | 1, hx =>
     cases hx
     refine ⟨c4 4, c4 5, ⟨_, c4 6, _, _, rfl, by simp [Len], ZD, fun i x hx => ⟨b + 3, 0, rfl, ZO, ?_⟩⟩, c4 7⟩
     match i, hx with
     | 0, hx => cases hx; exact c3 0
     | 1, hx => cases hx; exact c3 1
set_option maxHeartbeats 4000000 in
theorem livesX_calls {W w : World} (hU : Uni W) (hW : Below W.heap.size W w) :
 Calls Tryz.prog 32 #[] w fun e w' => e = .returned (.bool true) ∧ Below w.heap.size w w' := by
 obtain ⟨V, hV⟩ : ∃ V : World, V = (((((w.alloc (.cells #[.string ⟨#[110]⟩, .int .i64 0, .string ⟨#[109]⟩, .int .i64 0, .string ⟨#[107]⟩, .int .i64 0] 63)).alloc (.cells #[.int .i64 0] 3)).alloc (.cells #[.int .i64 0, .int .i64 0] 3)).alloc (.cells #[.int .i64 0, .int .i64 0] 3)).alloc (.cells #[.int .i64 2, .int .i64 1, .slice (some ⟨w.heap.size + 1 + 1, 0, none⟩) 2 2, .int .i64 0, .int .i64 5, .int .i64 2, .slice (some ⟨w.heap.size + 1 + 1 + 1, 0, none⟩) 2 2, .int .i64 0] 55)).alloc (.cells #[.string ⟨#[97]⟩, .slice none 0 0, .slice (some ⟨w.heap.size + 1 + 1 + 1 + 1, 0, none⟩) 2 2, .int .i64 2, .int .i64 0, .int .i64 0, .int .i64 0] 52) := ⟨_, rfl⟩
 have hb0 : Below w.heap.size w V := by subst hV; (focus repeat (first | assumption | exact Below.refl _ _ | refine Below.drew ?_ | refine Below.alloc ?_ (by first | omega | exact Below.size ZA | (simp; done) | (simp; omega)) _ | (refine Below.trans ?_ (Below.mono ZA ?_); rotate_left; exact (by first | omega | exact Below.size ZA | (simp; done) | (simp; omega)))))
 have hU9 := (hU.below hW).below hb0
 have hs9 : V.heap.size = w.heap.size + 6 := by subst hV; simp
 obtain ⟨x0, x1, x2, x3, x4, x5⟩ := box6 hV
 have hF1 : FnV V V.heap.size (.agg #[.slice (some ⟨w.heap.size, 0, none⟩) 3 3, .slice (some ⟨w.heap.size + 1, 0, none⟩) 1 1, .slice (some ⟨w.heap.size + 1 + 1 + 1 + 1 + 1, 0, none⟩) 1 1]) fnD :=
  fnD_at (b := w.heap.size) ZO x0.cell x1.cell x2.cell x3.cell x4.cell x5.cell
 have h1 := sweep_calls hU9 hF1 (BL_alloc V (.cells #[.slice (some ⟨w.heap.size, 0, none⟩) 3 3, .slice (some ⟨w.heap.size + 1, 0, none⟩) 1 1, .slice (some ⟨w.heap.size + 1 + 1 + 1 + 1 + 1, 0, none⟩) 1 1] 26)) (few_small fnD_few) (few_bnd fnD_few)
 unfold RetSw at h1
 rw [fnD_right, fnD_sw] at h1
 have HB0 := Lib.hid hb0
 have HVF := Lib.hid (BL_alloc V (.cells #[.slice (some ⟨w.heap.size, 0, none⟩) 3 3, .slice (some ⟨w.heap.size + 1, 0, none⟩) 1 1, .slice (some ⟨w.heap.size + 1 + 1 + 1 + 1 + 1, 0, none⟩) 1 1] 26))
 have h9 : w.heap.size ≤ V.heap.size := by omega
 clear x0 x1 x2 x3 x4 x5 hF1 hU9 hU hW hs9 hb0
 go_enter Tryz.func32, Tryz.ntmps32
 go_wp2_with fail
 rw [← hV]
 clear hV
 refine h1.mono ?_
 rintro e w5 ⟨⟨h, -⟩ | ⟨-, v, rfl, hG⟩, hb5⟩
 · cases h
 obtain ⟨A0, c0, A1, c1, A2, c2, rfl, -, -, -, -, -, -, -, -, r2⟩ := hG.open_
 obtain ⟨bb, off, A3, c3, A4, c4, rfl, hbb, -, -, hy1, hy2, -, -, -, -, -, -, -, -, -, r4⟩ := r2.blk (Below.refl _ _) (i := 0) ZD
 obtain ⟨bi, oi, A5, c5, rfl, hbi, hx0, -⟩ := r4.inst (Below.refl _ _) (i := 0) ZD
 replace hy2 : w5.cell? ⟨bb, off + 2, none⟩ = some (.slice (some ⟨bi, oi, none⟩) 1 c4) := by
  rw [show (fnD2.blk 0).insts.length = 1 from rfl] at hy2
  simpa using hy2
 replace hx0 : w5.cell? ⟨bi, oi, none⟩ = some (.int .i64 5) := by
  rw [show ((fnD2.blk 0).inst 0).op = 5 from rfl] at hx0
  simpa using hx0
 have HB5 := Lib.hid (HB0.out.trans ((HVF.out.trans (hb5.mono HVF.out.size)).mono h9))
 have e0 : fnD2.vars.length = 3 := rfl
 have e1 : fnD2.params.length = 1 := rfl
 have e2 : fnD2.blocks.length = 1 := rfl
 rw [e0, e1, e2]
 clear e0 e1 e2 hy1 hb5 hG r2 r4 h1
 go_wp2
 go_ret
 exact ⟨rfl, BL⟩
end Go.Proofs.YtjdkcichkpolgaaGreatDoor
namespace Go.Proofs.YtjdkcichkpolgaaGreatDoor
open Go.RowKit
set_option maxRecDepth 100000
set_option maxHeartbeats 8000000 in
theorem deadTells_law {W : World} {fv : Value} {F : PFunc} (hU : Uni W) (hF : FnV W W.heap.size fv F) :
 Calls Tryz.prog 8 #[fv] W fun e w' => e = .returned (.bool true) ∧ Below W.heap.size W w' := by
 have hlv := fun (w : World) (h : Below W.heap.size W w) => livesX_calls hU h
 have hfw := fun (w : World) (h : Below W.heap.size W w) => few_calls hF h
 obtain ⟨w, rfl⟩ : ∃ w : World, w = W := ⟨_, rfl⟩
 obtain ⟨A0, c0, A1, c1, A2, c2, rfl, l0, l1, l2, -, -, -, r0, r1, r2⟩ := id hF.open_
 unfold Len at *
 clear r0 r1 r2
 have hb0 := (Below.refl w.heap.size w).alloc (Nat.le_refl _) (.cells #[.slice A0 F.vars.length c0, .slice A1 F.params.length c1, .slice A2 F.blocks.length c2] 26)
 cases hx : fewB F
 · as_aux_lemma =>
   rw [hx] at hfw
   clear hx hF
   go_enter Tryz.func8, Tryz.ntmps8
   go_wp2_with fail
   refine (hlv _ BL).mono ?_
   (rintro e w1 ⟨rfl, hb1⟩; obtain ⟨hc1, hf1⟩ := bcell hb1; have hz1 := hb1.size; try simp at hz1; try have hy1 := Nat.lt_of_succ_le hz1; try have hx1 := Nat.lt_of_succ_lt hy1; try have hw1 := Nat.lt_of_succ_lt hx1)
   go_wp2_with fail
   refine (hfw _ BL).mono ?_
   (rintro e w2 ⟨rfl, hb2⟩; obtain ⟨hc2, hf2⟩ := bcell hb2; have hz2 := hb2.size; try simp at hz2; try have hy2 := Nat.lt_of_succ_le hz2; try have hx2 := Nat.lt_of_succ_lt hy2; try have hw2 := Nat.lt_of_succ_lt hx2)
   go_wp2_with fail
   refine (hlv _ BL).mono ?_
   (rintro e w3 ⟨rfl, hb3⟩; obtain ⟨hc3, hf3⟩ := bcell hb3; have hz3 := hb3.size; try simp at hz3; try have hy3 := Nat.lt_of_succ_le hz3; try have hx3 := Nat.lt_of_succ_lt hy3; try have hw3 := Nat.lt_of_succ_lt hx3)
   go_wp2
   go_ret
   exact ⟨rfl, BL⟩
 rw [hx] at hfw
 have hS := few_small hx
 have hBn := few_bnd hx
 have HSW := Lib.hid (fun (w' : World) (h : Below w.heap.size w w') => sweep_calls hU hF h hS hBn)
 have HND := Lib.hid (fun (w' : World) (h : Below w.heap.size w w') => deadNeeded_calls hU hF h hS hBn)
 have HSG := Lib.hid (fun (w' : World) (h : Below w.heap.size w w') => lawSingle_calls hU hF h)
 have e1 : (lawT F && singleB F) = rightS F := by rw [lawT, hx, rightS, Bool.true_and]
 rw [e1] at HSG
 have HRN := Lib.hid (fun (hT : typedP F = true) (w' : World) (h : Below w.heap.size w w') => refNeeded_calls hF h hT)
 have HRS := Lib.hid (fun (hT : typedP F = true) (w' : World) (h : Below w.heap.size w w') => refSweep_calls hF h hT hBn)
 have hnl : (ndL F).length = F.vars.length := by simp [ndL]
 have HX0 := Lib.hid (BoxAt.new w #[.slice A0 F.vars.length c0, .slice A1 F.params.length c1, .slice A2 F.blocks.length c2] 26)
 clear hx hF hS hBn e1
 unfold RetSw at HSW
 cases hr : rightS F
 · as_aux_lemma =>
   have hsw := HSW.out
   have hnd := HND.out
   have hsg := HSG.out
   rw [hr] at hsw hnd hsg
   clear HSW HND HSG HRN HRS hr
   go_enter Tryz.func8, Tryz.ntmps8
   go_wp2_with fail
   refine (hlv _ hb0).mono ?_
   rintro e w1 ⟨rfl, hb1⟩
   have hx1 := HX0.out.below hb1 HX0.out.lt
   have hB1 := hb0.trans (hb1.mono hb0.size)
   have q0 := hx1.cell 0
   have q1 := hx1.cell 1
   have q2 := hx1.cell 2
   have ql := hx1.lt
   simp at q0 q1 q2
   go_wp2_with fail
   refine (hfw _ hB1).mono ?_
   rintro e w2 ⟨rfl, hb2⟩
   have hx2 := hx1.below hb2 hx1.lt
   have hB2 := hB1.trans (hb2.mono hB1.size)
   clear q0 q1 q2 ql
   have q0 := hx2.cell 0
   have q1 := hx2.cell 1
   have q2 := hx2.cell 2
   have ql := hx2.lt
   simp at q0 q1 q2
   go_wp2_with fail
   refine (hsw _ hB2).mono ?_
   rintro e w5 ⟨⟨-, rfl⟩ | ⟨h, -⟩, hb5⟩
   case inr => cases h
   have hb6 := hb5.trans ((BL_alloc w5 (.cells #[.slice none 0 0, .slice none 0 0, .slice none 0 0] 26)).mono hb5.size)
   have hx6 := hx2.below hb6 hx2.lt
   have hB6 := hB2.trans (hb6.mono hB2.size)
   have hg6 := BoxAt.new w5 #[.slice none 0 0, .slice none 0 0, .slice none 0 0] 26
   clear q0 q1 q2 ql
   have hx5 := hx2.below hb5 hx2.lt
   have q0 := hx5.cell 0
   have q1 := hx5.cell 1
   have q2 := hx5.cell 2
   have ql := hx5.lt
   simp at q0 q1 q2
   clear hb1 hb2 hb5 hb6 hB1
   go_wp2_with fail
   refine (hnd _ hB6).mono ?_
   rintro e w7 ⟨⟨-, rfl⟩ | ⟨h, -⟩, hb7⟩
   case inr => cases h
   have hx7 := hx6.below hb7 hx6.lt
   have hg7 := hg6.below hb7 hg6.lt
   have hB7 := hB6.trans (hb7.mono hB6.size)
   clear q0 q1 q2 ql
   have q0 := hx7.cell 0
   have q1 := hx7.cell 1
   have q2 := hx7.cell 2
   have ql := hx7.lt
   simp at q0 q1 q2
   clear hb7
   go_wp2_with fail
   refine (hsg _ hB7).mono ?_
   rintro e w8 ⟨rfl, hb8⟩
   have hg8 := hg7.below hb8 hg7.lt
   have hB8 := hB7.trans (hb8.mono hB7.size)
   clear q0 q1 q2 ql
   have g0 := hg8.cell 0
   have g1 := hg8.cell 1
   have g2 := hg8.cell 2
   have gl := hg8.lt
   simp at g0 g1 g2
   clear hb8
   go_wp2
   go_ret
   exact ⟨rfl, hB8⟩
 · as_aux_lemma =>
   have hT : typedP F = true := by
    unfold rightS at hr
    rw [Bool.and_eq_true] at hr
    exact hr.1
   have nv := typed_vars hT
   have hsw := HSW.out
   have hnd := HND.out
   have hsg := HSG.out
   have hrn := HRN.out hT
   have hrs := HRS.out hT
   rw [hr] at hsw hnd hsg
   clear HSW HND HSG HRN HRS hr hT
   go_enter Tryz.func8, Tryz.ntmps8
   go_wp2_with fail
   refine (hlv _ hb0).mono ?_
   rintro e w1 ⟨rfl, hb1⟩
   have hx1 := HX0.out.below hb1 HX0.out.lt
   have hB1 := hb0.trans (hb1.mono hb0.size)
   have q0 := hx1.cell 0
   have q1 := hx1.cell 1
   have q2 := hx1.cell 2
   have ql := hx1.lt
   simp at q0 q1 q2
   go_wp2_with fail
   refine (hfw _ hB1).mono ?_
   rintro e w2 ⟨rfl, hb2⟩
   have hx2 := hx1.below hb2 hx1.lt
   have hB2 := hB1.trans (hb2.mono hB1.size)
   clear q0 q1 q2 ql
   have q0 := hx2.cell 0
   have q1 := hx2.cell 1
   have q2 := hx2.cell 2
   have ql := hx2.lt
   simp at q0 q1 q2
   go_wp2_with fail
   refine (hsw _ hB2).mono ?_
   rintro e w5 ⟨⟨h, -⟩ | ⟨-, v, rfl, hG⟩, hb5⟩
   · cases h
   obtain ⟨B0, d0, B1, d1, B2, d2, rfl, -⟩ := id hG.open_
   have e0 : (SwF (ndL F) F).vars.length = F.vars.length := rfl
   have e1 : (SwF (ndL F) F).params.length = F.params.length := rfl
   have e2 : (SwF (ndL F) F).blocks.length = F.blocks.length := by simp [SwF]
   rw [e0, e1, e2] at hG ⊢
   clear e0 e1 e2
   have hb6 := hb5.trans ((BL_alloc w5 (.cells #[.slice B0 F.vars.length d0, .slice B1 F.params.length d1, .slice B2 F.blocks.length d2] 26)).mono hb5.size)
   have hx6 := hx2.below hb6 hx2.lt
   have hB6 := hB2.trans (hb6.mono hB2.size)
   have hg6 := BoxAt.new w5 #[.slice B0 F.vars.length d0, .slice B1 F.params.length d1, .slice B2 F.blocks.length d2] 26
   have hw6 := BL_alloc w5 (.cells #[.slice B0 F.vars.length d0, .slice B1 F.params.length d1, .slice B2 F.blocks.length d2] 26)
   clear q0 q1 q2 ql
   have hx5 := hx2.below hb5 hx2.lt
   have q0 := hx5.cell 0
   have q1 := hx5.cell 1
   have q2 := hx5.cell 2
   have ql := hx5.lt
   simp at q0 q1 q2
   have HG := Lib.hid hG
   clear hb1 hb2 hb5 hb6 hB1 hG
   go_wp2_with fail
   refine (hnd _ hB6).mono ?_
   rintro e w7 ⟨⟨h, -⟩ | ⟨-, gl9, rfl, ho7⟩, hb7⟩
   · cases h
   have hx7 := hx6.below hb7 hx6.lt
   have hg7 := hg6.below hb7 hg6.lt
   have hB7 := hB6.trans (hb7.mono hB6.size)
   have hw7 := hw6.trans (hb7.mono hw6.size)
   clear q0 q1 q2 ql
   have q0 := hx7.cell 0
   have q1 := hx7.cell 1
   have q2 := hx7.cell 2
   have ql := hx7.lt
   simp at q0 q1 q2
   clear hb7
   go_wp2_with fail
   refine (hsg _ hB7).mono ?_
   rintro e w8 ⟨rfl, hb8⟩
   have hx8 := hx7.below hb8 hx7.lt
   have hg8 := hg7.below hb8 hg7.lt
   have hB8 := hB7.trans (hb8.mono hB7.size)
   have hw8 := hw7.trans (hb8.mono hw7.size)
   have ho8 := own_below ho7 hb8
   clear q0 q1 q2 ql
   have q0 := hx8.cell 0
   have q1 := hx8.cell 1
   have q2 := hx8.cell 2
   have ql := hx8.lt
   simp at q0 q1 q2
   clear hb8 ho7
   go_wp2_with fail
   refine (hrn _ hB8).mono ?_
   rintro e w9 ⟨gw9, rfl, hp9, hb9⟩
   have hx9 := hx8.below hb9 hx8.lt
   have hg9 := hg8.below hb9 hg8.lt
   have hB9 := hB8.trans (hb9.mono hB8.size)
   have hw9 := hw8.trans (hb9.mono hw8.size)
   have HO9 := Lib.hid (own_below ho8 hb9)
   have HP9 := Lib.hid hp9
   clear q0 q1 q2 ql
   have q0 := hx9.cell 0
   have q1 := hx9.cell 1
   have q2 := hx9.cell 2
   have ql := hx9.lt
   simp at q0 q1 q2
   have g0 := hg9.cell 0
   have g1 := hg9.cell 1
   have g2 := hg9.cell 2
   have gl := hg9.lt
   simp at g0 g1 g2
   have hG9 := HG.out.keep (Kept.of_below hw9) hw9.size
   have hsm := fun (w' wz : World) (v9 : Value) (h : Below w9.heap.size w9 w') (hv : FnV w' w'.heap.size v9 (SwF (ndL F) F)) (h2 : Below w'.heap.size w' wz) => same_calls (hG9.keep (Kept.of_below h) h.size) hv h2
   clear ho8 hp9 hb9 hG9 hnl hlv hfw hsw hnd hsg hrn
   go_upto_region 8 with fail
   obtain ⟨S0, hS0⟩ : ∃ S0 : World → Prop, S0 = fun w' => w'.cell? ⟨w.heap.size, 0, none⟩ = some (.slice A0 F.vars.length c0) ∧ w'.cell? ⟨w.heap.size, 1, none⟩ = some (.slice A1 F.params.length c1) ∧ w'.cell? ⟨w.heap.size, 2, none⟩ = some (.slice A2 F.blocks.length c2) ∧ w'.cell? ⟨w5.heap.size, 0, none⟩ = some (.slice B0 F.vars.length d0) ∧ w'.cell? ⟨w5.heap.size, 1, none⟩ = some (.slice B1 F.params.length d1) ∧ w'.cell? ⟨w5.heap.size, 2, none⟩ = some (.slice B2 F.blocks.length d2) ∧ Below w9.heap.size w9 w' ∧ w.heap.size < w'.heap.size ∧ w5.heap.size < w'.heap.size := ⟨_, rfl⟩
   have HS0 := Lib.hid hS0
   clear hS0
   have k0 := fun xw => (WS.at HS0 xw).1
   have k1 := fun xw => (WS.at HS0 xw).2.1
   have k2 := fun xw => (WS.at HS0 xw).2.2.1
   have k3 := fun xw => (WS.at HS0 xw).2.2.2.1
   have k4 := fun xw => (WS.at HS0 xw).2.2.2.2.1
   have k5 := fun xw => (WS.at HS0 xw).2.2.2.2.2.1
   have k6 := fun xw => (WS.at HS0 xw).2.2.2.2.2.2.1
   have k7 := fun xw => (WS.at HS0 xw).2.2.2.2.2.2.2.1
   have k8 := fun xw => (WS.at HS0 xw).2.2.2.2.2.2.2.2
   refine wp_region_sched (S := S0) [0, 1, 2, 3, 4, 5, 6, 7, 8, 9, 10, 11, 12, 13, 14, 15] ZK ZK (fun _ _ _ _ _ h => h) ?hS (fun hSc => ?_)
   case hS =>
    rw [HS0.out]
    exact ⟨ZI, ZI, ZI, ZI, ZI, ZI, BL, ZJ, ZJ⟩
   have hne0 : Nonempty (WS S0) := ⟨⟨_, hSc⟩⟩
   simp only [List.map_cons, List.map_nil, List.getD_cons_succ, List.getD_cons_zero]
   repeat
    first
    | ((with_reducible refine wpSch_lk ?_ ?_); exact rfl; go_big_quiet_step (fail); (try with_reducible refine wpQuiet_nil ?_); (try dsimp only))
    | ((with_reducible refine wpSch_act ?_ ?_ (fun K hK => ?_))
       exact rfl
       exact rfl
       go_simp
       (try go_wp2_with (first | (go_at_call 38; refine (hrs _ (hB9.trans (Below.mono BL hB9.size))).mono ?_; rintro e wv ⟨⟨vv, rfl, hvv⟩, hbv⟩; have hb9 := hbv; obtain ⟨hc9, hf9⟩ := bcell hb9; have hz9 := hb9.size; (try simp at hz9)) | (go_at_call 19; refine (hsm _ _ _ BL hvv BL).mono ?_; rintro e ws ⟨rfl, hbs⟩; have hb9 := hbs; obtain ⟨hc9, hf9⟩ := bcell hb9; have hz9 := hb9.size; (try simp at hz9))))
       refine hK.out _ _ ?hS (fun hSc => ?_)
       case hS =>
        first
        | exact hSc
        | (rw [HS0.out] at hSc ⊢; obtain ⟨p0, p1, p2, p3, p4, p5, p6, p7, p8⟩ := hSc; exact ⟨ZC0, ZC1, ZC2, ZC3, ZC4, ZC5, ZL6, ZT7, ZT8⟩)
       clear hK K)
   refine wpSch_nil ?_
   rw [HS0.out] at hSc
   obtain ⟨p0, p1, p2, p3, p4, p5, p6, p7, p8⟩ := hSc
   clear hne0 HS0 k0 k1 k2 k3 k4 k5 k6 k7 k8
   have HP6 := Lib.hid p6
   clear hx1 hx2 hx5 hx6 hx7 hx8 hx9 hg6 hg7 hg8 hg9 hB2 hB6 hB7 hB8 hw6 hw7 hw8 hw9 hrs hsm
   go_wp2_with fail
   go_loopw [59] (fun i wr => ∃ k : Nat, i = .int .i64 k ∧ k ≤ F.vars.length ∧ Below w9.heap.size w9 wr) (fun i _ => F.vars.length - (intOf i).toNat)
   case atStart => exact ⟨0, rfl, Nat.zero_le _, HP6.out⟩
   case round => as_aux_lemma =>
    clear HP6
    obtain ⟨k, rfl, hk, hb⟩ := hrel
    by_cases hkl : k < F.vars.length
    · as_aux_lemma =>
      have ho := own_below HO9.out hb
      have hp := own_below HP9.out hb
      have c1 := own_bool ho hkl
      have c2 := own_bool hp hkl
      have gl1 := (ho.lt _ rfl).2
      have gl2 := (hp.lt _ rfl).2
      have hkz : (k : Int) < (F.vars.length : Int) := by omega
      generalize (ndL F).getD k false = bv at c1 c2
      clear ho hp
      have e1 : (bv != bv) = false := by cases bv <;> rfl
      go_wp2
      go_quiet (fail)
      go_wp2
      go_roundw
      case rel => exact ⟨k + 1, ZN, ZO, bdrewM hb _⟩
      case measure => simp [intOf]; omega
    · as_aux_lemma =>
      obtain rfl : k = F.vars.length := by omega
      have hBr := hB9.trans (hb.mono hB9.size)
      go_wp2
      go_ret
      exact ⟨rfl, hBr⟩
end Go.Proofs.YtjdkcichkpolgaaGreatDoor
