/- The walk of the law DomRuns: it returns true, whatever the program, the input and the number of steps. -/
import Derived.Test.YthhpbkfngcflcaaGreatDoorRunV
import Derived.Test.YthhpbkfngcflcaaGreatDoorRunW
import Derived.Test.YthhpbkfngcflcaaGreatDoorRunB
import Derived.Test.YthhpbkfngcflcaaGreatDoorLiveD
namespace Go.Proofs.YthhpbkfngcflcaaGreatDoor
open Go.RowKit
set_option maxRecDepth 100000
theorem overR_tab {F : PFunc} {L : List (Option Nat)} (t : NearOk F.blocks.length (OR F) (PR F) L) {x y : Nat} : overB (OR F) L (x : Int) (y : Int) = tabB F x y := by
 classical
 rw [Bool.eq_iff_iff, tabB_iff]
 unfold overB tabP
 rw [inO_nat, inO_nat]
 simp only [Bool.and_eq_true, decide_eq_true_eq, Int.toNat_natCast]
 constructor
 · rintro ⟨⟨h1, h2⟩, h3⟩
   exact ⟨h1, h2, .inr ((t.dom h2).1 h3)⟩
 · rintro ⟨h1, h2, h3⟩
   refine ⟨⟨h1, h2⟩, ?_⟩
   rcases h3 with rfl | h3
   · exact .refl
   · exact (t.dom h2).2 h3
theorem VisI.next {F : PFunc} {seen : List Bool} {s : RSt} (hT : typedP F = true) (hI : RInv F s) (h : VisI F seen s.block) (hs : seen.getD s.block false = true) : VisI F seen (stepR F s).block := by
 rcases step_pos hT hI with ⟨-, -, e⟩ | ⟨c, hc, -, e⟩
 · rw [e]; exact h
 · rw [e, (enterR_pos F c _).1]; exact h.step hT hs hc
set_option maxHeartbeats 16000000 in
theorem domruns_law {W : World} {fv iv : Value} {F : PFunc} {I : PIn} {n : Nat} (hU : Uni W) (hF : FnV W W.heap.size fv F) (hN : NumsR F) (hI : InV W W.heap.size iv I) (hIn : InNum I) (hn : n < 65536) :
 Calls Tryz.prog 3 #[fv, iv, .int .u16 n] W fun e w' => e = .returned (.bool true) ∧ Below W.heap.size W w' := by
 have hlv := fun (w : World) (h : Below W.heap.size W w) => livesD_calls hU h
 have hty := fun (w : World) (h : Below W.heap.size W w) => lawTyped_calls hU hF h
 have hsm := fun (w : World) (h : Below W.heap.size W w) => smallI_calls hI h
 obtain ⟨w, rfl⟩ : ∃ w : World, w = W := ⟨_, rfl⟩
 obtain ⟨A0, c0, A1, c1, A2, c2, rfl, l0, l1, l2, -, -, -, r0, r1, r2⟩ := id hF.open_
 obtain ⟨B0, d0, B1, d1, rfl, m0, m1, k0, k1, q0, q1⟩ := id hI.open_
 unfold Len at *
 clear r0 r1 r2 q0 q1
 have hx0 : Below w.heap.size w ((w.alloc (.cells #[.slice A0 F.vars.length c0, .slice A1 F.params.length c1, .slice A2 F.blocks.length c2] 26)).alloc (.cells #[.slice B0 I.args.length d0, .slice B1 I.rows.length d1] 30)) := BL
 cases hx : lawT F
 · rw [hx] at hty
   clear hx hF hI hN hIn hsm
   go_enter Tryz.func3, Tryz.ntmps3
   go_wp2_with fail
   refine (hlv _ hx0).mono ?_
   rintro e w1 ⟨rfl, hb1⟩
   have hX1 : InBox w1 w.heap.size _ _ _ _ _ := InBox.of (by simpa using hb1)
   have hB1 : Below w.heap.size w w1 := hx0.trans (hb1.mono ZX)
   obtain ⟨e0, e1, g0, g1, g2, g3, g4⟩ := hX1.all
   go_wp2_with fail
   refine (hty _ hB1).mono ?_
   rintro e w2 ⟨rfl, hb2⟩
   go_wp2_with fail
   refine (hlv _ (hB1.trans (hb2.mono hB1.size))).mono ?_
   rintro e w3 ⟨rfl, hb3⟩
   go_wp2
   go_ret
   exact ⟨rfl, hB1.trans ((hb2.trans (hb3.mono hb2.size)).mono hB1.size)⟩
 rw [hx] at hty
 have hx2 : fewB F = true ∧ typedP F = true := by
  unfold lawT at hx
  simpa using hx
 have hS := few_small hx2.1
 have hT := hx2.2
 obtain ⟨n1, n2⟩ := shaped_count (typed_shaped hT)
 have hpv : F.params.length ≤ F.vars.length := by
  have := typed_shaped hT
  unfold shapedP at this
  simp only [Bool.and_eq_true] at this
  exact names_params this.1.1
 have hv512 : F.vars.length ≤ 512 := by
  have := typed_shaped hT
  unfold shapedP at this
  simp only [Bool.and_eq_true] at this
  exact names_vars this.1.1
 have hrt := fun (w' : World) (h : Below w.heap.size w w') => rightI_calls hF hI h hpv
 have hnw := fun (w' : World) (h : Below w.heap.size w w') => newYes_calls hU hF h hS hT
 have HBG := Lib.hid (fun (w' : World) (h : Below w.heap.size w w') (hR : RightF F I) => begin_calls hF hI h hR hpv hv512)
 have HST := Lib.hid (fun (w' : World) (h : Below w.heap.size w w') (D : Nat → Prop) (nb gi gb ga : Nat) (vr vt : Value) (vrs : List Value) (s : RSt) (hI' : RInv F s) (hr : RunO w' D (.slice A0 F.vars.length c0) (.slice A1 F.params.length c1) (.slice A2 F.blocks.length c2) nb gi gb ga F.vars.length vr vt vrs s) (hD : ∀ k, D k → k < w'.heap.size) (hDW : ∀ k, k < w.heap.size → D k) => step_calls hF hT hS hN h hI' hr hD hDW)
 have HNN := Lib.hid hN
 have HT := Lib.hid hT
 have HIn := Lib.hid hIn
 clear hx hx2 hF hI hN hIn hS hT hpv
 go_enter Tryz.func3, Tryz.ntmps3
 go_wp2_with fail
 refine (hlv _ hx0).mono ?_
 rintro e w1 ⟨rfl, hb1⟩
 have hX1 : InBox w1 w.heap.size _ _ _ _ _ := InBox.of (by simpa using hb1)
 have hB1 : Below w.heap.size w w1 := hx0.trans (hb1.mono ZX)
 obtain ⟨e0, e1, g0, g1, g2, g3, g4⟩ := hX1.all
 go_wp2_with fail
 refine (hty _ hB1).mono ?_
 rintro e w2 ⟨rfl, hb2⟩
 have hX2 := hX1.below hb2 hX1.lt
 have hB2 := hB1.trans (hb2.mono hB1.size)
 clear e0 e1 g0 g1 g2 g3 g4
 obtain ⟨e0, e1, g0, g1, g2, g3, g4⟩ := hX2.all
 go_wp2_with fail
 refine (hsm _ hB2).mono ?_
 rintro e w3 ⟨⟨b, rfl⟩, hb3⟩
 have hX3 := hX2.below hb3 hX2.lt
 have hB3 := hB2.trans (hb3.mono hB2.size)
 clear e0 e1 g0 g1 g2 g3 g4 hb1 hb2 hb3 hX1 hX2 hB1 hB2 hx0
 cases b
 · as_aux_lemma =>
   go_wp2_with fail
   refine (hlv _ hB3).mono ?_
   rintro e w4 ⟨rfl, hb4⟩
   go_wp2
   go_ret
   exact ⟨rfl, hB3.trans (hb4.mono hB3.size)⟩
 obtain ⟨e0, e1, g0, g1, g2, g3, g4⟩ := hX3.all
 go_wp2_with fail
 refine (hrt _ hB3).mono ?_
 rintro e w4 ⟨⟨r, rfl, hr⟩, hb4⟩
 have hX4 := hX3.below hb4 hX3.lt
 have hB4 := hB3.trans (hb4.mono hB3.size)
 clear e0 e1 g0 g1 g2 g3 g4 hb4 hX3 hB3
 by_cases hr0 : r = 0
 · as_aux_lemma =>
   have HR := Lib.hid (hr hr0)
   subst hr0
   clear hr hlv hty hsm hrt
   obtain ⟨e0, e1, g0, g1, g2, g3, g4⟩ := hX4.all
   go_wp2_with fail
   refine (hnw _ hB4).mono ?_
   rintro e w5 ⟨v5, rfl, hT5, hb5⟩
   have hX5 := hX4.below hb5 hX4.lt
   have hB5 := hB4.trans (hb5.mono hB4.size)
   obtain ⟨tb, gn, gl, gk, gf, L, V, rfl, hTD⟩ := hT5
   have HTD := Lib.hid hTD
   clear e0 e1 g0 g1 g2 g3 g4 hb5 hX4 hB4 hnw hTD
   obtain ⟨e0, e1, g0, g1, g2, g3, g4⟩ := hX5.all
   go_wp2_with fail
   refine (HBG.out _ hB5 HR.out).mono ?_
   rintro e w6 ⟨nb, gi, gb, ga, vr, vrs, rfl, hR6, hb6⟩
   have hX6 := hX5.below hb6 hX5.lt
   have hB6 := hB5.trans (hb6.mono hB5.size)
   clear e0 e1 g0 g1 g2 g3 g4
   obtain ⟨e0, e1, g0, g1, g2, g3, g4⟩ := hX6.all
   have HR6 := Lib.hid hR6
   have HB6 := Lib.hid hB6
   have Hb6 := Lib.hid hb6
   have HX5 := Lib.hid hX5
   have HB5 := Lib.hid hB5
   clear hR6 hB6 hb6 hX6 hX5 hB5 HBG
   obtain ⟨kk, hkk⟩ : ∃ kk : Nat, kk = n % 501 := ⟨_, rfl⟩
   obtain ⟨hmod, hmod2⟩ := mod501 n
   rw [← hkk] at hmod hmod2
   have hk501 : kk < 501 := by rw [hkk]; exact Nat.mod_lt _ ZD
   clear hkk
   obtain ⟨ib, hib, hz0, hz1, hz2⟩ := info_parts Tryz.info4
   obtain ⟨w7, hrun, ho7, hg7⟩ := run_make_full (P := Tryz.prog) w6 w6.heap.size 42 4 ib _ 1 Tryz.underlying42 hib hz0 hz1 .i64 .i64 F.blocks.length (by rw [hz2]; omega) (by unfold maxLen; omega) (Nat.le_refl _)
   have hb67 : Below w6.heap.size w6 w7 := (Below.refl _ _).grown hg7 (Nat.le_refl _) (fun k hk => by cases hk)
   rw [show (madeCells (Value.bool false).cells (F.blocks.length * 1)).toList = List.replicate F.blocks.length (Value.bool false) by simp [Value.cells, toList_madeCells_one]] at ho7
   have hR7 := ((HR6.out.moreD (g := w6.heap.size) (Nat.le_refl _)).below hb67)
   have HR7 := Lib.hid hR7
   have HO7 := Lib.hid ho7
   have Hb67 := Lib.hid hb67
   have hnbs := HR6.out.box.lt
   have s56 := Hb6.out.size
   have s67 := Hb67.out.size
   have s5 := HX5.out.lt
   have u1 : nb ≠ w6.heap.size := by omega
   have u2 : w6.heap.size ≠ nb := u1.symm
   have u3 : w6.heap.size ≠ w.heap.size := by omega
   have u4 := u3.symm
   have HOV := Lib.hid (fun (w' : World) (hb : Below w5.heap.size w5 w') (x y : Nat) => by
    have h1 := overQ_calls (gr_of HT.out) (HTD.out.keep (Kept.of_below hb) hb.size) (x : Int) (y : Int)
    rwa [overR_tab HTD.out.near] at h1)
   clear hR7 ho7 hb67
   go_wp2
   clear hrun hg7 hib e0 e1 g0 g1 g2 g3 g4
   go_loopw [48] (fun x wr => ∃ (i : Nat) (s : RSt) (seen : List Bool) (vr' vt' : Value) (vrs' : List Value), x = .int .i64 i ∧ i ≤ kk ∧ RunO wr (fun k => k < w5.heap.size ∨ k = w6.heap.size) (.slice A0 F.vars.length c0) (.slice A1 F.params.length c1) (.slice A2 F.blocks.length c2) nb gi gb ga F.vars.length vr' vt' vrs' s ∧ Hid (RInv F s ∧ VisI F seen s.block) ∧ wr.ownsRow w6.heap.size 4 1 (.slice (some ⟨w6.heap.size, 0, none⟩) F.blocks.length F.blocks.length) F.blocks.length (seen.map Value.bool) ∧ Kp (fun k => k < w5.heap.size) w7 wr) (fun x _ => kk - (intOf x).toNat)
   case atStart => exact ⟨0, beginR F I, List.replicate F.blocks.length false, _, _, _, rfl, Nat.zero_le _, HR7.out, ⟨beginR_inv HT.out HR.out HIn.out, VisI.start HT.out⟩, by simpa using HO7.out, Kp.refl⟩
   case round => as_aux_lemma =>
    obtain ⟨i, s, seen, vr', vt', vrs', rfl, hi, h4, hIV, ho, k4⟩ := hrel
    have hBr : Below w5.heap.size w5 wr := (Hb6.out.trans (Hb67.out.mono s56)).trans (Kp.to_below (B := w5.heap.size) k4 (fun k hk => hk) (Nat.le_trans s56 s67))
    have hWr := HB5.out.trans (hBr.mono HB5.out.size)
    by_cases hlt : i < kk
    · as_aux_lemma =>
      have hik : (i : Int) < (kk : Int) := by omega
      have hbl := hIV.out.1.blk
      have hblI : (s.block : Int) < (F.blocks.length : Int) := by omega
      have xl := h4.box.lt
      have z7 := h4.box.cell 7
      replace z7 : wr.cell? ⟨nb, 7, none⟩ = some (.int .i64 (s.block : Int)) := z7
      have gsl := (ho.lt w6.heap.size rfl).2
      have yb := own_boo ho hbl
      have fb := ho.frozenAt s.block
      have hSt : (wr.setCell ⟨w6.heap.size, s.block, none⟩ (.bool true)).ownsRow w6.heap.size 4 1 (.slice (some ⟨w6.heap.size, 0, none⟩) F.blocks.length F.blocks.length) F.blocks.length ((seen.set s.block true).map Value.bool) := by
       have := (ho.stored s.block (.bool true)).1
       simpa [List.map_set] using this
      have hRt := h4.turn (w' := wr.setCell ⟨w6.heap.size, s.block, none⟩ (.bool true)) (fun k hk => heap_set (fun e => hk (.inr e)))
      have hBt : Below w5.heap.size w5 (wr.setCell ⟨w6.heap.size, s.block, none⟩ (.bool true)) := hBr.setCell s56 _
      have hKt : Kp (fun k => k < w5.heap.size) w7 (wr.setCell ⟨w6.heap.size, s.block, none⟩ (.bool true)) := k4.setCell (p := ⟨w6.heap.size, s.block, none⟩) (fun h => by have h' : w6.heap.size < w5.heap.size := h; omega) _
      have hV2 := hIV.out.2.mark hbl
      have hVs := hIV.out.2.seenT hbl
      have H0 := Lib.hid (fun m => show Calls Tryz.prog 15 #[.pointer (some ⟨tb, 0, none⟩), .int .i64 0, .int .i64 (s.block : Int)] ((wr.setCell ⟨w6.heap.size, s.block, none⟩ (.bool true)).drewN m) fun e w' => e = .returned (.bool true) ∧ ∃ m', w' = ((wr.setCell ⟨w6.heap.size, s.block, none⟩ (.bool true)).drewN m).drewN m' from by
       have h1 := HOV.out _ (bdrewN hBt m) 0 s.block
       rwa [hIV.out.2.first HT.out] at h1)
      have H00 := Lib.hid (show Calls Tryz.prog 15 #[.pointer (some ⟨tb, 0, none⟩), .int .i64 0, .int .i64 (s.block : Int)] (wr.setCell ⟨w6.heap.size, s.block, none⟩ (.bool true)) fun e w' => e = .returned (.bool true) ∧ ∃ m', w' = (wr.setCell ⟨w6.heap.size, s.block, none⟩ (.bool true)).drewN m' from by
       have h1 := HOV.out _ hBt 0 s.block
       rwa [hIV.out.2.first HT.out] at h1)
      have HSt := Lib.hid hSt
      have HRt := Lib.hid hRt
      have HBt := Lib.hid hBt
      have HKt := Lib.hid hKt
      have HV2 := Lib.hid hV2
      have HVs := Lib.hid hVs
      have hVo := Lib.hid (fun a (ha : tabB F a s.block = true) => hV2.over hVs ha)
      clear hSt hRt hBt hKt hV2 hVs hBr hWr k4 h4 ho
      go_wp2_with fail
      refine H00.out.mono ?_
      rintro e w8 ⟨rfl, m8, hw8⟩
      have hbq : Below (wr.setCell ⟨w6.heap.size, s.block, none⟩ (.bool true)).heap.size (wr.setCell ⟨w6.heap.size, s.block, none⟩ (.bool true)) w8 := by rw [hw8]; exact bdrewN (Below.refl _ _) _
      have hRq := HRt.out.below hbq
      have hBq := HBt.out.trans (hbq.mono HBt.out.size)
      have hKq := HKt.out.trans (Kp.below hbq (fun k hk _ => hk))
      have hSq := own_below HSt.out hbq
      obtain ⟨e0, e1, g0, g1, g2, g3, g4⟩ := (HX5.out.below hBq s5).all
      have HRq := Lib.hid hRq
      have HBq := Lib.hid hBq
      have HKq := Lib.hid hKq
      have HSq := Lib.hid hSq
      clear H0 H00 HRt HBt HKt HSt hw8 hbq hRq hBq hKq hSq yb fb z7 xl gsl g0 g1 g3 g4
      obtain ⟨wo, rfl⟩ : ∃ wo : World, wo = wr := ⟨_, rfl⟩
      go_wp2
      clear e0 e1 g2
      go_loopw [66] (fun x wr => ∃ j : Nat, x = .int .i64 j ∧ j ≤ F.blocks.length ∧ Below w8.heap.size w8 wr) (fun x _ => F.blocks.length - (intOf x).toNat)
      case atStart => exact ⟨0, rfl, Nat.zero_le _, Below.refl _ _⟩
      case round => as_aux_lemma =>
       obtain ⟨j, rfl, hj, hb⟩ := hrel
       have hB2 := HBq.out.trans (hb.mono HBq.out.size)
       have hR2 := HRq.out.below hb
       have hS2 := own_below HSq.out hb
       have xl := hR2.box.lt
       have z7 := hR2.box.cell 7
       replace z7 : wr.cell? ⟨nb, 7, none⟩ = some (.int .i64 (s.block : Int)) := z7
       by_cases hjl : j < F.blocks.length
       · as_aux_lemma =>
         have hjI : (j : Int) < (F.blocks.length : Int) := by omega
         have hov := HOV.out wr hB2 j s.block
         have gsl := (hS2.lt w6.heap.size rfl).2
         have yj := own_boo hS2 hjl
         have HB := Lib.hid hb
         clear hb hB2 hR2 hS2
         cases hz : tabB F j s.block
         · rw [hz] at hov
           clear hz
           go_wp2_with (go_at_call 15; refine hov.mono ?_; rintro e w9 ⟨rfl, m9, rfl⟩)
           go_roundw
           case rel => exact ⟨j + 1, ZN, ZO, bdrewN HB.out _⟩
           case measure => simp [intOf]; omega
         · rw [hz] at hov
           rw [hVo.out j hz] at yj
           clear hz
           go_wp2_with (go_at_call 15; refine hov.mono ?_; rintro e w9 ⟨rfl, m9, rfl⟩)
           go_roundw
           case rel => exact ⟨j + 1, ZN, ZO, bdrewN HB.out _⟩
           case measure => simp [intOf]; omega
       · as_aux_lemma =>
         obtain rfl : j = F.blocks.length := by omega
         have z22 := hR2.box.cell 22
         replace z22 : wr.cell? ⟨nb, 22, none⟩ = some (.bool s.ended) := z22
         have hWr := HB5.out.trans (hB2.mono HB5.out.size)
         have gsl := (hS2.lt w6.heap.size rfl).2
         have HWr := Lib.hid hWr
         have hK2 : Kp (fun k => k < w5.heap.size) w7 wr := HKq.out.trans (Kp.below hb (fun k hk _ => hk))
         cases hen : s.ended
         · rw [hen] at z22
           have hst := HST.out wr hWr _ nb gi gb ga vr' vt' vrs' s hIV.out.1 hR2 (fun k hk => by
            have := hB2.size
            rcases hk with hk | hk <;> omega) (fun k hk => .inl (by have := HB5.out.size; omega))
           have HI2 := Lib.hid (show RInv F (stepR F s) ∧ VisI F (seen.set s.block true) (stepR F s).block from ⟨hIV.out.1.step HT.out HNN.out, HV2.out.next HT.out hIV.out.1 HVs.out⟩)
           have HS2 := Lib.hid hS2
           have HK2 := Lib.hid hK2
           clear hen hb hB2 hR2 hS2 hWr hK2
           go_wp2_with (go_at_call 16; refine hst.mono ?_; rintro e w9 ⟨rfl, vr9, vt9, vrs9, hR9, hK9⟩)
           go_roundw
           case rel => exact ⟨i + 1, stepR F s, seen.set s.block true, vr9, vt9, vrs9, ZN, ZO, hR9, HI2.out, own_turn HS2.out (fun k hk => by
            simp only [Value.ownBlock, Option.some.injEq] at hk
            subst hk
            exact hK9.blk _ (.inr rfl) gsl), Kp.trans HK2.out (Kp.mono hK9 (fun k _ hk => .inl hk))⟩
           case measure => simp [intOf]; omega
         · rw [hen] at z22
           clear hen hb hB2 hR2 hS2 hWr hK2
           go_wp2
           go_ret
           exact ⟨rfl, HWr.out⟩
    · as_aux_lemma =>
      obtain rfl : i = kk := by omega
      clear h4 ho k4
      go_wp2
      go_ret
      exact ⟨rfl, hWr⟩
 · as_aux_lemma =>
   have hr1 : (r != 0) = true := by rw [bne_iff_ne]; exact hr0
   clear hr hr0
   go_wp2_with fail
   refine (hlv _ hB4).mono ?_
   rintro e w5 ⟨rfl, hb5⟩
   go_wp2
   go_ret
   exact ⟨rfl, hB4.trans (hb5.mono hB4.size)⟩
end Go.Proofs.YthhpbkfngcflcaaGreatDoor
