/- The walk of the law LoopEnters: it returns true, whatever the program, the input and the number of steps. -/
import Derived.Test.YthhpbkfngcflcaaGreatDoorRunV
import Derived.Test.YthhpbkfngcflcaaGreatDoorRunW
import Derived.Test.YthhpbkfngcflcaaGreatDoorRunB
import Derived.Test.YthhpbkfngcflcaaGreatDoorLpLive
import Derived.Test.YthhpbkfngcflcaaGreatDoorLpNewW
import Derived.Test.YthhpbkfngcflcaaGreatDoorLpEntP
namespace Go.Proofs.YthhpbkfngcflcaaGreatDoor
open Go.RowKit
set_option maxRecDepth 100000
set_option maxHeartbeats 16000000 in
theorem enters_law {W : World} {fv iv : Value} {F : PFunc} {I : PIn} {n : Nat} (hU : Uni W) (hF : FnV W W.heap.size fv F) (hN : NumsR F) (hI : InV W W.heap.size iv I) (hIn : InNum I) (hn : n < 65536) :
 Calls Tryz.prog 5 #[fv, iv, .int .u16 n] W fun e w' => e = .returned (.bool true) ∧ Below W.heap.size W w' := by
 have hlv := fun (w : World) (h : Below W.heap.size W w) => livesL_calls hU h
 have hty := fun (w : World) (h : Below W.heap.size W w) => lawTyped_calls hU hF h
 have hsm := fun (w : World) (h : Below W.heap.size W w) => smallI_calls hI h
 obtain ⟨w, rfl⟩ : ∃ w : World, w = W := ⟨_, rfl⟩
 obtain ⟨A0, c0, A1, c1, A2, c2, rfl, l0, l1, l2, -, -, -, r0, r1, r2⟩ := id hF.open_
 obtain ⟨B0, d0, B1, d1, rfl, m0, m1, k0, k1, q0, q1⟩ := id hI.open_
 unfold Len at *
 have R2 := Lib.hid r2
 clear r0 r1 r2 q0 q1
 have hx0 : Below w.heap.size w ((w.alloc (.cells #[.slice A0 F.vars.length c0, .slice A1 F.params.length c1, .slice A2 F.blocks.length c2] 26)).alloc (.cells #[.slice B0 I.args.length d0, .slice B1 I.rows.length d1] 30)) := BL
 cases hx : lawT F
 · rw [hx] at hty
   clear hx hF hI hN hIn hsm
   go_enter Tryz.func5, Tryz.ntmps5
   go_wp2_with fail
   refine (hlv _ hx0).mono ?_
   rintro e w1 ⟨rfl, hb1⟩
   have hX1 : InBox w1 w.heap.size _ _ _ _ _ := InBox.of (by simpa using hb1)
   have hB1 : Below w.heap.size w w1 := hx0.trans (hb1.mono ZX)
   obtain ⟨e0, e1, g0, g1, g2, g3, g4⟩ := hX1.all
   go_wp2_with fail
   refine (hty _ hB1).mono ?_
   rintro e w2 ⟨rfl, hb2⟩
   go_wp2_with fail
   refine (hlv _ (hB1.trans (hb2.mono hB1.size))).mono ?_
   rintro e w3 ⟨rfl, hb3⟩
   go_wp2
   go_ret
   exact ⟨rfl, hB1.trans ((hb2.trans (hb3.mono hb2.size)).mono hB1.size)⟩
 rw [hx] at hty
 have hx2 : fewB F = true ∧ typedP F = true := by
  unfold lawT at hx
  simpa using hx
 have hS := few_small hx2.1
 have hT := hx2.2
 obtain ⟨n1, n2⟩ := shaped_count (typed_shaped hT)
 have hpv : F.params.length ≤ F.vars.length := by
  have := typed_shaped hT
  unfold shapedP at this
  simp only [Bool.and_eq_true] at this
  exact names_params this.1.1
 have hv512 : F.vars.length ≤ 512 := by
  have := typed_shaped hT
  unfold shapedP at this
  simp only [Bool.and_eq_true] at this
  exact names_vars this.1.1
 have hrt := fun (w' : World) (h : Below w.heap.size w w') => rightI_calls hF hI h hpv
 have hnw := fun (w' : World) (h : Below w.heap.size w w') => loopNew_calls hU hF h hS hT
 have HBG := Lib.hid (fun (w' : World) (h : Below w.heap.size w w') (hR : RightF F I) => begin_calls hF hI h hR hpv hv512)
 have HST := Lib.hid (fun (w' : World) (h : Below w.heap.size w w') (D : Nat → Prop) (nb gi gb ga : Nat) (vr vt : Value) (vrs : List Value) (s : RSt) (hI' : RInv F s) (hr : RunO w' D (.slice A0 F.vars.length c0) (.slice A1 F.params.length c1) (.slice A2 F.blocks.length c2) nb gi gb ga F.vars.length vr vt vrs s) (hD : ∀ k, D k → k < w'.heap.size) (hDW : ∀ k, k < w.heap.size → D k) => step_calls hF hT hS hN h hI' hr hD hDW)
 have HNN := Lib.hid hN
 have HT := Lib.hid hT
 have HIn := Lib.hid hIn
 clear hx hx2 hF hI hN hIn hS hT hpv
 go_enter Tryz.func5, Tryz.ntmps5
 go_wp2_with fail
 refine (hlv _ hx0).mono ?_
 rintro e w1 ⟨rfl, hb1⟩
 have hX1 : InBox w1 w.heap.size _ _ _ _ _ := InBox.of (by simpa using hb1)
 have hB1 : Below w.heap.size w w1 := hx0.trans (hb1.mono ZX)
 obtain ⟨e0, e1, g0, g1, g2, g3, g4⟩ := hX1.all
 go_wp2_with fail
 refine (hty _ hB1).mono ?_
 rintro e w2 ⟨rfl, hb2⟩
 have hX2 := hX1.below hb2 hX1.lt
 have hB2 := hB1.trans (hb2.mono hB1.size)
 clear e0 e1 g0 g1 g2 g3 g4
 obtain ⟨e0, e1, g0, g1, g2, g3, g4⟩ := hX2.all
 go_wp2_with fail
 refine (hsm _ hB2).mono ?_
 rintro e w3 ⟨⟨b, rfl⟩, hb3⟩
 have hX3 := hX2.below hb3 hX2.lt
 have hB3 := hB2.trans (hb3.mono hB2.size)
 clear e0 e1 g0 g1 g2 g3 g4 hb1 hb2 hb3 hX1 hX2 hB1 hB2 hx0
 cases b
 · as_aux_lemma =>
   go_wp2_with fail
   refine (hlv _ hB3).mono ?_
   rintro e w4 ⟨rfl, hb4⟩
   go_wp2
   go_ret
   exact ⟨rfl, hB3.trans (hb4.mono hB3.size)⟩
 obtain ⟨e0, e1, g0, g1, g2, g3, g4⟩ := hX3.all
 go_wp2_with fail
 refine (hrt _ hB3).mono ?_
 rintro e w4 ⟨⟨r, rfl, hr⟩, hb4⟩
 have hX4 := hX3.below hb4 hX3.lt
 have hB4 := hB3.trans (hb4.mono hB3.size)
 clear e0 e1 g0 g1 g2 g3 g4 hb4 hX3 hB3
 by_cases hr0 : r = 0
 · as_aux_lemma =>
   have HR := Lib.hid (hr hr0)
   subst hr0
   clear hr hlv hty hsm hrt
   obtain ⟨e0, e1, g0, g1, g2, g3, g4⟩ := hX4.all
   go_wp2_with fail
   refine (hnw _ hB4).mono ?_
   rintro e w5 ⟨lb, mb, ve, vs, es, clk, rfl, hN5, hb5⟩
   have hX5 := hX4.below hb5 hX4.lt
   have hB5 := hB4.trans (hb5.mono hB4.size)
   have hhd := heads_calls hN5 n1 n2 w5 (Below.refl _ _)
   have HIN := Lib.hid (fun (wr : World) (h : Below w5.heap.size w5 wr) (a x : Nat) (ha : a ∈ headsL F F.blocks.length) (hx : x < F.blocks.length) => by
    have han := (mem_headsL.1 ha).1
    have h1 := nin_calls (b := (x : Int)) (nof_calls (hN5.below h) n2 (a : Int) ZO ZO)
    rwa [lpB_nat ha hx] at h1)
   have HEX := Lib.hid (fun (wr : World) (h : Below w5.heap.size w5 wr) (a : Nat) (ha : a < F.blocks.length) => exits_calls (nof_calls (hN5.below h) n2 (a : Int) ZO ZO) n2 (fun _ => NestO.endsC (hN5.below h) HT.out (a : Int)))
   clear e0 e1 g0 g1 g2 g3 g4 hb5 hX4 hB4 hnw hN5
   obtain ⟨e0, e1, g0, g1, g2, g3, g4⟩ := hX5.all
   go_wp2_with fail
   refine hhd.mono ?_
   rintro e w6 ⟨v6, rfl, ho6, hb6⟩
   obtain ⟨Ah, ch, rfl⟩ := own_form ho6
   have hX6 := hX5.below hb6 hX5.lt
   have hB6 := hB5.trans (hb6.mono hB5.size)
   have HM := Lib.hid (show ∀ a ∈ headsL F F.blocks.length, a < F.blocks.length from fun a ha => (mem_headsL.1 ha).1)
   obtain ⟨hl, hhl⟩ : ∃ hl, headsL F F.blocks.length = hl := ⟨_, rfl⟩
   have HHL := Lib.hid hhl
   have hll : hl.length ≤ 64 := by rw [← hhl]; exact Nat.le_trans headsL_le n2
   rw [hhl] at ho6 ⊢
   have HO6 := Lib.hid ho6
   clear e0 e1 g0 g1 g2 g3 g4 hhd ho6 hhl hX5
   obtain ⟨e0, e1, g0, g1, g2, g3, g4⟩ := hX6.all
   go_wp2_with fail
   refine (HBG.out _ hB6 HR.out).mono ?_
   rintro e w7 ⟨nb, gi, gb, ga, vr, vrs, rfl, hR7, hb7⟩
   have HR7 := Lib.hid hR7
   have HB6 := Lib.hid hB6
   have Hb56 := Lib.hid hb6
   have Hb7 := Lib.hid hb7
   have HX6 := Lib.hid hX6
   clear e0 e1 g0 g1 g2 g3 g4 hR7 hB6 hb6 hb7 hX6 HBG hB5
   obtain ⟨kk, hkk⟩ : ∃ kk : Nat, kk = n % 501 := ⟨_, rfl⟩
   obtain ⟨hmod, hmod2⟩ := mod501 n
   rw [← hkk] at hmod hmod2
   have hk501 : kk < 501 := by rw [hkk]; exact Nat.mod_lt _ ZD
   clear hkk
   go_wp2
   go_loopw [52] (fun x wr => ∃ (i : Nat) (s : RSt) (vr' vt' : Value) (vrs' : List Value), x = .int .i64 i ∧ i ≤ kk ∧ RunO wr (fun k => k < w6.heap.size) (.slice A0 F.vars.length c0) (.slice A1 F.params.length c1) (.slice A2 F.blocks.length c2) nb gi gb ga F.vars.length vr' vt' vrs' s ∧ Hid (RInv F s ∧ s.block ∈ OR F) ∧ Kp (fun k => k < w6.heap.size) w7 wr) (fun x _ => kk - (intOf x).toNat)
   case atStart => exact ⟨0, beginR F I, _, _, _, rfl, Nat.zero_le _, HR7.out, ⟨beginR_inv HT.out HR.out HIn.out, runOR0 HT.out⟩, Kp.refl⟩
   case round => as_aux_lemma =>
    obtain ⟨i, s, vr', vt', vrs', rfl, hi, h4, hIV, k4⟩ := hrel
    have hBr : Below w6.heap.size w6 wr := Hb7.out.trans (Kp.to_below (B := w6.heap.size) k4 (fun k hk => hk) Hb7.out.size)
    have hWr := HB6.out.trans (hBr.mono HB6.out.size)
    by_cases hlt : i < kk
    · as_aux_lemma =>
      have hik : (i : Int) < (kk : Int) := by omega
      have xl := h4.box.lt
      have z22 := h4.box.cell 22
      replace z22 : wr.cell? ⟨nb, 22, none⟩ = some (.bool s.ended) := z22
      cases hen : s.ended
      · as_aux_lemma =>
        rw [hen] at z22
        have z7 := h4.box.cell 7
        replace z7 : wr.cell? ⟨nb, 7, none⟩ = some (.int .i64 (s.block : Int)) := z7
        have z8 := h4.box.cell 8
        replace z8 : wr.cell? ⟨nb, 8, none⟩ = some (.int .i64 (s.pc : Int)) := z8
        have hbl := hIV.out.1.blk
        have hblI : (s.block : Int) < (F.blocks.length : Int) := by omega
        have HR4 := Lib.hid h4
        have HI1 := Lib.hid hIV.out.1
        have HP := Lib.hid (step_pos HT.out hIV.out.1)
        have HI2 := Lib.hid (hIV.out.1.step HT.out HNN.out)
        have hO2 : (stepR F s).block ∈ OR F := by
         rcases HP.out with ⟨-, -, e⟩ | ⟨c, hc, -, e⟩
         · rw [e]; exact hIV.out.2
         · rw [e, (enterR_pos F c _).1]; exact runORs HT.out hIV.out.2 hc
        have HO2 := Lib.hid hO2
        have HOb := Lib.hid hIV.out.2
        obtain ⟨bb, off, A3, c3, A4, c4, rfl, hbb, -, hy0, hy1, hy2, hy3, hy4, hy5, hy6, -⟩ := R2.out.blk hWr hbl
        obtain ⟨e0, e1, g0, g1, g2, g3, g4⟩ := (HX6.out.below hBr HX6.out.lt).all
        have HBr := Lib.hid hBr
        have HK4 := Lib.hid k4
        clear hO2 hen h4 k4 hBr hWr hIV g0 g1 g3 g4 e1 hy0 hy1 hy4 hy5 hy6
        generalize hli : (F.blk s.block).insts.length = li at hy2 HP
        generalize hkd : (F.blk s.block).term.kind = kd at hy3 HP
        generalize (F.blk s.block).phis.length = pl at *
        have HLI := Lib.hid hli
        have HKD := Lib.hid hkd
        clear hli hkd
        by_cases h1 : s.pc = li
        · have f1 : ((s.pc : Int) == (li : Int)) = true := by simp [h1]
          by_cases h2 : kd = 2
          · as_aux_lemma =>
            have f2 : (kd == 2) = true := by rw [h2]; rfl
            clear h1 h2
            go_wp2
            go_quiet (fail)
            obtain ⟨wz, hwz⟩ : ∃ wz : World, wz = wr.drewN nq := ⟨_, rfl⟩
            rw [← hwz]
            have hbz : Below wr.heap.size wr wz := by rw [hwz]; exact bdrewN (Below.refl _ _) _
            have hBz := HBr.out.trans (hbz.mono HBr.out.size)
            have HKz := Lib.hid (HK4.out.trans (Kp.below hbz (fun k hk _ => hk)))
            have hst := HST.out wz (HB6.out.trans (hBz.mono HB6.out.size)) _ nb gi gb ga vr' vt' vrs' s HI1.out (HR4.out.below hbz) (fun k hk => Nat.lt_of_lt_of_le hk hBz.size) (fun k hk => Nat.lt_of_lt_of_le hk HB6.out.size)
            clear hwz hbz
            go_wp2_with fail
            refine hst.mono ?_
            rintro e w9 ⟨rfl, vr9, vt9, vrs9, hR9, hK9⟩
            have hB9 : Below w6.heap.size w6 w9 := hBz.trans (Kp.to_below (B := w6.heap.size) hK9 (fun k hk => hk) hBz.size)
            have hW9 := HB6.out.trans (hB9.mono HB6.out.size)
            obtain ⟨bb2, off2, A5, c5, A6, c6, he2, hbb2, -, -, -, -, u3, -⟩ := R2.out.blk hW9 hbl
            cases he2
            rw [HKD.out] at u3
            clear e0 g2 xl z22 z7 z8 hst hbb hy2 hy3
            obtain ⟨e0, e1, g0, g1, g2, g3, g4⟩ := (HX6.out.below hB9 HX6.out.lt).all
            go_wp2
            go_roundw
            case rel => exact ⟨i + 1, stepR F s, vr9, vt9, vrs9, ZN, ZO, hR9, ⟨HI2.out, HO2.out⟩, HKz.out.trans hK9⟩
            case measure => simp [intOf]; omega
          · as_aux_lemma =>
            have f2 : (kd == 2) = false := by rw [beq_eq_false_iff_ne]; exact h2
            obtain ⟨c, hc, hs⟩ : ∃ c ∈ EN F s.block, (stepR F s).block = c := by
             rcases HP.out with ⟨h3, -, -⟩ | ⟨c, hc, -, e⟩
             · exact absurd h3 (fun e => e.elim ZO h2)
             · exact ⟨c, hc, by rw [e, (enterR_pos F c _).1]⟩
            have hcl := EN_lt HT.out hbl c hc
            clear h1 h2
            go_wp2
            go_quiet (fail)
            obtain ⟨wz, hwz⟩ : ∃ wz : World, wz = wr.drewN nq := ⟨_, rfl⟩
            rw [← hwz]
            have hbz : Below wr.heap.size wr wz := by rw [hwz]; exact bdrewN (Below.refl _ _) _
            have hBz := HBr.out.trans (hbz.mono HBr.out.size)
            have HKz := Lib.hid (HK4.out.trans (Kp.below hbz (fun k hk _ => hk)))
            have hst := HST.out wz (HB6.out.trans (hBz.mono HB6.out.size)) _ nb gi gb ga vr' vt' vrs' s HI1.out (HR4.out.below hbz) (fun k hk => Nat.lt_of_lt_of_le hk hBz.size) (fun k hk => Nat.lt_of_lt_of_le hk HB6.out.size)
            clear hwz hbz
            go_wp2_with fail
            refine hst.mono ?_
            rintro e w9 ⟨rfl, vr9, vt9, vrs9, hR9, hK9⟩
            have hB9 : Below w6.heap.size w6 w9 := hBz.trans (Kp.to_below (B := w6.heap.size) hK9 (fun k hk => hk) hBz.size)
            have hW9 := HB6.out.trans (hB9.mono HB6.out.size)
            obtain ⟨bb2, off2, A5, c5, A6, c6, he2, hbb2, -, -, -, -, u3, -⟩ := R2.out.blk hW9 hbl
            cases he2
            rw [HKD.out] at u3
            clear e0 g2 xl z22 z7 z8 hst hbb hy2 hy3
            obtain ⟨e0, e1, g0, g1, g2, g3, g4⟩ := (HX6.out.below hB9 HX6.out.lt).all
            have xl9 := hR9.box.lt
            have z79 := hR9.box.cell 7
            replace z79 : w9.cell? ⟨nb, 7, none⟩ = some (.int .i64 ((stepR F s).block : Int)) := z79
            rw [hs] at z79
            have HZ := Lib.hid (fun (w' : World) (hw : Below w9.heap.size w9 w') => (⟨Nat.lt_of_lt_of_le xl9 hw.size, (hw.cell (p := ⟨nb, 7, none⟩) xl9).trans z79⟩ : nb < w'.heap.size ∧ w'.cell? ⟨nb, 7, none⟩ = some (.int .i64 (c : Int))))
            have HR9 := Lib.hid hR9
            have HKK := Lib.hid (HKz.out.trans hK9)
            have HB9 := Lib.hid hB9
            clear hR9 hK9 hB9 hW9 xl9 z79 hs
            go_wp2
            clear e0 e1 g0 g1 g2 g3 g4 u3 hbb2
            go_loopw [93] (fun x wr => ∃ j : Nat, x = .int .i64 j ∧ j ≤ hl.length ∧ Below w9.heap.size w9 wr) (fun x _ => hl.length - (intOf x).toNat)
            case atStart => exact ⟨0, rfl, Nat.zero_le _, Below.refl _ _⟩
            case round => as_aux_lemma =>
             obtain ⟨j, rfl, hj, hb⟩ := hrel
             by_cases hjl : j < hl.length
             · as_aux_lemma =>
               have hji : (j : Int) < (hl.length : Int) := by omega
               obtain ⟨h, hhj⟩ : ∃ h, hl[j]? = some h := ⟨_, List.getElem?_eq_getElem hjl⟩
               have hhm : h ∈ headsL F F.blocks.length := by rw [HHL.out]; exact List.mem_of_getElem? hhj
               have hhn := HM.out h hhm
               have hb6 := HB9.out.trans (hb.mono HB9.out.size)
               have ho := own_below HO6.out hb6
               obtain ⟨gh, ch', hvh, hghl, -⟩ := own_pos ho ZO
               cases hvh
               have hca := ho.cellAt j ZO
               rw [show ((ints hl).map (Value.int .i64))[j]? = some (.int .i64 (h : Int)) by simp [ints, hhj]] at hca
               have hb5 := Hb56.out.trans (hb6.mono Hb56.out.size)
               have HB5 := Lib.hid hb5
               have HC1 := Lib.hid (fun (w' : World) (hw : Below wr.heap.size wr w') => HIN.out w' (hb5.trans (hw.mono hb5.size)) h s.block hhm hbl)
               have HC2 := Lib.hid (fun (w' : World) (hw : Below wr.heap.size wr w') => HIN.out w' (hb5.trans (hw.mono hb5.size)) h c hhm hcl)
               have HZr := Lib.hid (fun (w' : World) (hw : Below wr.heap.size wr w') => HZ.out w' (hb.trans (hw.mono hb.size)))
               have HB := Lib.hid hb
               have HIN1 := Lib.hid (fun h1 h2 => ent_in (h := h) HT.out HOb.out hc hbl hcl h1 h2)
               have HOUT := Lib.hid (fun h1 h2 => ent_out hhm hc hbl hcl h1 h2)
               obtain ⟨p, hp⟩ : ∃ p, inR F h s.block = p := ⟨_, rfl⟩
               obtain ⟨q, hq⟩ : ∃ q, inR F h c = q := ⟨_, rfl⟩
               rw [hp] at HC1 HIN1 HOUT
               rw [hq] at HC2 HIN1 HOUT
               clear hb hb6 ho hb5 hhj hp hq
               cases p <;> cases q
               case false.false =>
                as_aux_lemma =>
                go_wp2_with fail
                refine (HC1.out wr (Below.refl _ _)).mono ?_
                rintro e v1 ⟨rfl, hb1⟩
                obtain ⟨x1, x2⟩ := HZr.out v1 hb1
                go_wp2_with fail
                refine (HC2.out v1 hb1).mono ?_
                rintro e v2 ⟨rfl, hb2⟩
                clear x1 x2
                have hc2 := hb1.trans (hb2.mono hb1.size)
                go_wp2_with fail
                refine (HC1.out v2 hc2).mono ?_
                rintro e v3 ⟨rfl, hb3⟩
                have hc3 := hc2.trans (hb3.mono hc2.size)
                go_wp2
                go_roundw
                case rel => exact ⟨j + 1, ZN, ZO, HB.out.trans (hc3.mono HB.out.size)⟩
                case measure => simp [intOf]; omega
               case false.true =>
                as_aux_lemma =>
                go_wp2_with fail
                refine (HC1.out wr (Below.refl _ _)).mono ?_
                rintro e v1 ⟨rfl, hb1⟩
                obtain ⟨x1, x2⟩ := HZr.out v1 hb1
                go_wp2_with fail
                refine (HC2.out v1 hb1).mono ?_
                rintro e v2 ⟨rfl, hb2⟩
                clear x1 x2
                have hc2 := hb1.trans (hb2.mono hb1.size)
                have hch : ((c : Int) != (h : Int)) = false := by rw [HIN1.out ZS ZS]; simp
                obtain ⟨x1, x2⟩ := HZr.out v2 hc2
                go_wp2_with fail
                refine (HC1.out v2 hc2).mono ?_
                rintro e v3 ⟨rfl, hb3⟩
                have hc3 := hc2.trans (hb3.mono hc2.size)
                clear x1 x2
                go_wp2
                go_roundw
                case rel => exact ⟨j + 1, ZN, ZO, HB.out.trans (hc3.mono HB.out.size)⟩
                case measure => simp [intOf]; omega
               case true.false =>
                as_aux_lemma =>
                go_wp2_with fail
                refine (HC1.out wr (Below.refl _ _)).mono ?_
                rintro e v1 ⟨rfl, hb1⟩
                go_wp2_with fail
                refine (HC1.out v1 hb1).mono ?_
                rintro e v2 ⟨rfl, hb2⟩
                have hc2 := hb1.trans (hb2.mono hb1.size)
                obtain ⟨x1, x2⟩ := HZr.out v2 hc2
                go_wp2_with fail
                refine (HC2.out v2 hc2).mono ?_
                rintro e v3 ⟨rfl, hb3⟩
                clear x1 x2
                have hc3 := hc2.trans (hb3.mono hc2.size)
                have hc5 := HB5.out.trans (hc3.mono HB5.out.size)
                have hex := HEX.out v3 hc5 h hhn
                have hnl := outL_le (F := F) (hd := headB F (h : Int)) (h := (h : Int)) (l := bodyL F (headB F (h : Int)) (h : Int) F.blocks.length)
                have hbl2 := bodyL_le (F := F) (hd := headB F (h : Int)) (h := (h : Int)) (i := F.blocks.length)
                have hom := HOUT.out ZS ZS
                obtain ⟨OL, hOL⟩ : ∃ OL, outL F (headB F (h : Int)) (h : Int) (bodyL F (headB F (h : Int)) (h : Int) F.blocks.length) = OL := ⟨_, rfl⟩
                rw [hOL] at hex hnl hom
                have hol : OL.length ≤ 128 := by omega
                clear hOL hnl hbl2
                go_wp2_with fail
                refine hex.mono ?_
                rintro e w12 ⟨v12, rfl, ho12, hb12⟩
                obtain ⟨Ax, cx, rfl⟩ := own_form ho12
                have hsl := sortQ_len OL
                generalize sortQ OL = L at *
                generalize OL.length = N at *
                have HO12 := Lib.hid ho12
                have HOM := Lib.hid hom
                have HB12 := Lib.hid (HB.out.trans ((hc3.trans (hb12.mono hc3.size)).mono HB.out.size))
                have HZ12 := Lib.hid (fun (w' : World) (hw : Below w12.heap.size w12 w') => HZ.out w' (HB12.out.trans (hw.mono HB12.out.size)))
                clear ho12 hom hex hb12 hb3 hb2 hb1 hc2 hc3 hc5
                go_wp2
                go_loopw [137, 15] (fun x y wr => ∃ (k : Nat) (z : Bool), x = .int .i64 k ∧ y = .bool z ∧ k ≤ N ∧ Hid (z = (L.take k).any fun u => decide (u.1 = (s.block : Int) ∧ u.2 = (c : Int))) ∧ Below w12.heap.size w12 wr) (fun x _ _ => N - (intOf x).toNat)
                case atStart => exact ⟨0, false, rfl, rfl, Nat.zero_le _, rfl, Below.refl _ _⟩
                case round => as_aux_lemma =>
                 obtain ⟨k, z, rfl, rfl, hk, hz, hb⟩ := hrel
                 by_cases hkn : k < N
                 · as_aux_lemma =>
                   obtain ⟨⟨u, v⟩, huv⟩ : ∃ x, L[k]? = some x := ⟨_, List.getElem?_eq_getElem ZO⟩
                   obtain ⟨g12, rfl, hgl, k1, k2⟩ := pair_cells (own_below HO12.out hb) hsl huv
                   obtain ⟨xl2, x7⟩ := HZ12.out wr hb
                   have hkI : (k : Int) < (N : Int) := by omega
                   have HTK := Lib.hid (show (L.take (k + 1)).any (fun u => decide (u.1 = (s.block : Int) ∧ u.2 = (c : Int))) = (z || decide (u = (s.block : Int) ∧ v = (c : Int))) by
                    rw [List.take_add_one, huv, Option.toList_some, List.any_append, ← hz]
                    simp)
                   have hw1 : Below w12.heap.size w12 (wr.alloc (.cells #[.int .i64 u, .int .i64 v] 65)) := hb.alloc hb.size _
                   have HB1 := Lib.hid hw1
                   clear hz hb huv hw1
                   cases z
                   · as_aux_lemma =>
                     obtain ⟨d, hd⟩ : ∃ d, decide (u = (s.block : Int) ∧ v = (c : Int)) = d := ⟨_, rfl⟩
                     rw [hd, Bool.false_or] at HTK
                     have heq : ∀ W : World, (Op.equalIn 10000 65 (.agg #[.int .i64 u, .int .i64 v]) (.agg #[.int .i64 (s.block : Int), .int .i64 (c : Int)])).run Tryz.prog W = .ok d W := fun W => by rw [eqQ, hd]
                     clear hd
                     go_wp2
                     go_quiet (fail)
                     go_wp2
                     go_roundw
                     case rel => exact ⟨k + 1, d, ZN, rfl, ZO, HTK.out.symm, bdrewN HB1.out _⟩
                     case measure => simp [intOf]; omega
                   · as_aux_lemma =>
                     rw [Bool.true_or] at HTK
                     go_wp2
                     go_quiet (fail)
                     go_wp2
                     go_roundw
                     case rel => exact ⟨k + 1, true, ZN, rfl, ZO, HTK.out.symm, bdrewN HB1.out _⟩
                     case measure => simp [intOf]; omega
                 · as_aux_lemma =>
                   obtain rfl : k = N := by omega
                   rw [List.take_of_length_le ZO] at hz
                   obtain rfl : z = true := by
                    rw [hz, List.any_eq_true]
                    exact ⟨_, HOM.out, ZS⟩
                   have HB1 := Lib.hid hb
                   clear hz hb
                   go_wp2
                   go_roundw
                   case rel => exact ⟨j + 1, ZN, ZO, HB12.out.trans (HB1.out.mono HB12.out.size)⟩
                   case measure => simp [intOf]; omega
               case true.true =>
                as_aux_lemma =>
                go_wp2_with fail
                refine (HC1.out wr (Below.refl _ _)).mono ?_
                rintro e v1 ⟨rfl, hb1⟩
                go_wp2_with fail
                refine (HC1.out v1 hb1).mono ?_
                rintro e v2 ⟨rfl, hb2⟩
                have hc2 := hb1.trans (hb2.mono hb1.size)
                obtain ⟨x1, x2⟩ := HZr.out v2 hc2
                go_wp2_with fail
                refine (HC2.out v2 hc2).mono ?_
                rintro e v3 ⟨rfl, hb3⟩
                clear x1 x2
                have hc3 := hc2.trans (hb3.mono hc2.size)
                go_wp2
                go_roundw
                case rel => exact ⟨j + 1, ZN, ZO, HB.out.trans (hc3.mono HB.out.size)⟩
                case measure => simp [intOf]; omega
             · as_aux_lemma =>
               obtain rfl : j = hl.length := by omega
               have HB := Lib.hid hb
               clear hb
               go_wp2
               go_roundw
               case rel => exact ⟨i + 1, stepR F s, vr9, vt9, vrs9, ZN, ZO, HR9.out.below HB.out, ⟨HI2.out, HO2.out⟩, HKK.out.trans (Kp.below HB.out (fun k hk _ => hk))⟩
               case measure => simp [intOf]; omega
        · as_aux_lemma =>
          have f1 : ((s.pc : Int) == (li : Int)) = false := by rw [beq_eq_false_iff_ne]; omega
          clear h1
          go_wp2
          go_quiet (fail)
          obtain ⟨wz, hwz⟩ : ∃ wz : World, wz = wr.drewN nq := ⟨_, rfl⟩
          rw [← hwz]
          have hbz : Below wr.heap.size wr wz := by rw [hwz]; exact bdrewN (Below.refl _ _) _
          have hBz := HBr.out.trans (hbz.mono HBr.out.size)
          have HKz := Lib.hid (HK4.out.trans (Kp.below hbz (fun k hk _ => hk)))
          have hst := HST.out wz (HB6.out.trans (hBz.mono HB6.out.size)) _ nb gi gb ga vr' vt' vrs' s HI1.out (HR4.out.below hbz) (fun k hk => Nat.lt_of_lt_of_le hk hBz.size) (fun k hk => Nat.lt_of_lt_of_le hk HB6.out.size)
          clear hwz hbz
          go_wp2_with fail
          refine hst.mono ?_
          rintro e w9 ⟨rfl, vr9, vt9, vrs9, hR9, hK9⟩
          go_wp2
          go_roundw
          case rel => exact ⟨i + 1, stepR F s, vr9, vt9, vrs9, ZN, ZO, hR9, ⟨HI2.out, HO2.out⟩, HKz.out.trans hK9⟩
          case measure => simp [intOf]; omega
      · rw [hen] at z22
        have HWr := Lib.hid hWr
        clear hen h4 k4 hBr hWr hIV
        go_wp2
        go_ret
        exact ⟨rfl, HWr.out⟩
    · as_aux_lemma =>
      obtain rfl : i = kk := by omega
      clear h4 k4
      go_wp2
      go_ret
      exact ⟨rfl, hWr⟩
 · as_aux_lemma =>
   have hr1 : (r != 0) = true := by rw [bne_iff_ne]; exact hr0
   clear hr hr0
   go_wp2_with fail
   refine (hlv _ hB4).mono ?_
   rintro e w5 ⟨rfl, hb5⟩
   go_wp2
   go_ret
   exact ⟨rfl, hB4.trans (hb5.mono hB4.size)⟩
end Go.Proofs.YthhpbkfngcflcaaGreatDoor
