/- The walk of the law GraphRuns: it returns true, whatever the program, the input and the number of steps. -/
import Derived.Test.YtjboifobjggbbaaGreatDoorPrune
import Derived.Test.YtjboifobjggbbaaGreatDoorRefJn
import Derived.Test.YtjboifobjggbbaaGreatDoorFewB
import Derived.Test.YtjboifobjggbbaaGreatDoorOutS
import Derived.Test.YtjboifobjggbbaaGreatDoorGraph
namespace Go.Proofs.YtjboifobjggbbaaGreatDoor
open Go.RowKit
set_option maxRecDepth 100000
set_option maxHeartbeats 1000000 in
theorem lawJoined_calls {W w : World} {fv : Value} {F : PFunc} (hU : Uni W) (hF : FnV W W.heap.size fv F) (hW : Below W.heap.size W w) (hL : lawT F = true) :
 Calls Tryz.prog 12 #[fv] w fun e w' => e = .returned (.bool (refJoinB F)) ∧ Below w.heap.size w w' := by
 have hty := fun (w : World) (h : Below W.heap.size W w) => lawTyped_calls hU hF h
 have hT : typedP F = true := by unfold lawT at hL; simp at hL; exact hL.2
 have hjn := fun (w : World) (h : Below W.heap.size W w) => refJoined_calls hF h hT
 rw [hL] at hty
 have hWs := hW.size
 obtain ⟨A0, c0, A1, c1, A2, c2, rfl, -⟩ := id hF.open_
 clear hT hL
 go_enter Tryz.func12, Tryz.ntmps12
 go_wp2_with (first | (go_at_call 14; refine (hty _ BL).mono ?_; (rintro e w1 ⟨rfl, hb1⟩; obtain ⟨hc1, hf1⟩ := bcell hb1; have hz1 := hb1.size; try simp at hz1; try have hy1 := Nat.lt_of_succ_le hz1; try have hx1 := Nat.lt_of_succ_lt hy1; try have hw1 := Nat.lt_of_succ_lt hx1)) | (go_at_call 17; refine (hjn _ BL).mono ?_; (rintro e w2 ⟨rfl, hb2⟩; obtain ⟨hc2, hf2⟩ := bcell hb2; have hz2 := hb2.size; try simp at hz2; try have hy2 := Nat.lt_of_succ_le hz2; try have hx2 := Nat.lt_of_succ_lt hy2; try have hw2 := Nat.lt_of_succ_lt hx2)))
 go_ret
 exact ⟨rfl, BL⟩
theorem inV_keep {w w' : World} {B B' : Nat} {v : Value} {I : PIn} (h : InV w B v I) (hk : Kept B w w') (hB : B ≤ B') : InV w' B' v I := by
 obtain ⟨v0, v1, rfl, h0, h1⟩ := h
 refine ⟨v0, v1, rfl, h0.keep hB fun b o x hb hx => ⟨(hk _ _ hb).trans hx.1, (hk _ _ hb).trans hx.2.1, (hk _ _ hb).trans hx.2.2⟩, h1.keep hB fun b o x hb hx => ?_⟩
 obtain ⟨v, e1, e2⟩ := hx
 exact ⟨v, (hk _ _ hb).trans e1, e2.keep hk hB⟩
theorem runR_inv {F : PFunc} (hT : typedP F = true) (hN : NumsR F) : ∀ (k : Nat) (s : RSt), RInv F s → RInv F (runR F k s)
 | 0, _, h => h
 | k + 1, s, h => by
  rw [runR]
  split
  · exact h
  · exact runR_inv hT hN k _ (h.step hT hN)
set_option maxHeartbeats 16000000 in
theorem gruns_law {W : World} {fv iv : Value} {F : PFunc} {I : PIn} {n : Nat} (hU : Uni W) (hF : FnV W W.heap.size fv F) (hN : NumsR F) (hI : InV W W.heap.size iv I) (hIn : InNum I) (_hn : n < 65536) :
 Calls Tryz.prog 4 #[fv, iv, .int .u16 n] W fun e w' => e = .returned (.bool true) ∧ Below W.heap.size W w' := by
 have hlv := fun (w : World) (h : Below W.heap.size W w) => lives_calls hU h
 have hty := fun (w : World) (h : Below W.heap.size W w) => lawTyped_calls hU hF h
 have hsm := fun (w : World) (h : Below W.heap.size W w) => smallI_calls hI h
 obtain ⟨w, rfl⟩ : ∃ w : World, w = W := ⟨_, rfl⟩
 obtain ⟨A0, c0, A1, c1, A2, c2, rfl, l0, l1, l2, -, -, -, r0, r1, r2⟩ := id hF.open_
 obtain ⟨B0, d0, B1, d1, rfl, m0, m1, k0, k1, q0, q1⟩ := id hI.open_
 unfold Len at *
 clear r0 r1 r2 q0 q1
 have hx0 : Below w.heap.size w ((w.alloc (.cells #[.slice A0 F.vars.length c0, .slice A1 F.params.length c1, .slice A2 F.blocks.length c2] 26)).alloc (.cells #[.slice B0 I.args.length d0, .slice B1 I.rows.length d1] 38)) := BL
 cases hx : lawT F
 · rw [hx] at hty
   clear hx hF hI hN hIn hsm
   go_enter Tryz.func4, Tryz.ntmps4
   go_wp2_with fail
   refine (hlv _ hx0).mono ?_
   rintro e w1 ⟨rfl, hb1⟩
   have hX1 : InBox w1 w.heap.size _ _ _ _ _ := InBox.of (by simpa using hb1)
   have hB1 : Below w.heap.size w w1 := hx0.trans (hb1.mono ZX)
   obtain ⟨e0, e1, g0, g1, g2, g3, g4⟩ := hX1.all
   go_wp2_with fail
   refine (hty _ hB1).mono ?_
   rintro e w2 ⟨rfl, hb2⟩
   go_wp2_with fail
   refine (hlv _ (hB1.trans (hb2.mono hB1.size))).mono ?_
   rintro e w3 ⟨rfl, hb3⟩
   go_wp2
   go_ret
   exact ⟨rfl, hB1.trans ((hb2.trans (hb3.mono hb2.size)).mono hB1.size)⟩
 rw [hx] at hty
 have hx2 : fewB F = true ∧ typedP F = true := by
  unfold lawT at hx
  simpa using hx
 have hS := few_small hx2.1
 have hT := hx2.2
 obtain ⟨n1, n2⟩ := shaped_count (typed_shaped hT)
 have hpv : F.params.length ≤ F.vars.length := by
  have := typed_shaped hT
  unfold shapedP at this
  simp only [Bool.and_eq_true] at this
  exact names_params this.1.1
 have hv512 : F.vars.length ≤ 512 := by
  have := typed_shaped hT
  unfold shapedP at this
  simp only [Bool.and_eq_true] at this
  exact names_vars this.1.1
 have hrt := fun (w' : World) (h : Below w.heap.size w w') => rightI_calls hF hI h hpv
 have hB := few_bnd hx2.1
 have HPR := Lib.hid (fun (w' : World) (h : Below w.heap.size w w') => prune_calls hU hF h hS hB hT)
 have HLJ := Lib.hid (fun (w' : World) (h : Below w.heap.size w w') => lawJoined_calls hU hF h hx)
 have HRF := Lib.hid (fun (w' : World) (h : Below w.heap.size w w') (fuel : Nat) (hR : RightF F I) (hf : fuel ≤ 501) => run_calls hF hI h hT hS hN hIn hR hpv hv512 hf)
 have HU := Lib.hid hU
 have HI := Lib.hid hI
 have HBD := Lib.hid hB
 have HPV := Lib.hid hpv
 have HNN := Lib.hid hN
 have HT := Lib.hid hT
 have HIn := Lib.hid hIn
 clear hx hx2 hF hI hN hIn hS hT hpv hB
 go_enter Tryz.func4, Tryz.ntmps4
 go_wp2_with fail
 refine (hlv _ hx0).mono ?_
 rintro e w1 ⟨rfl, hb1⟩
 have hX1 : InBox w1 w.heap.size _ _ _ _ _ := InBox.of (by simpa using hb1)
 have hB1 : Below w.heap.size w w1 := hx0.trans (hb1.mono ZX)
 obtain ⟨e0, e1, g0, g1, g2, g3, g4⟩ := hX1.all
 go_wp2_with fail
 refine (hty _ hB1).mono ?_
 rintro e w2 ⟨rfl, hb2⟩
 have hX2 := hX1.below hb2 hX1.lt
 have hB2 := hB1.trans (hb2.mono hB1.size)
 clear e0 e1 g0 g1 g2 g3 g4
 obtain ⟨e0, e1, g0, g1, g2, g3, g4⟩ := hX2.all
 go_wp2_with fail
 refine (hsm _ hB2).mono ?_
 rintro e w3 ⟨⟨b, rfl⟩, hb3⟩
 have hX3 := hX2.below hb3 hX2.lt
 have hB3 := hB2.trans (hb3.mono hB2.size)
 clear e0 e1 g0 g1 g2 g3 g4 hb1 hb2 hb3 hX1 hX2 hB1 hB2 hx0
 cases b
 · as_aux_lemma =>
   go_wp2_with fail
   refine (hlv _ hB3).mono ?_
   rintro e w4 ⟨rfl, hb4⟩
   go_wp2
   go_ret
   exact ⟨rfl, hB3.trans (hb4.mono hB3.size)⟩
 obtain ⟨e0, e1, g0, g1, g2, g3, g4⟩ := hX3.all
 go_wp2_with fail
 refine (hrt _ hB3).mono ?_
 rintro e w4 ⟨⟨r, rfl, hr⟩, hb4⟩
 have hX4 := hX3.below hb4 hX3.lt
 have hB4 := hB3.trans (hb4.mono hB3.size)
 clear e0 e1 g0 g1 g2 g3 g4 hb4 hX3 hB3
 by_cases hr0 : r = 0
 · as_aux_lemma =>
   have HR := Lib.hid (hr hr0)
   subst hr0
   clear hr hlv hty hsm hrt
   obtain ⟨e0, e1, g0, g1, g2, g3, g4⟩ := hX4.all
   go_wp2_with fail
   refine (HPR.out _ hB4).mono ?_
   rintro e w5 ⟨hb5, hcase⟩
   have hX5 := hX4.below hb5 hX4.lt
   have hB5 := hB4.trans (hb5.mono hB4.size)
   clear e0 e1 g0 g1 g2 g3 g4 hb5 hX4 hB4 HPR
   obtain ⟨e0, e1, g0, g1, g2, g3, g4⟩ := hX5.all
   rcases hcase with ⟨hj, gv, rfl, hG⟩ | ⟨hj, rfl⟩
   · obtain ⟨C0, k3, C1, k4, C2, k5, rfl, -⟩ := id hG.open_
     have hT2 : typedP (prF F) = true := by
      unfold joinB at hj
      simp only [Bool.and_eq_true] at hj
      exact hj.1
     have hB2 := bnd_pr HBD.out
     have hI5 : InV w5 w5.heap.size (.agg #[.slice B0 I.args.length d0, .slice B1 I.rows.length d1]) I := inV_keep HI.out (Kept.of_below hB5) hB5.size
     have hR2 : RightF (prF F) I := by
      obtain ⟨a, b, c, d⟩ := HR.out
      exact ⟨a, b, c, d⟩
     obtain ⟨kk, hkk⟩ : ∃ kk : Nat, kk = n % 501 := ⟨_, rfl⟩
     obtain ⟨hmod, hmod2⟩ := mod501 n
     rw [← hkk] at hmod hmod2
     have hk501 : kk < 501 := by rw [hkk]; exact Nat.mod_lt _ ZD
     clear hkk
     have hinv := beginR_inv HT.out HR.out HIn.out
     have hrp := run_pr HT.out HNN.out kk (beginR F I) hinv (thB_zero HT.out)
     have hlt := (runR_inv HT.out HNN.out kk (beginR F I) hinv).lt
     replace hrp : runR (prF F) kk (beginR (prF F) I) = (runR F kk (beginR F I)).inK (numP F (runR F kk (beginR F I)).block) := hrp
     have HG2 : Hid (∀ w' : World, Below w5.heap.size w5 w' → Calls Tryz.prog 23 #[.agg #[.slice C0 (prF F).vars.length k3, .slice C1 (prF F).params.length k4, .slice C2 (prF F).blocks.length k5], .agg #[.slice B0 I.args.length d0, .slice B1 I.rows.length d1], .int .i64 kk] w' fun e w'' => ∃ vt, e = .returned (outV (runR F kk (beginR F I)) vt) ∧ w''.ownsRow 0 2 1 vt (runR F kk (beginR F I)).trace.length ((runR F kk (beginR F I)).trace.map (Value.int .i64)) ∧ Below w'.heap.size w' w'') := fun w' h => by
      refine (run_calls hG hI5 h hT2 hB2.small (nums_pr HNN.out) HIn.out hR2 HPV.out hv512 ZO).mono ?_
      rintro e w'' ⟨vt, he, ho, hb⟩
      rw [hrp] at he ho
      exact ⟨vt, he, ho, hb⟩
     have HF2 : Hid (∀ w' : World, Below w.heap.size w w' → Calls Tryz.prog 23 #[.agg #[.slice A0 F.vars.length c0, .slice A1 F.params.length c1, .slice A2 F.blocks.length c2], .agg #[.slice B0 I.args.length d0, .slice B1 I.rows.length d1], .int .i64 kk] w' fun e w'' => ∃ vt, e = .returned (outV (runR F kk (beginR F I)) vt) ∧ w''.ownsRow 0 2 1 vt (runR F kk (beginR F I)).trace.length ((runR F kk (beginR F I)).trace.map (Value.int .i64)) ∧ Below w'.heap.size w' w'') := fun w' h => HRF.out w' h kk HR.out ZO
     have HTY := Lib.hid (fun (w' : World) (h : Below w5.heap.size w5 w') => law8Typed_calls (HU.out.below hB5) hG h hB2.small)
     rw [hT2] at HTY
     have hvl : (prF F).vars.length = F.vars.length := rfl
     have hpl : (prF F).params.length = F.params.length := rfl
     generalize runR F kk (beginR F I) = S9 at *
     have HBB := Lib.hid hB5
     have hs5 := hB5.size
     clear hj hT2 hB2 hI5 hR2 hinv hrp HRF hG hX5
     go_wp2_with fail
     obtain ⟨S0, hS0⟩ : ∃ S0 : World → Prop, S0 = fun w' => w'.cell? ⟨w.heap.size, 0, none⟩ = some (.slice A0 F.vars.length c0) ∧ w'.cell? ⟨w.heap.size, 1, none⟩ = some (.slice A1 F.params.length c1) ∧ w'.cell? ⟨w.heap.size, 2, none⟩ = some (.slice A2 F.blocks.length c2) ∧ w'.cell? ⟨w.heap.size + 1, 0, none⟩ = some (.slice B0 I.args.length d0) ∧ w'.cell? ⟨w.heap.size + 1, 1, none⟩ = some (.slice B1 I.rows.length d1) ∧ w'.cell? ⟨w5.heap.size, 0, none⟩ = some (.slice C0 (prF F).vars.length k3) ∧ w'.cell? ⟨w5.heap.size, 1, none⟩ = some (.slice C1 (prF F).params.length k4) ∧ w'.cell? ⟨w5.heap.size, 2, none⟩ = some (.slice C2 (prF F).blocks.length k5) ∧ Below w5.heap.size w5 w' ∧ w.heap.size < w'.heap.size ∧ w.heap.size + 1 < w'.heap.size ∧ w5.heap.size < w'.heap.size := ⟨_, rfl⟩
     have HS0 := Lib.hid hS0
     clear hS0
     have k0 := fun xw => (WS.at HS0 xw).1
     have k1 := fun xw => (WS.at HS0 xw).2.1
     have k2 := fun xw => (WS.at HS0 xw).2.2.1
     have k3 := fun xw => (WS.at HS0 xw).2.2.2.1
     have k4 := fun xw => (WS.at HS0 xw).2.2.2.2.1
     have k5 := fun xw => (WS.at HS0 xw).2.2.2.2.2.1
     have k6 := fun xw => (WS.at HS0 xw).2.2.2.2.2.2.1
     have k7 := fun xw => (WS.at HS0 xw).2.2.2.2.2.2.2.1
     have k8 := fun xw => (WS.at HS0 xw).2.2.2.2.2.2.2.2.1
     have k9 := fun xw => (WS.at HS0 xw).2.2.2.2.2.2.2.2.2.1
     have k10 := fun xw => (WS.at HS0 xw).2.2.2.2.2.2.2.2.2.2.1
     have k11 := fun xw => (WS.at HS0 xw).2.2.2.2.2.2.2.2.2.2.2
     refine wp_region_sched (S := S0) [0, 1, 2, 3, 4, 5, 6, 7, 8, 9, 10, 11, 12, 13, 14, 15, 16, 17, 18, 19, 20, 21, 22, 23, 25, 26, 27, 24, 28, 29, 30, 31] ZK ZK (fun _ _ _ _ _ h => h) ?hS (fun hSc => ?_)
     case hS =>
      rw [HS0.out]
      exact ⟨ZI, ZI, ZI, ZI, ZI, ZI, ZI, ZI, BL, ZJ, ZJ, ZJ⟩
     have hne0 : Nonempty (WS S0) := ⟨⟨_, hSc⟩⟩
     simp only [List.map_cons, List.map_nil, List.getD_cons_succ, List.getD_cons_zero]
     repeat
      first
      | ((with_reducible refine wpSch_lk ?_ ?_); exact rfl; go_big_quiet_step (fail); (try with_reducible refine wpQuiet_nil ?_); (try dsimp only))
      | ((with_reducible refine wpSch_act ?_ ?_ (fun K hK => ?_))
         exact rfl
         exact rfl
         go_simp
         (try go_wp2_with (first | (go_at_call 21; refine (HTY.out _ BL).mono ?_; rintro e w9 ⟨rfl, hb9⟩; obtain ⟨hc9, hf9⟩ := bcell hb9; have hz9 := hb9.size; (try simp at hz9)) | (go_at_call 23; first | (have hr1' := hr1; refine (HG2.out _ BL).mono ?_; rintro e w9 ⟨v9, rfl, hr2, hb9⟩; obtain ⟨R2, t2, hv9⟩ := own_form hr2; subst hv9; have hr3 := own_below hr1 (show Below wa.heap.size wa w9 from BL); obtain ⟨hc9, hf9⟩ := bcell hb9; have hz9 := hb9.size; (try simp at hz9)) | (refine (HF2.out _ (HBB.out.trans (Below.mono BL hs5))).mono ?_; rintro e wa ⟨v9, rfl, hr1, hb9⟩; obtain ⟨R1, t1, hv9⟩ := own_form hr1; subst hv9; obtain ⟨hc9, hf9⟩ := bcell hb9; have hz9 := hb9.size; (try simp at hz9))) | (go_at_call 22; refine (outSame_calls (W := w9) (Rd.of_own hr3).2.2 (Rd.of_own hr2).2.2 BL ZO).mono ?_; rintro e wz ⟨rfl, hb9⟩; obtain ⟨hc9, hf9⟩ := bcell hb9; have hz9 := hb9.size; (try simp at hz9))))
         refine hK.out _ _ ?hS (fun hSc => ?_)
         case hS =>
          first
          | exact hSc
          | (rw [HS0.out] at hSc ⊢; obtain ⟨p0, p1, p2, p3, p4, p5, p6, p7, p8, p9, p10, p11⟩ := hSc; exact ⟨ZC0, ZC1, ZC2, ZC3, ZC4, ZC5, ZC6, (by first | exact (hc9 _ _ ZB).trans p7 | exact ZC), (by first | exact p8.trans (hb9.mono (by have := p8.size; first | omega | (simp at this ⊢; omega))) | exact BL), ZT9, (by first | exact Nat.lt_of_lt_of_le p10 hb9.size | exact ZT), (by first | exact Nat.lt_of_lt_of_le p11 hb9.size | exact ZT)⟩)
         clear hK K)
     refine wpSch_nil ?_
     rw [HS0.out] at hSc
     obtain ⟨p0, p1, p2, p3, p4, p5, p6, p7, p8, p9, p10, p11⟩ := hSc
     clear hne0 HS0 k0 k1 k2 k3 k4 k5 k6 k7 k8 k9 k10 k11
     go_wp2_with fail
     go_ret
     exact ⟨rfl, HBB.out.trans (p8.mono hs5)⟩
   · have hno : refJoinB F = false := by
      cases hr : refJoinB F
      · rfl
      · rw [← join_eq HT.out] at hr
        have := joined_pr HT.out hr
        rw [joinB, this.1, this.2] at hj
        cases hj
     rw [hno] at HLJ
     have HX5 := Lib.hid hX5
     clear hj hno HRF hX5
     go_wp2_with fail
     refine (HLJ.out _ (hB5.trans (Below.mono BL hB5.size))).mono ?_
     rintro e w6 ⟨rfl, hb6⟩
     go_wp2
     go_ret
     exact ⟨rfl, hB5.trans (Below.mono BL hB5.size)⟩
 · as_aux_lemma =>
   obtain ⟨e0, e1, g0, g1, g2, g3, g4⟩ := hX4.all
   clear hr HPR HLJ HRF
   go_wp2_with fail
   refine (hlv _ hB4).mono ?_
   rintro e w5 ⟨rfl, hb5⟩
   go_wp2
   go_ret
   exact ⟨rfl, hB4.trans (hb5.mono hB4.size)⟩
end Go.Proofs.YtjboifobjggbbaaGreatDoor
