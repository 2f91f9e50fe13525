/- The walk of the law GraphPrunes: it returns true, whatever the program. -/
import Derived.Test.YtjdkcichkpolgaaGreatDoorRefPr
import Derived.Test.YtjdkcichkpolgaaGreatDoorPruneN
import Derived.Test.YtjdkcichkpolgaaGreatDoorSame
import Derived.Test.YtjdkcichkpolgaaGreatDoorFewB
namespace Go.Proofs.YtjdkcichkpolgaaGreatDoor
open Go.RowKit
set_option maxRecDepth 100000
theorem lawJ_any {W w : World} {fv : Value} {F : PFunc} (hU : Uni W) (hF : FnV W W.heap.size fv F) (hW : Below W.heap.size W w) (hf : fewB F = true) :
 Calls Tryz.prog 13 #[fv] w fun e w' => e = .returned (.bool (joinB F)) ∧ Below w.heap.size w w' := by
 cases hT : typedP F
 · have hL : lawT F = false := by rw [lawT, hT, Bool.and_false]
   rw [show joinB F = false by rw [joinB, hT]; rfl]
   exact lawJoinedNo_calls hU hF hW hL
 · have hL : lawT F = true := by rw [lawT, hT, hf]; rfl
   rw [show joinB F = refJoinB F by rw [joinB, hT, Bool.true_and, join_eq hT]]
   exact lawJoined_calls hU hF hW hL
set_option maxHeartbeats 8000000 in
theorem gprunes_law {W : World} {fv : Value} {F : PFunc} (hU : Uni W) (hF : FnV W W.heap.size fv F) :
 Calls Tryz.prog 3 #[fv] W fun e w' => e = .returned (.bool true) ∧ Below W.heap.size W w' := by
 have hlv := fun (w : World) (h : Below W.heap.size W w) => lives_calls hU h
 have hfw := fun (w : World) (h : Below W.heap.size W w) => few_calls hF h
 obtain ⟨w, rfl⟩ : ∃ w : World, w = W := ⟨_, rfl⟩
 obtain ⟨A0, c0, A1, c1, A2, c2, rfl, l0, l1, l2, -, -, -, r0, r1, r2⟩ := id hF.open_
 unfold Len at *
 clear r0 r1 r2
 have hb0 := (Below.refl w.heap.size w).alloc (Nat.le_refl _) (.cells #[.slice A0 F.vars.length c0, .slice A1 F.params.length c1, .slice A2 F.blocks.length c2] 26)
 cases hx : fewB F
 · rw [hx] at hfw
   clear hx hF
   go_enter Tryz.func3, Tryz.ntmps3
   go_wp2_with fail
   refine (hlv _ BL).mono ?_
   (rintro e w1 ⟨rfl, hb1⟩; obtain ⟨hc1, hf1⟩ := bcell hb1; have hz1 := hb1.size; try simp at hz1; try have hy1 := Nat.lt_of_succ_le hz1; try have hx1 := Nat.lt_of_succ_lt hy1; try have hw1 := Nat.lt_of_succ_lt hx1)
   go_wp2_with fail
   refine (hfw _ BL).mono ?_
   (rintro e w2 ⟨rfl, hb2⟩; obtain ⟨hc2, hf2⟩ := bcell hb2; have hz2 := hb2.size; try simp at hz2; try have hy2 := Nat.lt_of_succ_le hz2; try have hx2 := Nat.lt_of_succ_lt hy2; try have hw2 := Nat.lt_of_succ_lt hx2)
   go_wp2_with fail
   refine (hlv _ BL).mono ?_
   (rintro e w3 ⟨rfl, hb3⟩; obtain ⟨hc3, hf3⟩ := bcell hb3; have hz3 := hb3.size; try simp at hz3; try have hy3 := Nat.lt_of_succ_le hz3; try have hx3 := Nat.lt_of_succ_lt hy3; try have hw3 := Nat.lt_of_succ_lt hx3)
   go_wp2
   go_ret
   exact ⟨rfl, BL⟩
 rw [hx] at hfw
 have hS := few_small hx
 have hBn := few_bnd hx
 have HGJ := Lib.hid (fun (w' : World) (h : Below w.heap.size w w') => graphJoined_calls hU hF h hS hBn)
 have HLJ := Lib.hid (fun (w' : World) (h : Below w.heap.size w w') => lawJ_any hU hF h hx)
 have HTY := Lib.hid (fun (w' : World) (h : Below w.heap.size w w') => lawTyped_calls hU hF h)
 rw [show lawT F = typedP F by rw [lawT, hx, Bool.true_and]] at HTY
 have HPN := Lib.hid (fun (w' : World) (h : Below w.heap.size w w') (hT : typedP F = false) => pruneNo_calls hU hF h hS hT)
 have HPY := Lib.hid (fun (w' : World) (h : Below w.heap.size w w') (hT : typedP F = true) => prune_calls hU hF h hS hBn hT)
 have HRP := Lib.hid (fun (w' : World) (h : Below w.heap.size w w') (hT : typedP F = true) => refPrune_calls hF h hBn hT)
 have HBN := Lib.hid hBn
 have HU := Lib.hid hU
 clear hx hF hS hBn
 go_enter Tryz.func3, Tryz.ntmps3
 go_wp2_with fail
 refine (hlv _ BL).mono ?_
 (rintro e w1 ⟨rfl, hb1⟩; obtain ⟨hc1, hf1⟩ := bcell hb1; have hz1 := hb1.size; try simp at hz1; try have hy1 := Nat.lt_of_succ_le hz1; try have hx1 := Nat.lt_of_succ_lt hy1; try have hw1 := Nat.lt_of_succ_lt hx1)
 go_wp2_with fail
 refine (hfw _ BL).mono ?_
 (rintro e w2 ⟨rfl, hb2⟩; obtain ⟨hc2, hf2⟩ := bcell hb2; have hz2 := hb2.size; try simp at hz2; try have hy2 := Nat.lt_of_succ_le hz2; try have hx2 := Nat.lt_of_succ_lt hy2; try have hw2 := Nat.lt_of_succ_lt hx2)
 go_upto_region 3 with fail
 go_cut [29] (fun s wx => s = .bool false ∧ BoxAt wx w.heap.size #[.slice A0 F.vars.length c0, .slice A1 F.params.length c1, .slice A2 F.blocks.length c2] 26 ∧ Below w.heap.size w wx)
 case first =>
  have hG := HGJ.out
  have hL := HLJ.out
  clear HGJ HLJ HTY HPN HPY HRP hlv hfw HBN
  generalize joinB F = jb at *
  have hbx : BoxAt w2 w.heap.size #[.slice A0 F.vars.length c0, .slice A1 F.params.length c1, .slice A2 F.blocks.length c2] 26 := BoxAt.below (BoxAt.below (BoxAt.new _ _ _) hb1 ZS) hb2 ZO
  have q0 := hbx.cell 0
  have q1 := hbx.cell 1
  have q2 := hbx.cell 2
  have ql := hbx.lt
  simp at q0 q1 q2
  have hB2 : Below w.heap.size w w2 := BL
  have HBX := Lib.hid hbx
  clear hbx hb1 hb2 hc1 hf1 hc2 hf2 hb0
  cases jb
  · as_aux_lemma =>
    replace hG : ∀ w', Below w.heap.size w w' → Calls Tryz.prog 12 #[.agg #[.slice A0 F.vars.length c0, .slice A1 F.params.length c1, .slice A2 F.blocks.length c2]] w' fun e w'' => e = .returned (.int .i64 3) ∧ Below w'.heap.size w' w'' := hG
    obtain ⟨S0, hS0⟩ : ∃ S0 : World → Prop, S0 = fun w' => w'.cell? ⟨w.heap.size, 0, none⟩ = some (.slice A0 F.vars.length c0) ∧ w'.cell? ⟨w.heap.size, 1, none⟩ = some (.slice A1 F.params.length c1) ∧ w'.cell? ⟨w.heap.size, 2, none⟩ = some (.slice A2 F.blocks.length c2) ∧ Below w2.heap.size w2 w' ∧ w.heap.size < w'.heap.size := ⟨_, rfl⟩
    have HS0 := Lib.hid hS0
    clear hS0
    have k0 := fun xw => (WS.at HS0 xw).1
    have k1 := fun xw => (WS.at HS0 xw).2.1
    have k2 := fun xw => (WS.at HS0 xw).2.2.1
    have k3 := fun xw => (WS.at HS0 xw).2.2.2.1
    have k4 := fun xw => (WS.at HS0 xw).2.2.2.2
    refine wp_region_sched (S := S0) [0, 3, 1, 2, 4, 5, 6, 7, 8, 9, 10, 11, 12, 13, 14, 15] ZK ZK (fun _ _ _ _ _ h => h) ?hS (fun hSc => ?_)
    case hS =>
     rw [HS0.out]
     exact ⟨ZI, ZI, ZI, BL, ZJ⟩
    have hne0 : Nonempty (WS S0) := ⟨⟨_, hSc⟩⟩
    simp only [List.map_cons, List.map_nil, List.getD_cons_succ, List.getD_cons_zero]
    repeat
     first
     | ((with_reducible refine wpSch_lk ?_ ?_); exact rfl; go_big_quiet_step (fail); (try with_reducible refine wpQuiet_nil ?_); (try dsimp only))
     | ((with_reducible refine wpSch_act ?_ ?_ (fun K hK => ?_))
        exact rfl
        exact rfl
        go_simp
        (try go_wp2_with (first | (go_at_call 12; refine (hG _ (hB2.trans (Below.mono BL hB2.size))).mono ?_; rintro e w9 ⟨rfl, hb9⟩; obtain ⟨hc9, hf9⟩ := bcell hb9; have hz9 := hb9.size; (try simp at hz9)) | (go_at_call 13; refine (hL _ (hB2.trans (Below.mono BL hB2.size))).mono ?_; rintro e w9 ⟨rfl, hb9⟩; obtain ⟨hc9, hf9⟩ := bcell hb9; have hz9 := hb9.size; (try simp at hz9))))
        refine hK.out _ _ ?hS (fun hSc => ?_)
        case hS =>
         first
         | exact hSc
         | (rw [HS0.out] at hSc ⊢; obtain ⟨p0, p1, p2, p3, p4⟩ := hSc; exact ⟨ZC0, ZC1, ZC2, (by first | exact p3.trans (hb9.mono (by have := p3.size; first | omega | (simp at this ⊢; omega))) | exact BL), (by first | exact Nat.lt_of_lt_of_le p4 hb9.size | exact ZT)⟩)
        clear hK K)
    refine wpSch_nil ?_
    rw [HS0.out] at hSc
    obtain ⟨p0, p1, p2, p3, p4⟩ := hSc
    clear hne0 HS0 k0 k1 k2 k3 k4
    go_wp2_with fail
    go_meet
    exact ⟨rfl, HBX.out.below p3 ql, hB2.trans (p3.mono hB2.size)⟩
  · as_aux_lemma =>
    replace hG : ∀ w', Below w.heap.size w w' → Calls Tryz.prog 12 #[.agg #[.slice A0 F.vars.length c0, .slice A1 F.params.length c1, .slice A2 F.blocks.length c2]] w' fun e w'' => e = .returned (.int .i64 0) ∧ Below w'.heap.size w' w'' := hG
    obtain ⟨S0, hS0⟩ : ∃ S0 : World → Prop, S0 = fun w' => w'.cell? ⟨w.heap.size, 0, none⟩ = some (.slice A0 F.vars.length c0) ∧ w'.cell? ⟨w.heap.size, 1, none⟩ = some (.slice A1 F.params.length c1) ∧ w'.cell? ⟨w.heap.size, 2, none⟩ = some (.slice A2 F.blocks.length c2) ∧ Below w2.heap.size w2 w' ∧ w.heap.size < w'.heap.size := ⟨_, rfl⟩
    have HS0 := Lib.hid hS0
    clear hS0
    have k0 := fun xw => (WS.at HS0 xw).1
    have k1 := fun xw => (WS.at HS0 xw).2.1
    have k2 := fun xw => (WS.at HS0 xw).2.2.1
    have k3 := fun xw => (WS.at HS0 xw).2.2.2.1
    have k4 := fun xw => (WS.at HS0 xw).2.2.2.2
    refine wp_region_sched (S := S0) [0, 3, 1, 2, 4, 5, 6, 7, 8, 9, 10, 11, 12, 13, 14, 15] ZK ZK (fun _ _ _ _ _ h => h) ?hS (fun hSc => ?_)
    case hS =>
     rw [HS0.out]
     exact ⟨ZI, ZI, ZI, BL, ZJ⟩
    have hne0 : Nonempty (WS S0) := ⟨⟨_, hSc⟩⟩
    simp only [List.map_cons, List.map_nil, List.getD_cons_succ, List.getD_cons_zero]
    repeat
     first
     | ((with_reducible refine wpSch_lk ?_ ?_); exact rfl; go_big_quiet_step (fail); (try with_reducible refine wpQuiet_nil ?_); (try dsimp only))
     | ((with_reducible refine wpSch_act ?_ ?_ (fun K hK => ?_))
        exact rfl
        exact rfl
        go_simp
        (try go_wp2_with (first | (go_at_call 12; refine (hG _ (hB2.trans (Below.mono BL hB2.size))).mono ?_; rintro e w9 ⟨rfl, hb9⟩; obtain ⟨hc9, hf9⟩ := bcell hb9; have hz9 := hb9.size; (try simp at hz9)) | (go_at_call 13; refine (hL _ (hB2.trans (Below.mono BL hB2.size))).mono ?_; rintro e w9 ⟨rfl, hb9⟩; obtain ⟨hc9, hf9⟩ := bcell hb9; have hz9 := hb9.size; (try simp at hz9))))
        refine hK.out _ _ ?hS (fun hSc => ?_)
        case hS =>
         first
         | exact hSc
         | (rw [HS0.out] at hSc ⊢; obtain ⟨p0, p1, p2, p3, p4⟩ := hSc; exact ⟨ZC0, ZC1, ZC2, (by first | exact p3.trans (hb9.mono (by have := p3.size; first | omega | (simp at this ⊢; omega))) | exact BL), (by first | exact Nat.lt_of_lt_of_le p4 hb9.size | exact ZT)⟩)
        clear hK K)
     | ((with_reducible refine wpSch_pass ?_ ?_); exact rfl; simp only [Act.put, List.setIfInBounds_toArray, List.set_cons_zero, List.set_cons_succ])
    refine wpSch_nil ?_
    rw [HS0.out] at hSc
    obtain ⟨p0, p1, p2, p3, p4⟩ := hSc
    clear hne0 HS0 k0 k1 k2 k3 k4
    go_wp2_with fail
    go_meet
    exact ⟨rfl, HBX.out.below p3 ql, hB2.trans (p3.mono hB2.size)⟩
 case rest =>
  obtain ⟨rfl, hbx, hB⟩ := hcut
  have q0 := hbx.cell 0
  have q1 := hbx.cell 1
  have q2 := hbx.cell 2
  have ql := hbx.lt
  simp at q0 q1 q2
  clear hb0 hb1 hb2 hc1 hf1 hc2 hf2 hlv hfw HGJ HLJ
  cases hT : typedP F
  · as_aux_lemma =>
    have hpr := fun w' h => HPN.out w' h hT
    have hty := HTY.out
    rw [hT] at hty
    clear hT HPN HPY HRP HTY
    go_wp2_with fail
    refine (hpr _ hB).mono ?_
    rintro e w5 ⟨rfl, hb5⟩
    have hx5 := hbx.below hb5 ql
    have hB5 := hB.trans (hb5.mono hB.size)
    have e0 := hx5.cell 0
    have e1 := hx5.cell 1
    have e2 := hx5.cell 2
    have el := hx5.lt
    simp at e0 e1 e2
    clear q0 q1 q2
    go_wp2_with fail
    refine (hty _ BL).mono ?_
    rintro e w6 ⟨rfl, hb6⟩
    have hx6 := BoxAt.below (BoxAt.new _ _ _) hb6 ZS
    have g2 := hx6.cell 2
    have gl := hx6.lt
    simp at g2
    go_wp2_with fail
    go_ret
    exact ⟨rfl, BL⟩
  · have hty := HTY.out
    rw [hT] at hty
    have hpr := fun w' h => HPY.out w' h hT
    have hrp := fun w' h => HRP.out w' h hT
    have htp := typed_pr hT
    have hjp : joinB (prF F) = (shapedP (prF F) && joinB (prF F)) := by rw [joinB, htp]; cases shapedP (prF F) <;> rfl
    have hjq : shapedP (prF F) = true → refJoinB (prF F) = joinB (prF F) := fun h => by rw [joinB, htp, h, Bool.true_and, join_eq (by rw [htp, h])]
    have HTP := Lib.hid htp
    have HBP := Lib.hid (bnd_pr HBN.out)
    clear hT HPN HPY HRP HTY htp
    go_wp2_with fail
    refine (hpr _ hB).mono ?_
    rintro e w5 ⟨hb5, hcase⟩
    have hx5 := hbx.below hb5 ql
    have hB5 := hB.trans (hb5.mono hB.size)
    have e0 := hx5.cell 0
    have e1 := hx5.cell 1
    have e2 := hx5.cell 2
    have el := hx5.lt
    simp at e0 e1 e2
    clear q0 q1 q2
    rcases hcase with ⟨hj, gv, rfl, hG⟩ | ⟨hj, rfl⟩
    · as_aux_lemma =>
      obtain ⟨C0, k3, C1, k4, C2, k5, rfl, -⟩ := id hG.open_
      have hs1 : shapedP (prF F) = true := by
       rw [hj, Bool.and_true] at hjp
       exact hjp.symm
      have HJ := Lib.hid ((hjq hs1).trans hj)
      have hT2 : typedP (prF F) = true := by rw [HTP.out, hs1]
      have HS := Lib.hid hs1
      have HG := Lib.hid hG
      have HT2 := Lib.hid hT2
      have hvl : (prF F).vars.length = F.vars.length := rfl
      clear hjp hjq hj hs1 hT2 hG hvl
      go_wp2_with fail
      refine (hty _ BL).mono ?_
      rintro e w6 ⟨rfl, hb6⟩
      have h56 : Below w5.heap.size w5 w6 := BL
      have hx6 := hx5.below h56 el
      have hy6 := BoxAt.below (BoxAt.new _ _ _) hb6 ZS
      have hB6 := hB5.trans (h56.mono hB5.size)
      have h0 := hx6.cell 0
      have h1 := hx6.cell 1
      have h2 := hx6.cell 2
      have hl := hx6.lt
      simp at h0 h1 h2
      clear e0 e1 e2
      go_wp2_with fail
      refine (hrp _ hB6).mono ?_
      rintro e w7 ⟨mv, rfl, hM, hb7⟩
      obtain ⟨D0, j3, D1, j4, D2, j5, rfl, -⟩ := id hM.open_
      have hsh := fun w' (h : Below w7.heap.size w7 w') => law4Shaped_calls (HU.out.below (hB6.trans (hb7.mono hB6.size))) hM h HBP.out.small
      have hrj := fun w' (h : Below w7.heap.size w7 w') => refJoined_calls hM h HT2.out
      rw [HS.out] at hsh
      rw [HJ.out] at hrj
      have hM2 := Lib.hid hM
      clear hM hrp hty hpr h0 h1 h2
      go_wp2_with fail
      refine (hsh _ BL).mono ?_
      rintro e w8 ⟨rfl, hb8⟩
      have hm8 := BoxAt.below (BoxAt.new _ _ _) hb8 ZS
      have h78 : Below w7.heap.size w7 w8 := BL
      have m0 := hm8.cell 0
      have m1 := hm8.cell 1
      have m2 := hm8.cell 2
      have ml := hm8.lt
      simp at m0 m1 m2
      go_wp2_with fail
      refine (hrj _ h78).mono ?_
      rintro e w9 ⟨rfl, hb9⟩
      have hm9 := hm8.below hb9 ml
      have h79 := h78.trans (hb9.mono h78.size)
      have h69 := hb7.trans (h79.mono hb7.size)
      have hy9 := hy6.below h69 hy6.lt
      have y0 := hy9.cell 0
      have y1 := hy9.cell 1
      have y2 := hy9.cell 2
      have yl := hy9.lt
      have z0 := hm9.cell 0
      have z1 := hm9.cell 1
      have z2 := hm9.cell 2
      have zl := hm9.lt
      simp at y0 y1 y2 z0 z1 z2
      have h59 := h56.trans (h69.mono h56.size)
      have hsm := same_calls (HG.out.keep (Kept.of_below h59) h59.size) (hM2.out.keep (Kept.of_below h79) h79.size) (Below.refl w9.heap.size w9)
      clear m0 m1 m2
      go_wp2_with fail
      refine hsm.mono ?_
      rintro e wz ⟨rfl, hbz⟩
      go_wp2
      go_ret
      have h5z := h59.trans (hbz.mono h59.size)
      exact ⟨rfl, hB5.trans (h5z.mono hB5.size)⟩
    · as_aux_lemma =>
      have HTP2 := HTP
      rw [hj, Bool.and_false] at hjp
      have HJQ := Lib.hid (fun h => (hjq h).trans hj)
      clear hjp hjq hj
      go_wp2_with fail
      refine (hty _ BL).mono ?_
      rintro e w6 ⟨rfl, hb6⟩
      have h56 : Below w5.heap.size w5 w6 := BL
      have hx6 := hx5.below h56 el
      have hy6 := BoxAt.below (BoxAt.new _ _ _) hb6 ZS
      have hB6 := hB5.trans (h56.mono hB5.size)
      have h0 := hx6.cell 0
      have h1 := hx6.cell 1
      have h2 := hx6.cell 2
      have hl := hx6.lt
      simp at h0 h1 h2
      clear e0 e1 e2
      go_wp2_with fail
      refine (hrp _ hB6).mono ?_
      rintro e w7 ⟨mv, rfl, hM, hb7⟩
      obtain ⟨D0, j3, D1, j4, D2, j5, rfl, -⟩ := id hM.open_
      have hsh := fun w' (h : Below w7.heap.size w7 w') => law4Shaped_calls (HU.out.below (hB6.trans (hb7.mono hB6.size))) hM h HBP.out.small
      have hrj := fun w' (h : Below w7.heap.size w7 w') (hs : shapedP (prF F) = true) => refJoined_calls hM h (by rw [HTP2.out, hs])
      clear hM hrp hty hpr h0 h1 h2
      cases hs : shapedP (prF F)
      · rw [hs] at hsh
        clear hs hrj HJQ
        go_wp2_with fail
        refine (hsh _ BL).mono ?_
        rintro e w8 ⟨rfl, hb8⟩
        have h78 : Below w7.heap.size w7 w8 := BL
        have h68 := hb7.trans (h78.mono hb7.size)
        have hy9 := hy6.below h68 hy6.lt
        have y2 := hy9.cell 2
        have yl := hy9.lt
        simp at y2
        go_wp2_with fail
        go_ret
        exact ⟨rfl, hB6.trans (h68.mono hB6.size)⟩
      · rw [hs] at hsh
        replace hrj := fun w' h => hrj w' h hs
        rw [HJQ.out hs] at hrj
        clear hs
        go_wp2_with fail
        refine (hsh _ BL).mono ?_
        rintro e w8 ⟨rfl, hb8⟩
        have hm8 := BoxAt.below (BoxAt.new _ _ _) hb8 ZS
        have h78 : Below w7.heap.size w7 w8 := BL
        have m0 := hm8.cell 0
        have m1 := hm8.cell 1
        have m2 := hm8.cell 2
        have ml := hm8.lt
        simp at m0 m1 m2
        go_wp2_with fail
        refine (hrj _ h78).mono ?_
        rintro e w9 ⟨rfl, hb9⟩
        have h79 := h78.trans (hb9.mono h78.size)
        have h69 := hb7.trans (h79.mono hb7.size)
        have hy9 := hy6.below h69 hy6.lt
        have y2 := hy9.cell 2
        have yl := hy9.lt
        simp at y2
        clear m0 m1 m2
        go_wp2_with fail
        go_ret
        exact ⟨rfl, hB6.trans (h69.mono hB6.size)⟩
end Go.Proofs.YtjdkcichkpolgaaGreatDoor
