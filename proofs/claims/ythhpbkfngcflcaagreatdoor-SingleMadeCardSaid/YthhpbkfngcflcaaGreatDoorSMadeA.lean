/- The walks of Makes and Takes of the document's run: what the next step makes, and what it takes. -/
import Derived.Test.YthhpbkfngcflcaaGreatDoorRunN
import Derived.Test.YthhpbkfngcflcaaGreatDoorMkRows
namespace Go.Proofs.YthhpbkfngcflcaaGreatDoor
open Go.RowKit
set_option maxRecDepth 100000
def RowI (w : World) (v : Value) (l : List Int) : Prop := ∃ A c, v = .slice A l.length c ∧ l.length ≤ c ∧ l.length ≤ 281474976710656 ∧ Rd w.heap.size A l 1 (IntC w)
theorem RowI.below {w w' : World} {v : Value} {l : List Int} (h : RowI w v l) (hb : Below w.heap.size w w') : RowI w' v l := by
 obtain ⟨A, c, rfl, h1, h2, h3⟩ := h
 refine ⟨A, c, rfl, h1, h2, h3.keep hb.size fun b o x hbl hx => ?_⟩
 unfold IntC at *
 rw [hb.cell (p := ⟨b, o, none⟩) hbl]
 exact hx
theorem RowI.own {w : World} {B n : Nat} {v : Value} {l : List Int} (h : w.ownsRow B 3 1 v n (l.map (Value.int .i64))) (hn : l.length = n) (hl : n ≤ 1048576) : RowI w v l := by
 subst hn
 by_cases h0 : l.length = 0
 · obtain rfl := List.eq_nil_of_length_eq_zero h0
   obtain ⟨A, c, rfl⟩ := own_form h
   exact ⟨A, c, rfl, Nat.zero_le _, Nat.zero_le _, fun i x hx => by simp at hx⟩
 · obtain ⟨g, cap, rfl, hgl, hc⟩ := run_pos h ZO
   refine ⟨_, _, rfl, hc, ZO, fun i x hx => ⟨g, 0, rfl, hgl, ?_⟩⟩
   have hi : i < l.length := (List.getElem?_eq_some_iff.1 hx).1
   unfold IntC
   rw [Nat.zero_add, Nat.mul_one, h.cellAt i ZO, List.getElem?_map, hx]
   rfl
theorem RowI.at {w : World} {v : Value} {l : List Int} (h : RowI w v l) {k : Nat} (hk : k < l.length) : ∃ g o c, v = .slice (some ⟨g, o, none⟩) l.length c ∧ g < w.heap.size ∧ w.cell? ⟨g, o + k, none⟩ = some (.int .i64 (ith l k)) := by
 obtain ⟨A, c, rfl, -, -, h3⟩ := h
 obtain ⟨g, o, rfl, hg, hr⟩ := h3 k _ (ith_get hk)
 exact ⟨g, o, c, rfl, hg, by simpa [IntC] using hr⟩
def FewPhis (F : PFunc) : Prop := ∀ i, i < F.blocks.length → (F.blk i).phis.length ≤ 400 ∧ ∀ p ∈ (F.blk i).phis, p.args.length ≤ 400 ∧ p.froms.length ≤ 400
theorem pairs_le : ∀ (fs l : List Int) (b : Int), (pairsAt fs l b).length ≤ fs.length
 | f :: fs, a :: l, b => by
  unfold pairsAt
  have := pairs_le fs l b
  split <;> simp <;> omega
 | [], _, _ => by simp [pairsAt]
 | _ :: _, [], _ => by simp [pairsAt]
theorem pairs_take : ∀ (fs l : List Int) (b : Int) (j : Nat), j < fs.length → fs.length = l.length → pairsAt (fs.take (j + 1)) (l.take (j + 1)) b = pairsAt (fs.take j) (l.take j) b ++ if ith fs j = b then [ith l j] else []
 | f :: fs, a :: l, b, 0, _, _ => by
  simp only [List.take_succ_cons, List.take_zero, pairsAt, ith, List.getD_cons_zero]
  split <;> rfl
 | f :: fs, a :: l, b, j + 1, h, e => by
  have := pairs_take fs l b j (by simpa using h) (by simpa using e)
  simp only [List.take_succ_cons] at this ⊢
  simp only [pairsAt, this, ith, List.getD_cons_succ]
  split <;> simp
 | [], _, _, _, h, _ => by simp at h
 | _ :: _, [], _, _, _, e => by simp at e
theorem takesP_snoc (ps : List PPhi) (p : PPhi) (b : Int) : takesP (ps ++ [p]) b = takesP ps b ++ pairsAt p.froms p.args b := by simp [takesP]
theorem takesP_le : ∀ (ps : List PPhi) (b : Int), (∀ p ∈ ps, p.froms.length ≤ 400) → (takesP ps b).length ≤ 400 * ps.length
 | [], _, _ => by simp [takesP]
 | p :: ps, b, h => by
  have h1 := takesP_le ps b fun q hq => h q (by simp [hq])
  have h2 := pairs_le p.froms p.args b
  have h3 := h p ZS
  have h4 : takesP (p :: ps) b = pairsAt p.froms p.args b ++ takesP ps b := by simp [takesP]
  rw [h4, List.length_append, List.length_cons]
  omega
section
variable {W w : World} {D : Nat → Prop} {nb gi gb ga : Nat} {vr vt : Value} {vrs : List Value} {s : RSt} {F : PFunc} {A0 A1 A2 : Option Addr} {c0 c1 c2 : Nat}
def CopyB (w wx : World) (A4 : Option Addr) (il c4 : Nat) (kd vr0 : Int) : Prop := w.heap.size < wx.heap.size ∧ Below w.heap.size w wx ∧ wx.cell? ⟨w.heap.size, 2, none⟩ = some (.slice A4 il c4) ∧ wx.cell? ⟨w.heap.size, 3, none⟩ = some (.int .i64 kd) ∧ wx.cell? ⟨w.heap.size, 4, none⟩ = some (.int .i64 vr0)
theorem phi_take {c k : Nat} (hk : k < (F.blk c).phis.length) : (((F.blk c).phis.map (·.dst)).take (k + 1)) = ((F.blk c).phis.map (·.dst)).take k ++ [((F.blk c).phi k).dst] := by
 rw [List.take_add_one, List.getElem?_map, PBlock.phi_get hk]
 rfl
def termTk (kd vr0 : Int) : List Int := if kd = 0 then [] else [vr0]
theorem termTk_le (kd vr0 : Int) : (termTk kd vr0).length ≤ 1 := by
 unfold termTk
 split <;> simp
def takesK (F : PFunc) (c b : Nat) (pre : List Int) (k : Nat) : List Int := pre ++ takesP ((F.blk c).phis.take k) b
theorem takesK_zero {F : PFunc} {c b : Nat} {pre : List Int} : takesK F c b pre 0 = pre := by simp [takesK, takesP]
theorem takesK_end {F : PFunc} {c b : Nat} {pre : List Int} : takesK F c b pre (F.blk c).phis.length = pre ++ takesP (F.blk c).phis b := by rw [takesK, List.take_length]
theorem takesK_succ {F : PFunc} {c b k : Nat} {pre : List Int} (hk : k < (F.blk c).phis.length) : takesK F c b pre (k + 1) = takesK F c b pre k ++ pairsAt ((F.blk c).phi k).froms ((F.blk c).phi k).args b := by
 rw [takesK, List.take_add_one, PBlock.phi_get hk, Option.toList_some, takesP_snoc, ← List.append_assoc]
 rfl
theorem takesK_le {F : PFunc} {c b k : Nat} {pre : List Int} (h : ∀ p ∈ (F.blk c).phis, p.froms.length ≤ 400) : (takesK F c b pre k).length ≤ pre.length + 400 * (F.blk c).phis.length := by
 have h1 := takesP_le ((F.blk c).phis.take k) b fun p hp => h p (List.mem_of_mem_take hp)
 have h2 : ((F.blk c).phis.take k).length ≤ (F.blk c).phis.length := by rw [List.length_take]; omega
 have h3 : 400 * ((F.blk c).phis.take k).length ≤ 400 * (F.blk c).phis.length := Nat.mul_le_mul_left _ h2
 rw [takesK, List.length_append]
 omega
set_option maxHeartbeats 16000000 in
theorem runMakes_calls (hF : FnV W W.heap.size (.agg #[.slice A0 F.vars.length c0, .slice A1 F.params.length c1, .slice A2 F.blocks.length c2]) F) (hT : typedP F = true) (hP : FewPhis F) (hW : Below W.heap.size W w) (hI : RInv F s)
 (h : RunO w D (.slice A0 F.vars.length c0) (.slice A1 F.params.length c1) (.slice A2 F.blocks.length c2) nb gi gb ga F.vars.length vr vt vrs s) :
 Calls Tryz.prog 29 #[.pointer (some ⟨nb, 0, none⟩)] w fun e w' => ∃ v, e = .returned v ∧ w'.ownsRow w.heap.size 3 1 v (makesR F s).length ((makesR F s).map (Value.int .i64)) ∧ Below w.heap.size w w' := by
 obtain ⟨A0', c0', A1', c1', A2', c2', hfe, l0, l1, l2, -, -, -, r0, r1, r2⟩ := id hF.open_
 simp only [Value.agg.injEq, Array.mk.injEq, List.cons.injEq, Value.slice.injEq, true_and, and_true] at hfe
 obtain ⟨⟨rfl, rfl⟩, ⟨rfl, rfl⟩, rfl, rfl⟩ := hfe
 unfold Len at *
 have hSh := typed_shaped' hT
 obtain ⟨bb, off, A3, c3, A4, c4, rfl, hbb, -, hy0, hy1, hy2, hy3, hy4, hy5, hy6, lp, li, kp, ki, rp, ri⟩ := r2.blk hW hI.blk
 have hbn : (s.block : Int) < (F.blocks.length : Int) := by have := hI.blk; omega
 have HNX := Lib.hid (fun (w' : World) (hb : Below w.heap.size w w') => next_calls hF (hW.trans (hb.mono hW.size)) (h.below hb) hI.blk (fun e0 => by
  obtain ⟨h1, h2⟩ := typed_term hT hI.blk e0
  obtain ⟨k, hk⟩ := Int.eq_ofNat_of_zero_le h1
  exact ⟨k, hk, ZO⟩))
 have HRO := Lib.hid (fun (w' : World) (hb : Below w.heap.size w w') => h.below hb)
 have HFP := Lib.hid hP
 have xl := h.box.lt
 have k2 := h.box.cell 2
 have k7 := h.box.cell 7
 have k8 := h.box.cell 8
 replace k2 : w.cell? ⟨nb, 2, none⟩ = some (.slice (some ⟨bb, off, none⟩) F.blocks.length c2) := k2
 replace k7 : w.cell? ⟨nb, 7, none⟩ = some (.int .i64 (s.block : Int)) := k7
 replace k8 : w.cell? ⟨nb, 8, none⟩ = some (.int .i64 (s.pc : Int)) := k8
 have R2 := Lib.hid r2
 have HRI := Lib.hid ri
 have HWW := Lib.hid hW
 have HTY := Lib.hid hT
 have HI := Lib.hid hI
 clear h hF r0 r1 r2 ri rp hT hP hW hI hSh
 obtain ⟨il, hil⟩ : ∃ n, n = (F.blk s.block).insts.length := ⟨_, rfl⟩
 obtain ⟨pl, hpl⟩ : ∃ n, n = (F.blk s.block).phis.length := ⟨_, rfl⟩
 obtain ⟨kd, hkd⟩ : ∃ n, n = (F.blk s.block).term.kind := ⟨_, rfl⟩
 obtain ⟨vr0, hvr⟩ : ∃ n, n = (F.blk s.block).term.var := ⟨_, rfl⟩
 obtain ⟨t0, ht0⟩ : ∃ n, n = (F.blk s.block).term.t0 := ⟨_, rfl⟩
 obtain ⟨t1, ht1⟩ : ∃ n, n = (F.blk s.block).term.t1 := ⟨_, rfl⟩
 obtain ⟨nm, hnm⟩ : ∃ n, n = (F.blk s.block).name := ⟨_, rfl⟩
 rw [← hnm] at hy0
 rw [← hpl] at hy1
 rw [← hil] at hy2 li ki
 rw [← hkd] at hy3
 rw [← hvr] at hy4
 rw [← ht0] at hy5
 rw [← ht1] at hy6
 have HIL := Lib.hid hil
 have HKD := Lib.hid hkd
 have HVR := Lib.hid hvr
 clear hil hpl hkd hvr ht0 ht1 hnm lp kp
 go_enter Tryz.func29, Tryz.ntmps29
 go_upto_region 1 with fail
 go_cut [3] (fun s3 wx => s3 = .pointer (some ⟨w.heap.size, 0, none⟩) ∧ CopyB w wx A4 il c4 kd vr0)
 case first => as_aux_lemma =>
  obtain ⟨S0, hS0⟩ : ∃ S0 : World → Prop, S0 = fun w' => w'.cell? ⟨nb, 2, none⟩ = some (.slice (some ⟨bb, off, none⟩) F.blocks.length c2) ∧ w'.cell? ⟨nb, 7, none⟩ = some (.int .i64 (s.block : Int)) ∧ w'.cell? ⟨bb, off + s.block * 7, none⟩ = some (.string nm) ∧ w'.cell? ⟨bb, off + s.block * 7 + 1, none⟩ = some (.slice A3 pl c3) ∧ w'.cell? ⟨bb, off + s.block * 7 + 2, none⟩ = some (.slice A4 il c4) ∧ w'.cell? ⟨bb, off + s.block * 7 + 3, none⟩ = some (.int .i64 kd) ∧ w'.cell? ⟨bb, off + s.block * 7 + 4, none⟩ = some (.int .i64 vr0) ∧ w'.cell? ⟨bb, off + s.block * 7 + 5, none⟩ = some (.int .i64 t0) ∧ w'.cell? ⟨bb, off + s.block * 7 + 6, none⟩ = some (.int .i64 t1) ∧ Below w.heap.size w w' ∧ nb < w'.heap.size ∧ bb < w'.heap.size := ⟨_, rfl⟩
  have HS0 := Lib.hid hS0
  clear hS0
  have k0 := fun xw => (WS.at HS0 xw).1
  have k1 := fun xw => (WS.at HS0 xw).2.1
  have k2 := fun xw => (WS.at HS0 xw).2.2.1
  have k3 := fun xw => (WS.at HS0 xw).2.2.2.1
  have k4 := fun xw => (WS.at HS0 xw).2.2.2.2.1
  have k5 := fun xw => (WS.at HS0 xw).2.2.2.2.2.1
  have k6 := fun xw => (WS.at HS0 xw).2.2.2.2.2.2.1
  have k7 := fun xw => (WS.at HS0 xw).2.2.2.2.2.2.2.1
  have k8 := fun xw => (WS.at HS0 xw).2.2.2.2.2.2.2.2.1
  have k9 := fun xw => (WS.at HS0 xw).2.2.2.2.2.2.2.2.2.1
  have k10 := fun xw => (WS.at HS0 xw).2.2.2.2.2.2.2.2.2.2.1
  have k11 := fun xw => (WS.at HS0 xw).2.2.2.2.2.2.2.2.2.2.2
  refine wp_region_treeE (S := S0) [12] ZK ?hS (fun hSc hcl => ?_)
  case hS =>
   rw [HS0.out]
   exact ⟨ZI, ZI, ZI, ZI, ZI, ZI, ZI, ZI, ZI, BL, ZJ, ZJ⟩
  have hne0 : Nonempty (WS S0) := ⟨⟨_, hSc⟩⟩
  have hneT : Nonempty (WS (fun _ => True)) := match hne0 with | ⟨x⟩ => ⟨⟨x.w, trivial⟩⟩
  refine wpTreeE_run [(0, 0), (1, 0), (2, 0), (3, 0), (4, 0), (5, 0), (6, 0), (7, 0), (8, 0), (9, 0), (10, 0), (11, 1)] 1 rfl ZK (fun _ _ _ _ _ h => h) hSc hcl ?_
  all_goals
   (try simp only [List.map_cons, List.map_nil, List.getD_cons_succ, List.getD_cons_zero])
   repeat
    first
    | ((with_reducible refine wpSch3_lk ?_ ?_); exact rfl; dsimp only; go_big_quiet_step (fail); (try with_reducible refine wpQuiet_nil ?_); (try dsimp only))
    | ((with_reducible refine wpSch3_fr ?_ ?_); exact rfl; dsimp only; go_big_quiet_step (fail); (try with_reducible refine wpQuiet_nil ?_); (try dsimp only))
    | ((with_reducible refine wpSch3_at ?_ ?_ (fun K hK => ?_))
       exact rfl
       exact rfl
       dsimp only
       go_simp
       (try go_wp2_with (fail))
       refine hK.out _ _ ?hS (fun hSc => ?_)
       case hS =>
        first
        | exact hSc
        | (rw [HS0.out] at hSc ⊢; obtain ⟨p0, p1, p2, p3, p4, p5, p6, p7, p8, p9, p10, p11⟩ := hSc; exact ⟨ZC, ZC, ZC, ZC, ZC, ZC, ZC, ZC, ZC, BL, ZT, ZT⟩)
       clear hK K)
   (try (refine wpSch3_nil ?_; intro hSc hcl))
  all_goals
   refine wpTreeE_end [12] rfl ZK ?_
   simp only [List.map_cons, List.map_nil, List.getD_cons_succ, List.getD_cons_zero]
   rw [HS0.out] at hSc
   obtain ⟨p0, p1, p2, p3, p4, p5, p6, p7, p8, p9, p10, p11⟩ := hSc
   clear hne0 hneT hcl HS0 k0 k1 k2 k3 k4 k5 k6 k7 k8 k9 k10 k11
   go_wp2_with fail
   go_meet
   exact ⟨rfl, ZS, BL, by go_simp, by go_simp, by go_simp⟩
 case rest => as_aux_lemma =>
  obtain ⟨rfl, hlx, hbx, b2, b3, b4⟩ := hcut
  have k8x := (hbx.cell (p := ⟨nb, 8, none⟩) xl).trans k8
  have xlx := Nat.lt_of_lt_of_le xl hbx.size
  have HBX := Lib.hid hbx
  by_cases h1 : s.pc < il
  · as_aux_lemma =>
    have h2 : (s.pc : Int) < (il : Int) := by omega
    have hpl : s.pc < (F.blk s.block).insts.length := by rw [← HIL.out]; exact h1
    obtain ⟨ib, io, A5, c5, rfl, ibl, q0, q1, q2, q3, l5, k5, r5⟩ := HRI.out.inst (HWW.out.trans (hbx.mono HWW.out.size)) hpl
    have HM := Lib.hid (show makesR F s = if 0 ≤ ((F.blk s.block).inst s.pc).dst then [((F.blk s.block).inst s.pc).dst] else [] from if_pos hpl)
    clear hpl r5 q2 q3 hbx h1 k7
    generalize ((F.blk s.block).inst s.pc) = x at *
    go_wp2
    go_quiet (fail)
    obtain ⟨w1, hw1⟩ : ∃ w1 : World, w1 = wc.drewN nq := ⟨_, rfl⟩
    rw [← hw1]
    have h01 : Below wc.heap.size wc w1 := by rw [hw1]; exact bdrewN (Below.refl _ _) _
    have d2 := (h01.cell (p := ⟨w.heap.size, 2, none⟩) hlx).trans b2
    have d8 := (h01.cell (p := ⟨nb, 8, none⟩) xlx).trans k8x
    have dq := (h01.cell (p := ⟨ib, io + s.pc * 4 + 1, none⟩) ibl).trans q1
    have s0 := Nat.lt_of_lt_of_le hlx h01.size
    have s1 := Nat.lt_of_lt_of_le xlx h01.size
    have s2 := Nat.lt_of_lt_of_le ibl h01.size
    have HB1 := Lib.hid (HBX.out.trans (h01.mono HBX.out.size))
    clear h01 hw1 b2 b3 b4 k8x q0 q1 hlx xlx ibl
    by_cases h3 : 0 ≤ x.dst
    · as_aux_lemma =>
      have HM2 := Lib.hid (HM.out.trans (if_pos h3))
      go_wp2
      go_quiet (fail)
      obtain ⟨w2, hw2⟩ : ∃ w2 : World, w2 = w1.drewN nq := ⟨_, rfl⟩
      rw [← hw2]
      have hb2 : Below w.heap.size w w2 := by rw [hw2]; exact bdrewN HB1.out _
      clear hw2
      have hsz := hb2.size
      go_wp2_with (at_builtin; refine wpList_append1F _ rfl _ _ 23 rfl w.heap.size 3 8 Tryz.underlying23 Tryz.info3 rfl _ _ _ rfl (World.ownsRow_nil _ _ _ _) _ rfl (.int .i64 x.dst) (by rfl) rfl ZO ZD hsz ?_; intro v' w8 hown8 hg8 hfr8; obtain ⟨A8, c8, hv8⟩ := own_form hown8; subst hv8)
      go_ret
      rw [HM2.out]
      exact ⟨_, rfl, hown8, grown_below (World.ownsRow_nil _ _ 3 1) hg8 hb2 (Nat.le_refl _) hsz⟩
    · as_aux_lemma =>
      have HM2 := Lib.hid (HM.out.trans (if_neg h3))
      have h4 : decide (0 ≤ x.dst) = false := decide_eq_false h3
      go_wp2
      go_quiet (fail)
      obtain ⟨w2, hw2⟩ : ∃ w2 : World, w2 = w1.drewN nq := ⟨_, rfl⟩
      rw [← hw2]
      have hb2 : Below w.heap.size w w2 := by rw [hw2]; exact bdrewN HB1.out _
      clear hw2
      go_wp2
      go_ret
      rw [HM2.out]
      exact ⟨_, rfl, World.ownsRow_nil _ _ _ _, hb2⟩
  · as_aux_lemma =>
    have h2 : decide ((s.pc : Int) < (il : Int)) = false := decide_eq_false ZO
    have h3 : decide (s.pc < il) = false := decide_eq_false h1
    have hpl : ¬ s.pc < (F.blk s.block).insts.length := by rw [← HIL.out]; exact h1
    have HM := Lib.hid (show makesR F s = if nextR F s < 0 then [] else (F.blk (nextR F s).toNat).phis.map (·.dst) from if_neg hpl)
    have HSP := Lib.hid (step_pos HTY.out HI.out)
    clear hpl h1 hbx k7
    go_wp2
    go_quiet (fail)
    obtain ⟨w1, hw1⟩ : ∃ w1 : World, w1 = wc.drewN nq := ⟨_, rfl⟩
    rw [← hw1]
    have hb1 : Below w.heap.size w w1 := by rw [hw1]; exact bdrewN HBX.out _
    clear hw1 b2 b3 b4 k8x hlx xlx
    go_wp2_with fail
    refine (HNX.out w1 hb1).mono ?_
    rintro e w2 ⟨rfl, hb2⟩
    have hB2 := hb1.trans (hb2.mono hb1.size)
    rcases HSP.out with ⟨-, hn, -⟩ | ⟨c, hc, hn, -⟩
    · as_aux_lemma =>
      have HM2 := Lib.hid (HM.out.trans (by rw [hn]; rfl : _ = ([] : List Int)))
      rw [hn]
      clear hn
      go_wp2
      go_ret
      rw [HM2.out]
      exact ⟨_, rfl, World.ownsRow_nil _ _ _ _, hB2⟩
    · as_aux_lemma =>
      have HM2 := Lib.hid (show makesR F s = (F.blk c).phis.map (·.dst) by rw [HM.out, hn, if_neg ZO, Int.toNat_natCast])
      rw [hn]
      have hcl := EN_lt HTY.out HI.out.blk c hc
      obtain ⟨bb2, off2, A5, c5, A6, c6, he2, hbb2, -, u0, u1, u2, u3, u4, u5, u6, lp5, -, kp5, -, rp5, -⟩ := R2.out.blk (HWW.out.trans (hB2.mono HWW.out.size)) hcl
      cases he2
      have hpn := (HFP.out c hcl).1
      have k2x := (hB2.cell (p := ⟨nb, 2, none⟩) xl).trans k2
      have xl2 := Nat.lt_of_lt_of_le xl hB2.size
      have hci : (c : Int) < (F.blocks.length : Int) := by omega
      have HB2 := Lib.hid hB2
      have HRP := Lib.hid rp5
      clear hn hB2 hb2 hb1 u0 u2 u3 u4 u5 u6 k8 k2 hbb rp5
      go_wp2
      go_loopw [57, 4] (fun x v4 wr => ∃ k : Nat, x = .int .i64 k ∧ k ≤ (F.blk c).phis.length ∧ wr.ownsRow w2.heap.size 3 1 v4 k ((((F.blk c).phis.map (·.dst)).take k).map (Value.int .i64)) ∧ Below w2.heap.size w2 wr) (fun x _ _ => (F.blk c).phis.length - (intOf x).toNat)
      case atStart => exact ⟨0, rfl, Nat.zero_le _, World.ownsRow_nil _ _ _ _, Below.refl _ _⟩
      case round => as_aux_lemma =>
       obtain ⟨k, rfl, hk, ho, hb⟩ := hrel
       obtain ⟨Aw, cw, rfl⟩ := own_form ho
       have hsz := hb.size
       by_cases hkl : k < (F.blk c).phis.length
       · obtain ⟨b5, off5, A7, c7, A8, c8, rfl, hbb5, z0, z1, z2, -, -, -, -, -, -⟩ := HRP.out.phi (HWW.out.trans ((HB2.out.trans (hb.mono HB2.out.size)).mono HWW.out.size)) hkl
         have HT := Lib.hid (phi_take hkl)
         have hki : (k : Int) < ((F.blk c).phis.length : Int) := by omega
         have hoa := ho.alloc (.cells #[.int .i64 ((F.blk c).phi k).dst, .slice A7 ((F.blk c).phi k).args.length c7, .slice A8 ((F.blk c).phi k).froms.length c8] 128)
         have hba := hb.alloc hsz (.cells #[.int .i64 ((F.blk c).phi k).dst, .slice A7 ((F.blk c).phi k).args.length c7, .slice A8 ((F.blk c).phi k).froms.length c8] 128)
         have hsa := hba.size
         have HB := Lib.hid hba
         clear ho hb hba
         go_wp2_with (at_builtin; refine wpList_append1F _ rfl _ _ 23 rfl w2.heap.size 3 8 Tryz.underlying23 Tryz.info3 rfl _ _ _ rfl hoa (wr.heap.size + 1) ZS (.int .i64 ((F.blk c).phi k).dst) (by rfl) rfl ZO ZD hsa ?_; intro v' w8 hown8 hg8 hfr8; obtain ⟨A9, c9, hv8⟩ := own_form hown8; subst hv8)
         go_roundw
         case rel =>
          refine ⟨k + 1, ZN, ZO, ?_, grown_below hoa hg8 HB.out (Nat.le_refl _) hsa⟩
          rw [HT.out, List.map_append]
          exact hown8
         case measure => simp [intOf]; omega
       · obtain rfl : k = (F.blk c).phis.length := by omega
         rw [List.take_of_length_le ZS] at ho
         have HO := Lib.hid ho
         have HB := Lib.hid (HB2.out.trans (hb.mono HB2.out.size))
         clear ho hb
         go_wp2
         go_ret
         rw [HM2.out]
         exact ⟨_, rfl, by rw [List.length_map]; exact own_rebase HO.out HB2.out.size, HB.out⟩
set_option maxHeartbeats 16000000 in
theorem runTakes_calls (hF : FnV W W.heap.size (.agg #[.slice A0 F.vars.length c0, .slice A1 F.params.length c1, .slice A2 F.blocks.length c2]) F) (hT : typedP F = true) (hP : FewPhis F) (hW : Below W.heap.size W w) (hI : RInv F s)
 (h : RunO w D (.slice A0 F.vars.length c0) (.slice A1 F.params.length c1) (.slice A2 F.blocks.length c2) nb gi gb ga F.vars.length vr vt vrs s) :
 Calls Tryz.prog 28 #[.pointer (some ⟨nb, 0, none⟩)] w fun e w' => ∃ v, e = .returned v ∧ RowI w' v (takesR F s) ∧ Below w.heap.size w w' := by
 obtain ⟨A0', c0', A1', c1', A2', c2', hfe, l0, l1, l2, -, -, -, r0, r1, r2⟩ := id hF.open_
 simp only [Value.agg.injEq, Array.mk.injEq, List.cons.injEq, Value.slice.injEq, true_and, and_true] at hfe
 obtain ⟨⟨rfl, rfl⟩, ⟨rfl, rfl⟩, rfl, rfl⟩ := hfe
 unfold Len at *
 have hSh := typed_shaped' hT
 obtain ⟨bb, off, A3, c3, A4, c4, rfl, hbb, -, hy0, hy1, hy2, hy3, hy4, hy5, hy6, lp, li, kp, ki, rp, ri⟩ := r2.blk hW hI.blk
 have hbn : (s.block : Int) < (F.blocks.length : Int) := by have := hI.blk; omega
 have HNX := Lib.hid (fun (w' : World) (hb : Below w.heap.size w w') => next_calls hF (hW.trans (hb.mono hW.size)) (h.below hb) hI.blk (fun e0 => by
  obtain ⟨h1, h2⟩ := typed_term hT hI.blk e0
  obtain ⟨k, hk⟩ := Int.eq_ofNat_of_zero_le h1
  exact ⟨k, hk, ZO⟩))
 have HRO := Lib.hid (fun (w' : World) (hb : Below w.heap.size w w') => h.below hb)
 have HFP := Lib.hid hP
 have xl := h.box.lt
 have k2 := h.box.cell 2
 have k7 := h.box.cell 7
 have k8 := h.box.cell 8
 replace k2 : w.cell? ⟨nb, 2, none⟩ = some (.slice (some ⟨bb, off, none⟩) F.blocks.length c2) := k2
 replace k7 : w.cell? ⟨nb, 7, none⟩ = some (.int .i64 (s.block : Int)) := k7
 replace k8 : w.cell? ⟨nb, 8, none⟩ = some (.int .i64 (s.pc : Int)) := k8
 have R2 := Lib.hid r2
 have HRI := Lib.hid ri
 have HWW := Lib.hid hW
 have HTY := Lib.hid hT
 have HI := Lib.hid hI
 clear h hF r0 r1 r2 ri rp hT hP hW hI hSh
 obtain ⟨il, hil⟩ : ∃ n, n = (F.blk s.block).insts.length := ⟨_, rfl⟩
 obtain ⟨pl, hpl⟩ : ∃ n, n = (F.blk s.block).phis.length := ⟨_, rfl⟩
 obtain ⟨kd, hkd⟩ : ∃ n, n = (F.blk s.block).term.kind := ⟨_, rfl⟩
 obtain ⟨vr0, hvr⟩ : ∃ n, n = (F.blk s.block).term.var := ⟨_, rfl⟩
 obtain ⟨t0, ht0⟩ : ∃ n, n = (F.blk s.block).term.t0 := ⟨_, rfl⟩
 obtain ⟨t1, ht1⟩ : ∃ n, n = (F.blk s.block).term.t1 := ⟨_, rfl⟩
 obtain ⟨nm, hnm⟩ : ∃ n, n = (F.blk s.block).name := ⟨_, rfl⟩
 rw [← hnm] at hy0
 rw [← hpl] at hy1
 rw [← hil] at hy2 li ki
 rw [← hkd] at hy3
 rw [← hvr] at hy4
 rw [← ht0] at hy5
 rw [← ht1] at hy6
 have HIL := Lib.hid hil
 have HKD := Lib.hid hkd
 have HVR := Lib.hid hvr
 clear hil hpl hkd hvr ht0 ht1 hnm lp kp
 go_enter Tryz.func28, Tryz.ntmps28
 go_upto_region 1 with fail
 go_cut [3] (fun s3 wx => s3 = .pointer (some ⟨w.heap.size, 0, none⟩) ∧ CopyB w wx A4 il c4 kd vr0)
 case first => as_aux_lemma =>
  obtain ⟨S0, hS0⟩ : ∃ S0 : World → Prop, S0 = fun w' => w'.cell? ⟨nb, 2, none⟩ = some (.slice (some ⟨bb, off, none⟩) F.blocks.length c2) ∧ w'.cell? ⟨nb, 7, none⟩ = some (.int .i64 (s.block : Int)) ∧ w'.cell? ⟨bb, off + s.block * 7, none⟩ = some (.string nm) ∧ w'.cell? ⟨bb, off + s.block * 7 + 1, none⟩ = some (.slice A3 pl c3) ∧ w'.cell? ⟨bb, off + s.block * 7 + 2, none⟩ = some (.slice A4 il c4) ∧ w'.cell? ⟨bb, off + s.block * 7 + 3, none⟩ = some (.int .i64 kd) ∧ w'.cell? ⟨bb, off + s.block * 7 + 4, none⟩ = some (.int .i64 vr0) ∧ w'.cell? ⟨bb, off + s.block * 7 + 5, none⟩ = some (.int .i64 t0) ∧ w'.cell? ⟨bb, off + s.block * 7 + 6, none⟩ = some (.int .i64 t1) ∧ Below w.heap.size w w' ∧ nb < w'.heap.size ∧ bb < w'.heap.size := ⟨_, rfl⟩
  have HS0 := Lib.hid hS0
  clear hS0
  have k0 := fun xw => (WS.at HS0 xw).1
  have k1 := fun xw => (WS.at HS0 xw).2.1
  have k2 := fun xw => (WS.at HS0 xw).2.2.1
  have k3 := fun xw => (WS.at HS0 xw).2.2.2.1
  have k4 := fun xw => (WS.at HS0 xw).2.2.2.2.1
  have k5 := fun xw => (WS.at HS0 xw).2.2.2.2.2.1
  have k6 := fun xw => (WS.at HS0 xw).2.2.2.2.2.2.1
  have k7 := fun xw => (WS.at HS0 xw).2.2.2.2.2.2.2.1
  have k8 := fun xw => (WS.at HS0 xw).2.2.2.2.2.2.2.2.1
  have k9 := fun xw => (WS.at HS0 xw).2.2.2.2.2.2.2.2.2.1
  have k10 := fun xw => (WS.at HS0 xw).2.2.2.2.2.2.2.2.2.2.1
  have k11 := fun xw => (WS.at HS0 xw).2.2.2.2.2.2.2.2.2.2.2
  refine wp_region_treeE (S := S0) [12] ZK ?hS (fun hSc hcl => ?_)
  case hS =>
   rw [HS0.out]
   exact ⟨ZI, ZI, ZI, ZI, ZI, ZI, ZI, ZI, ZI, BL, ZJ, ZJ⟩
  have hne0 : Nonempty (WS S0) := ⟨⟨_, hSc⟩⟩
  have hneT : Nonempty (WS (fun _ => True)) := match hne0 with | ⟨x⟩ => ⟨⟨x.w, trivial⟩⟩
  refine wpTreeE_run [(0, 0), (1, 0), (2, 0), (3, 0), (4, 0), (5, 0), (6, 0), (7, 0), (8, 0), (9, 0), (10, 0), (11, 1)] 1 rfl ZK (fun _ _ _ _ _ h => h) hSc hcl ?_
  all_goals
   (try simp only [List.map_cons, List.map_nil, List.getD_cons_succ, List.getD_cons_zero])
   repeat
    first
    | ((with_reducible refine wpSch3_lk ?_ ?_); exact rfl; dsimp only; go_big_quiet_step (fail); (try with_reducible refine wpQuiet_nil ?_); (try dsimp only))
    | ((with_reducible refine wpSch3_fr ?_ ?_); exact rfl; dsimp only; go_big_quiet_step (fail); (try with_reducible refine wpQuiet_nil ?_); (try dsimp only))
    | ((with_reducible refine wpSch3_at ?_ ?_ (fun K hK => ?_))
       exact rfl
       exact rfl
       dsimp only
       go_simp
       (try go_wp2_with (fail))
       refine hK.out _ _ ?hS (fun hSc => ?_)
       case hS =>
        first
        | exact hSc
        | (rw [HS0.out] at hSc ⊢; obtain ⟨p0, p1, p2, p3, p4, p5, p6, p7, p8, p9, p10, p11⟩ := hSc; exact ⟨ZC, ZC, ZC, ZC, ZC, ZC, ZC, ZC, ZC, BL, ZT, ZT⟩)
       clear hK K)
   (try (refine wpSch3_nil ?_; intro hSc hcl))
  all_goals
   refine wpTreeE_end [12] rfl ZK ?_
   simp only [List.map_cons, List.map_nil, List.getD_cons_succ, List.getD_cons_zero]
   rw [HS0.out] at hSc
   obtain ⟨p0, p1, p2, p3, p4, p5, p6, p7, p8, p9, p10, p11⟩ := hSc
   clear hne0 hneT hcl HS0 k0 k1 k2 k3 k4 k5 k6 k7 k8 k9 k10 k11
   go_wp2_with fail
   go_meet
   exact ⟨rfl, ZS, BL, by go_simp, by go_simp, by go_simp⟩
 case rest => as_aux_lemma =>
  obtain ⟨rfl, hlx, hbx, b2, b3, b4⟩ := hcut
  have k8x := (hbx.cell (p := ⟨nb, 8, none⟩) xl).trans k8
  have xlx := Nat.lt_of_lt_of_le xl hbx.size
  have HBX := Lib.hid hbx
  by_cases h1 : s.pc < il
  · as_aux_lemma =>
    have h2 : (s.pc : Int) < (il : Int) := by omega
    have hpl : s.pc < (F.blk s.block).insts.length := by rw [← HIL.out]; exact h1
    obtain ⟨ib, io, A5, c5, rfl, ibl, q0, q1, q2, q3, l5, k5, r5⟩ := HRI.out.inst (HWW.out.trans (hbx.mono HWW.out.size)) hpl
    have HM := Lib.hid (show takesR F s = ((F.blk s.block).inst s.pc).args from if_pos hpl)
    have HR5 := Lib.hid r5
    have HL5 := Lib.hid l5
    have HK5 := Lib.hid k5
    clear hpl r5 q0 q1 q3 hbx h1 k7 l5 k5
    generalize ((F.blk s.block).inst s.pc) = x at *
    go_wp2
    go_quiet (fail)
    obtain ⟨w1, hw1⟩ : ∃ w1 : World, w1 = wc.drewN nq := ⟨_, rfl⟩
    rw [← hw1]
    have h01 : Below wc.heap.size wc w1 := by rw [hw1]; exact bdrewN (Below.refl _ _) _
    have d2 := (h01.cell (p := ⟨w.heap.size, 2, none⟩) hlx).trans b2
    have d8 := (h01.cell (p := ⟨nb, 8, none⟩) xlx).trans k8x
    have dq := (h01.cell (p := ⟨ib, io + s.pc * 4 + 2, none⟩) ibl).trans q2
    have s0 := Nat.lt_of_lt_of_le hlx h01.size
    have s1 := Nat.lt_of_lt_of_le xlx h01.size
    have s2 := Nat.lt_of_lt_of_le ibl h01.size
    have HB1 := Lib.hid (HBX.out.trans (h01.mono HBX.out.size))
    clear h01 hw1 b2 b3 b4 k8x q2 hlx xlx ibl
    go_wp2
    go_quiet (fail)
    obtain ⟨w2, hw2⟩ : ∃ w2 : World, w2 = w1.drewN nq := ⟨_, rfl⟩
    rw [← hw2]
    have hb2 : Below w.heap.size w w2 := by rw [hw2]; exact bdrewN HB1.out _
    clear hw2
    go_wp2
    go_ret
    rw [HM.out]
    refine ⟨_, rfl, ⟨A5, c5, rfl, HK5.out, HL5.out, HR5.out.keep (HWW.out.trans (hb2.mono HWW.out.size)).size fun b o y hy hc => ?_⟩, hb2⟩
    unfold IntC at *
    rw [(HWW.out.trans (hb2.mono HWW.out.size)).cell (p := ⟨b, o, none⟩) hy]
    exact hc
  · as_aux_lemma =>
    have h2 : decide ((s.pc : Int) < (il : Int)) = false := decide_eq_false ZO
    have h3 : decide (s.pc < il) = false := decide_eq_false h1
    have hpl : ¬ s.pc < (F.blk s.block).insts.length := by rw [← HIL.out]; exact h1
    have HM := Lib.hid (show takesR F s = (if kd = 0 then [] else [vr0]) ++ (if nextR F s < 0 then [] else takesP (F.blk (nextR F s).toNat).phis s.block) by rw [HKD.out, HVR.out]; exact if_neg hpl)
    have HSP := Lib.hid (step_pos HTY.out HI.out)
    clear hpl h1 hbx
    go_wp2
    go_quiet (fail)
    obtain ⟨w1, hw1⟩ : ∃ w1 : World, w1 = wc.drewN nq := ⟨_, rfl⟩
    rw [← hw1]
    have h01 : Below wc.heap.size wc w1 := by rw [hw1]; exact bdrewN (Below.refl _ _) _
    have d3 := (h01.cell (p := ⟨w.heap.size, 3, none⟩) hlx).trans b3
    have d4 := (h01.cell (p := ⟨w.heap.size, 4, none⟩) hlx).trans b4
    have s0 := Nat.lt_of_lt_of_le hlx h01.size
    have hb1 : Below w.heap.size w w1 := HBX.out.trans (h01.mono HBX.out.size)
    have hsz1 := hb1.size
    clear h01 hw1 b2 b3 b4 k8x hlx xlx
    go_upto_if 40 with fail
    go_cut [4] (fun s4 wx => wx.ownsRow w.heap.size 3 1 s4 (termTk kd vr0).length ((termTk kd vr0).map (Value.int .i64)) ∧ Below w.heap.size w wx)
    case first => as_aux_lemma =>
     by_cases e0 : kd = 0
     · have f0 : (kd != 0) = false := by simp [e0]
       have HT0 := Lib.hid (show termTk kd vr0 = [] from if_pos e0)
       clear e0
       go_wp2
       go_meet
       rw [HT0.out]
       exact ⟨World.ownsRow_nil _ _ _ _, hb1⟩
     · have f0 : (kd != 0) = true := by rw [bne_iff_ne]; exact e0
       have HT0 := Lib.hid (show termTk kd vr0 = [vr0] from if_neg e0)
       clear e0
       go_wp2_with (at_builtin; refine wpList_append1F _ rfl _ _ 23 rfl w.heap.size 3 8 Tryz.underlying23 Tryz.info3 rfl _ _ _ rfl (World.ownsRow_nil _ _ _ _) _ rfl (.int .i64 vr0) (by rfl) rfl ZO ZD hsz1 ?_; intro v' w8 hown8 hg8 hfr8; obtain ⟨A8, c8, hv8⟩ := own_form hown8; subst hv8)
       go_meet
       rw [HT0.out]
       exact ⟨hown8, grown_below (World.ownsRow_nil _ _ 3 1) hg8 hb1 (Nat.le_refl _) hsz1⟩
    case rest => as_aux_lemma =>
     obtain ⟨ho4, hb4⟩ := hcut
     obtain ⟨A9, c9, rfl⟩ := own_form ho4
     go_wp2_with fail
     refine (HNX.out wc hb4).mono ?_
     rintro e w2 ⟨rfl, hb2⟩
     have hB2 := hb4.trans (hb2.mono hb4.size)
     have ho2 := own_below ho4 hb2
     have htl := termTk_le kd vr0
     rcases HSP.out with ⟨-, hn, -⟩ | ⟨c, hc, hn, -⟩
     · as_aux_lemma =>
       have HM2 := Lib.hid (show takesR F s = termTk kd vr0 by rw [HM.out, hn, if_pos (show (-1 : Int) < 0 from ZD), List.append_nil]; rfl)
       have HO2 := Lib.hid ho2
       rw [hn]
       clear hn ho4 ho2
       go_wp2
       go_ret
       rw [HM2.out]
       exact ⟨_, rfl, RowI.own HO2.out rfl ZO, hB2⟩
     · as_aux_lemma =>
       have HM2 := Lib.hid (show takesR F s = termTk kd vr0 ++ takesP (F.blk c).phis s.block by rw [HM.out, hn, if_neg (show ¬ (c : Int) < 0 from ZO), Int.toNat_natCast]; rfl)
       rw [hn]
       have hcl := EN_lt HTY.out HI.out.blk c hc
       obtain ⟨bb2, off2, A5, c5, A6, c6, he2, hbb2, -, u0, u1, u2, u3, u4, u5, u6, lp5, -, kp5, -, rp5, -⟩ := R2.out.blk (HWW.out.trans (hB2.mono HWW.out.size)) hcl
       cases he2
       obtain ⟨hpn, hpf⟩ := HFP.out c hcl
       have k2x := (hB2.cell (p := ⟨nb, 2, none⟩) xl).trans k2
       have xl2 := Nat.lt_of_lt_of_le xl hB2.size
       have hci : (c : Int) < (F.blocks.length : Int) := by omega
       have HB2 := Lib.hid hB2
       have HRP := Lib.hid rp5
       have HO2 := Lib.hid ho2
       have HTP := Lib.hid (fun k (hk : k < (F.blk c).phis.length) => typed_phi HTY.out hcl hk)
       have HPF := Lib.hid hpf
       clear hn hB2 hb2 hb1 u0 u2 u3 u4 u5 u6 k8 k2 hbb rp5 ho2 ho4 hb4 hpf
       go_wp2
       go_loopw [61, 4] (fun x v4 wr => ∃ k : Nat, x = .int .i64 k ∧ k ≤ (F.blk c).phis.length ∧ wr.ownsRow w.heap.size 3 1 v4 (takesK F c s.block (termTk kd vr0) k).length ((takesK F c s.block (termTk kd vr0) k).map (Value.int .i64)) ∧ Below w.heap.size w wr) (fun x _ _ => (F.blk c).phis.length - (intOf x).toNat)
       case atStart => exact ⟨0, rfl, Nat.zero_le _, by rw [takesK_zero]; exact HO2.out, HB2.out⟩
       case round => as_aux_lemma =>
        obtain ⟨k, rfl, hk, ho, hb⟩ := hrel
        obtain ⟨Aw, cw, rfl⟩ := own_form ho
        have hsz := hb.size
        by_cases hkl : k < (F.blk c).phis.length
        · have hWr := HWW.out.trans (hb.mono HWW.out.size)
          obtain ⟨b5, off5, A7, c7, A8, c8, rfl, hbb5, z0, z1, z2, l7, l8, k7a, k8a, r7, r8⟩ := HRP.out.phi hWr hkl
          have hki : (k : Int) < ((F.blk c).phis.length : Int) := by omega
          have htk := takesK_le (F := F) (c := c) (b := s.block) (pre := termTk kd vr0) (k := k) (fun q hq => (HPF.out q hq).2)
          have HTK := Lib.hid (takesK_succ (F := F) (b := s.block) (pre := termTk kd vr0) hkl)
          obtain ⟨hpa, -, -⟩ := HTP.out k hkl
          have hpb := (HPF.out _ (mem_of_Phi hkl)).2
          have HPA := Lib.hid hpa
          have HR7 := Lib.hid r7
          have HR8 := Lib.hid r8
          unfold Len at *
          generalize takesK F c s.block (termTk kd vr0) k = T at *
          generalize (F.blk c).phi k = p at *
          have HS := Lib.hid (show (Value.slice Aw T.length cw).ownBlock = some wr.heap.size → False from fun e => Nat.lt_irrefl _ (own_lt ho e).2)
          have HO := Lib.hid ho
          have HB := Lib.hid hb
          obtain ⟨wq, rfl⟩ : ∃ wq : World, wq = wr := ⟨_, rfl⟩
          clear r7 r8 ho hb hWr hpa
          go_wp2
          clear z0 z1 z2 hbb5
          go_loopw [68, 4] (fun y v4 wr => ∃ j : Nat, y = .int .i64 j ∧ j ≤ p.froms.length ∧ wr.ownsRow w.heap.size 3 1 v4 (T ++ pairsAt (p.froms.take j) (p.args.take j) s.block).length ((T ++ pairsAt (p.froms.take j) (p.args.take j) s.block).map (Value.int .i64)) ∧ (v4.ownBlock = some wq.heap.size → False) ∧ BoxAt wr wq.heap.size #[.int .i64 p.dst, .slice A7 p.args.length c7, .slice A8 p.froms.length c8] 128 ∧ Below w.heap.size w wr) (fun x _ _ => p.froms.length - (intOf x).toNat)
          case atStart => exact ⟨0, rfl, Nat.zero_le _, by simpa [pairsAt] using HO.out.alloc _, HS.out, BoxAt.new _ _ _, HB.out.alloc hsz _⟩
          case round => as_aux_lemma =>
           clear HO HB HS hsz
           obtain ⟨j, rfl, hj, ho, hne, hbx, hb⟩ := hrel
           obtain ⟨Aw, cw, rfl⟩ := own_form ho
           have hsz := hb.size
           have hpl := pairs_le (p.froms.take j) (p.args.take j) s.block
           have htl2 : (p.froms.take j).length ≤ 400 := by rw [List.length_take]; omega
           have q1 := hbx.cell 1
           have q2 := hbx.cell 2
           have ql := hbx.lt
           replace q1 : wr.cell? ⟨wq.heap.size, 1, none⟩ = some (.slice A7 p.args.length c7) := q1
           replace q2 : wr.cell? ⟨wq.heap.size, 2, none⟩ = some (.slice A8 p.froms.length c8) := q2
           by_cases hjl : j < p.froms.length
           · have hWr := HWW.out.trans (hb.mono HWW.out.size)
             obtain ⟨b8, o8, rfl, hb8, y8⟩ := HR8.out.int hWr hjl
             have hja2 : j < p.args.length := by rw [HPA.out]; exact hjl
             obtain ⟨b7, o7, rfl, hb7, y7⟩ := HR7.out.int hWr hja2
             have hji : (j : Int) < (p.froms.length : Int) := by omega
             have hja : (j : Int) < (p.args.length : Int) := by omega
             have k7x := (hb.cell (p := ⟨nb, 7, none⟩) xl).trans k7
             have xlx := Nat.lt_of_lt_of_le xl hsz
             have HPT := Lib.hid (pairs_take p.froms p.args s.block j hjl HPA.out.symm)
             have HNE := Lib.hid hne
             generalize pairsAt (p.froms.take j) (p.args.take j) s.block = Q at *
             have HO := Lib.hid ho
             have HBX := Lib.hid hbx
             have HB := Lib.hid hb
             have hql : T.length + Q.length < 1048576 := by omega
             have HQL := Lib.hid hql
             clear ho hne hbx hb hWr hql
             by_cases e : ith p.froms j = (s.block : Int)
             · have f1 : (ith p.froms j == (s.block : Int)) = true := by simp [e]
               have HP2 := Lib.hid (HPT.out.trans (by rw [if_pos e]))
               clear e
               generalize ith p.froms j = fj at *
               generalize ith p.args j = aj at *
               go_wp2
               go_quiet (fail)
               obtain ⟨wz, hwz⟩ : ∃ wz : World, wz = wr.drewN nq := ⟨_, rfl⟩
               rw [← hwz]
               have hbz : Below wr.heap.size wr wz := by rw [hwz]; exact bdrewN (Below.refl _ _) _
               have q1z := (hbz.cell (p := ⟨wq.heap.size, 1, none⟩) ql).trans q1
               have y7z := (hbz.cell (p := ⟨b7, o7 + j, none⟩) hb7).trans y7
               have qlz := Nat.lt_of_lt_of_le ql hbz.size
               have b7z := Nat.lt_of_lt_of_le hb7 hbz.size
               have hoz := own_below HO.out hbz
               have HBXz := Lib.hid (HBX.out.below hbz ql)
               have HBz := Lib.hid (HB.out.trans (hbz.mono HB.out.size))
               have hszz := HBz.out.size
               have hlen : (T ++ Q).length < 1048576 := by rw [List.length_append]; exact HQL.out
               clear hwz hbz q1 q2 y7 y8 ql hb7 hb8 k7x xlx HO HBX
               go_wp2_with (at_builtin; refine wpList_append1F _ rfl _ _ 23 rfl w.heap.size 3 8 Tryz.underlying23 Tryz.info3 rfl _ _ _ rfl hoz _ rfl (.int .i64 aj) (by rfl) rfl ZO ZD hszz ?_; intro v' w8 hown8 hg8 hfr8; obtain ⟨A8, c8, hv8⟩ := own_form hown8; subst hv8)
               go_roundw
               case rel =>
                refine ⟨j + 1, ZN, ZO, ?_, ?_, (HBXz.out.alloc _).grown hg8 (fun e => HNE.out e), grown_below hoz hg8 HBz.out (Nat.le_refl _) hszz⟩
                · rw [HP2.out, ← List.append_assoc]
                  simpa [Nat.add_assoc] using hown8
                · intro e
                  rcases hfr8 _ (by simpa using e) with e | e
                  · exact HNE.out e
                  · exact ZO
               case measure => simp [intOf]; omega
             · have f1 : (ith p.froms j == (s.block : Int)) = false := by rw [beq_eq_false_iff_ne]; exact e
               have HP2 := Lib.hid (HPT.out.trans (by rw [if_neg e, List.append_nil]))
               clear e
               generalize ith p.froms j = fj at *
               go_wp2
               go_quiet (fail)
               obtain ⟨wz, hwz⟩ : ∃ wz : World, wz = wr.drewN nq := ⟨_, rfl⟩
               rw [← hwz]
               have hbz : Below wr.heap.size wr wz := by rw [hwz]; exact bdrewN (Below.refl _ _) _
               have HOz := Lib.hid (own_below HO.out hbz)
               have HBXz := Lib.hid (HBX.out.below hbz ql)
               have HBz := Lib.hid (HB.out.trans (hbz.mono HB.out.size))
               clear hwz hbz
               go_wp2
               go_roundw
               case rel => exact ⟨j + 1, ZN, ZO, by rw [HP2.out]; exact HOz.out, HNE.out, HBXz.out, HBz.out⟩
               case measure => simp [intOf]; omega
           · obtain rfl : j = p.froms.length := by omega
             have hq : T ++ pairsAt (p.froms.take p.froms.length) (p.args.take p.froms.length) s.block = takesK F c s.block (termTk kd vr0) (k + 1) := by rw [List.take_length, ← HPA.out, List.take_length, ← HTK.out]
             rw [hq] at ho ⊢
             clear hq
             have HO := Lib.hid ho
             have HB := Lib.hid hb
             clear ho hb
             go_wp2
             go_roundw
             case rel => exact ⟨k + 1, ZN, ZO, HO.out, HB.out⟩
             case measure => simp [intOf]; omega
        · obtain rfl : k = (F.blk c).phis.length := by omega
          have htk := takesK_le (F := F) (c := c) (b := s.block) (pre := termTk kd vr0) (k := (F.blk c).phis.length) (fun q hq => (HPF.out q hq).2)
          have HO := Lib.hid ho
          have HB := Lib.hid hb
          clear ho hb
          go_wp2
          go_ret
          rw [HM2.out, ← takesK_end]
          exact ⟨_, rfl, RowI.own HO.out rfl ZO, HB.out⟩
end
end Go.Proofs.YthhpbkfngcflcaaGreatDoor
