/- The walk of the law SingleMade: it returns true, whatever the program, the input and the number of steps. -/
import Derived.Test.YthhpbkfngcflcaaGreatDoorRunV
import Derived.Test.YthhpbkfngcflcaaGreatDoorRunW
import Derived.Test.YthhpbkfngcflcaaGreatDoorRunB
import Derived.Test.YthhpbkfngcflcaaGreatDoorSLaw
import Derived.Test.YthhpbkfngcflcaaGreatDoorSMadeA
import Derived.Test.YthhpbkfngcflcaaGreatDoorRunM
namespace Go.Proofs.YthhpbkfngcflcaaGreatDoor
open Go.RowKit
set_option maxRecDepth 100000
theorem RunO.moreP {w : World} {D E : Nat → Prop} {nb gi gb ga n : Nat} {x0 x1 x2 vr vt : Value} {vrs : List Value} {s : RSt} (h : RunO w D x0 x1 x2 nb gi gb ga n vr vt vrs s) (hE : ∀ k, E k → w.heap.size ≤ k) : RunO w (fun k => D k ∨ E k) x0 x1 x2 nb gi gb ga n vr vt vrs s := by
 have no : ∀ {k : Nat}, ¬ D k → k < w.heap.size → ¬ (D k ∨ E k) := fun h1 h2 e => e.elim h1 (fun e => by have := hE _ e; omega)
 exact ⟨h.box, no h.bs h.box.lt, no h.di (h.ints.lt gi rfl).2, no h.db (h.bools.lt gb rfl).2, no h.da (h.arrs.lt ga rfl).2, fun k hk => no (h.dr k hk) (own_lt h.arr hk).2, fun k hk => no (h.dt k hk) (own_lt h.tr hk).2, fun i v k hv hk => no (h.dv i v k hv hk) (own_lt (h.rows i v hv) hk).2, h.ints, h.bools, h.arrs, h.arr, h.rows, h.apart, h.apartI, h.tr, h.trI, h.trR⟩
theorem RunO.less {w : World} {D E : Nat → Prop} {nb gi gb ga n : Nat} {x0 x1 x2 vr vt : Value} {vrs : List Value} {s : RSt} (h : RunO w E x0 x1 x2 nb gi gb ga n vr vt vrs s) (hE : ∀ k, D k → E k) : RunO w D x0 x1 x2 nb gi gb ga n vr vt vrs s :=
 ⟨h.box, fun e => h.bs (hE _ e), fun e => h.di (hE _ e), fun e => h.db (hE _ e), fun e => h.da (hE _ e), fun k hk e => h.dr k hk (hE _ e), fun k hk e => h.dt k hk (hE _ e), fun i v k hv hk e => h.dv i v k hv hk (hE _ e), h.ints, h.bools, h.arrs, h.arr, h.rows, h.apart, h.apartI, h.tr, h.trI, h.trR⟩
theorem few_phis {F : PFunc} (h : fewB F = true) : FewPhis F := fun i hi => by
 unfold fewB at h
 simp only [Bool.and_eq_true] at h
 exact ⟨(blksFew_each h.2 _ (mem_of_blk hi)).2.1, (blksFew_in h.2 _ (mem_of_blk hi)).1⟩
theorem makesR_le {F : PFunc} {s : RSt} (hT : typedP F = true) (hP : FewPhis F) (hI : RInv F s) : (makesR F s).length ≤ 400 := by
 unfold makesR
 by_cases h1 : s.pc < (F.blk s.block).insts.length
 · rw [if_pos h1]
   split <;> simp
 · rw [if_neg h1]
   rcases step_pos hT hI with ⟨-, h2, -⟩ | ⟨c, hc, h2, -⟩
   · rw [h2, if_pos ZD]
     simp
   · rw [h2, if_neg ZO, Int.toNat_natCast, List.length_map]
     exact (hP c (EN_lt hT hI.blk c hc)).1
def mcs (made : List Nat) : List Value := made.map fun (x : Nat) => Value.int .i64 (x : Int)
theorem mcs_cell {w : World} {B g n c k : Nat} {made : List Nat} (h : w.ownsRow B 3 1 (.slice (some ⟨g, 0, none⟩) n c) n (mcs made)) (hl : made.length = n) (hk : k < n) : w.cell? ⟨g, k, none⟩ = some (.int .i64 ((made.getD k 0 : Nat) : Int)) := by
 rw [h.cellAt k ZO, mcs, List.getElem?_map, List.getD_eq_getElem?_getD]
 rw [← hl] at hk
 simp [hk]
theorem made_get {F : PFunc} {s : RSt} {made : List Nat} {j : Nat} (hn : (makesR F s).Nodup) (hp : ∀ v ∈ makesR F s, 0 ≤ v ∧ v < F.vars.length) (hj : j < (makesR F s).length) : ∃ k : Nat, ith (makesR F s) j = k ∧ k < F.vars.length ∧ (k : Int) ∈ makesR F s ∧ (bump made ((makesR F s).take j)).getD k 0 = made.getD k 0 ∧ bump made ((makesR F s).take (j + 1)) = (bump made ((makesR F s).take j)).set k (made.getD k 0 + 1) := by
 have hm : ith (makesR F s) j ∈ makesR F s := List.mem_of_getElem? (ith_get hj)
 obtain ⟨h1, h2⟩ := hp _ hm
 obtain ⟨k, hk⟩ := Int.eq_ofNat_of_zero_le h1
 have hb : (bump made ((makesR F s).take j)).getD k 0 = made.getD k 0 := bump_out _ _ _ fun u hu e => by
  have hu2 := hp u (List.mem_of_mem_take hu)
  have e2 : u = ith (makesR F s) j := by omega
  obtain ⟨i, hi, hie⟩ := List.getElem_of_mem hu
  rw [List.length_take] at hi
  have h3 : (makesR F s)[i]'(ZO) = (makesR F s)[j] := by
   rw [List.getElem_take] at hie
   rw [hie, e2]
   exact (List.getElem?_eq_some_iff.1 (ith_get hj)).2.symm
  have := (List.getElem_inj hn).1 h3
  omega
 refine ⟨k, hk, ZO, by rw [← hk]; exact hm, hb, ?_⟩
 rw [List.take_add_one, ith_get hj, Option.toList_some, bump_snoc, hk, Int.toNat_natCast, hb]
set_option maxHeartbeats 16000000 in
theorem made_law {W : World} {fv iv : Value} {F : PFunc} {I : PIn} {n : Nat} (hU : Uni W) (hF : FnV W W.heap.size fv F) (hN : NumsR F) (hI : InV W W.heap.size iv I) (hIn : InNum I) (hn : n < 65536) :
 Calls Tryz.prog 6 #[fv, iv, .int .u16 n] W fun e w' => e = .returned (.bool true) ∧ Below W.heap.size W w' := by
 have hlv := fun (w : World) (h : Below W.heap.size W w) => livesS_calls hU h
 have hty := fun (w : World) (h : Below W.heap.size W w) => lawTyped_calls hU hF h
 have hsm := fun (w : World) (h : Below W.heap.size W w) => smallI_calls hI h
 obtain ⟨w, rfl⟩ : ∃ w : World, w = W := ⟨_, rfl⟩
 obtain ⟨A0, c0, A1, c1, A2, c2, rfl, l0, l1, l2, -, -, -, r0, r1, r2⟩ := id hF.open_
 obtain ⟨B0, d0, B1, d1, rfl, m0, m1, k0, k1, q0, q1⟩ := id hI.open_
 unfold Len at *
 clear r0 r1 r2 q0 q1
 have hx0 : Below w.heap.size w ((w.alloc (.cells #[.slice A0 F.vars.length c0, .slice A1 F.params.length c1, .slice A2 F.blocks.length c2] 26)).alloc (.cells #[.slice B0 I.args.length d0, .slice B1 I.rows.length d1] 30)) := BL
 cases hx : lawT F
 · rw [hx] at hty
   clear hx hF hI hN hIn hsm
   go_enter Tryz.func6, Tryz.ntmps6
   go_wp2_with fail
   refine (hlv _ hx0).mono ?_
   rintro e w1 ⟨rfl, hb1⟩
   have hX1 : InBox w1 w.heap.size _ _ _ _ _ := InBox.of (by simpa using hb1)
   have hB1 : Below w.heap.size w w1 := hx0.trans (hb1.mono ZX)
   obtain ⟨e0, e1, g0, g1, g2, g3, g4⟩ := hX1.all
   go_wp2_with fail
   refine (hty _ hB1).mono ?_
   rintro e w2 ⟨rfl, hb2⟩
   go_wp2_with fail
   refine (hlv _ (hB1.trans (hb2.mono hB1.size))).mono ?_
   rintro e w3 ⟨rfl, hb3⟩
   go_wp2
   go_ret
   exact ⟨rfl, hB1.trans ((hb2.trans (hb3.mono hb2.size)).mono hB1.size)⟩
 rw [hx] at hty
 have hx2 : fewB F = true ∧ typedP F = true := by
  unfold lawT at hx
  simpa using hx
 have hS := few_small hx2.1
 have hT := hx2.2
 obtain ⟨n1, n2⟩ := shaped_count (typed_shaped hT)
 have hpv : F.params.length ≤ F.vars.length := by
  have := typed_shaped hT
  unfold shapedP at this
  simp only [Bool.and_eq_true] at this
  exact names_params this.1.1
 have hv512 : F.vars.length ≤ 512 := by
  have := typed_shaped hT
  unfold shapedP at this
  simp only [Bool.and_eq_true] at this
  exact names_vars this.1.1
 have hrt := fun (w' : World) (h : Below w.heap.size w w') => rightI_calls hF hI h hpv
 have hRt := fun (w' : World) (h : Below w.heap.size w w') => rightS_calls hU hF h hS (few_bnd hx2.1)
 have HSG := Lib.hid (fun (w' : World) (h : Below w.heap.size w w') => lawSingle_calls hU hF h)
 have HMK := Lib.hid (fun (w' : World) (h : Below w.heap.size w w') => makers_calls hU hF h hS hT)
 have HFR := Lib.hid (fun (w' : World) (h : Below w.heap.size w w') (a : Nat) => from_calls hF h n1 n2 a (-1))
 have HFP := Lib.hid (few_phis hx2.1)
 have HTK := Lib.hid (fun (w' : World) (h : Below w.heap.size w w') (D : Nat → Prop) (nb gi gb ga : Nat) (vr vt : Value) (vrs : List Value) (s : RSt) (hI' : RInv F s) (hr : RunO w' D (.slice A0 F.vars.length c0) (.slice A1 F.params.length c1) (.slice A2 F.blocks.length c2) nb gi gb ga F.vars.length vr vt vrs s) => And.intro (runTakes_calls hF hT (few_phis hx2.1) h hI' hr) (runMakes_calls hF hT (few_phis hx2.1) h hI' hr))
 have HSR := Lib.hid (show rightS F = singleB F by rw [rightS, hT, Bool.true_and])
 have HLS := Lib.hid (show (lawT F && singleB F) = singleB F by rw [hx, Bool.true_and])
 have HBG := Lib.hid (fun (w' : World) (h : Below w.heap.size w w') (hR : RightF F I) => begin_calls hF hI h hR hpv hv512)
 have HST := Lib.hid (fun (w' : World) (h : Below w.heap.size w w') (D : Nat → Prop) (nb gi gb ga : Nat) (vr vt : Value) (vrs : List Value) (s : RSt) (hI' : RInv F s) (hr : RunO w' D (.slice A0 F.vars.length c0) (.slice A1 F.params.length c1) (.slice A2 F.blocks.length c2) nb gi gb ga F.vars.length vr vt vrs s) (hD : ∀ k, D k → k < w'.heap.size) (hDW : ∀ k, k < w.heap.size → D k) => step_calls hF hT hS hN h hI' hr hD hDW)
 have HNN := Lib.hid hN
 have HT := Lib.hid hT
 have HIn := Lib.hid hIn
 clear hx hx2 hF hI hN hIn hS hT hpv
 go_enter Tryz.func6, Tryz.ntmps6
 go_wp2_with fail
 refine (hlv _ hx0).mono ?_
 rintro e w1 ⟨rfl, hb1⟩
 have hX1 : InBox w1 w.heap.size _ _ _ _ _ := InBox.of (by simpa using hb1)
 have hB1 : Below w.heap.size w w1 := hx0.trans (hb1.mono ZX)
 obtain ⟨e0, e1, g0, g1, g2, g3, g4⟩ := hX1.all
 go_wp2_with fail
 refine (hty _ hB1).mono ?_
 rintro e w2 ⟨rfl, hb2⟩
 have hX2 := hX1.below hb2 hX1.lt
 have hB2 := hB1.trans (hb2.mono hB1.size)
 clear e0 e1 g0 g1 g2 g3 g4
 obtain ⟨e0, e1, g0, g1, g2, g3, g4⟩ := hX2.all
 go_wp2_with fail
 refine (hsm _ hB2).mono ?_
 rintro e w3 ⟨⟨b, rfl⟩, hb3⟩
 have hX3 := hX2.below hb3 hX2.lt
 have hB3 := hB2.trans (hb3.mono hB2.size)
 clear e0 e1 g0 g1 g2 g3 g4 hb1 hb2 hb3 hX1 hX2 hB1 hB2 hx0
 cases b
 · as_aux_lemma =>
   go_wp2_with fail
   refine (hlv _ hB3).mono ?_
   rintro e w4 ⟨rfl, hb4⟩
   go_wp2
   go_ret
   exact ⟨rfl, hB3.trans (hb4.mono hB3.size)⟩
 obtain ⟨e0, e1, g0, g1, g2, g3, g4⟩ := hX3.all
 go_wp2_with fail
 refine (hrt _ hB3).mono ?_
 rintro e w4 ⟨⟨r, rfl, hr⟩, hb4⟩
 have hX4 := hX3.below hb4 hX3.lt
 have hB4 := hB3.trans (hb4.mono hB3.size)
 clear e0 e1 g0 g1 g2 g3 g4 hb4 hX3 hB3
 by_cases hr0 : r = 0
 · as_aux_lemma =>
   have HR := Lib.hid (hr hr0)
   subst hr0
   clear hr hlv hty hsm hrt
   obtain ⟨e0, e1, g0, g1, g2, g3, g4⟩ := hX4.all
   cases hsb : singleB F
   · as_aux_lemma =>
     have hRt := hRt w4 hB4
     rw [HSR.out, hsb] at hRt
     have HSG := fun w' h => HSG.out w' h
     rw [HLS.out, hsb] at HSG
     clear hsb
     go_wp2_with fail
     refine hRt.mono ?_
     rintro e w5 ⟨rfl, hb5⟩
     have hX5 := hX4.below hb5 hX4.lt
     have hB5 := hB4.trans (hb5.mono hB4.size)
     have hz : ((errOf false : Int) != 0) = true := by decide
     clear e0 e1 g0 g1 g2 g3 g4
     obtain ⟨e0, e1, g0, g1, g2, g3, g4⟩ := hX5.all
     go_wp2_with fail
     refine (HSG w5 hB5).mono ?_
     rintro e w6 ⟨rfl, hb6⟩
     go_wp2
     go_ret
     exact ⟨rfl, hB5.trans (hb6.mono hB5.size)⟩
   as_aux_lemma =>
   have hRt := hRt w4 hB4
   rw [HSR.out, hsb] at hRt
   have HSB := Lib.hid hsb
   have HMO := Lib.hid (fun s (hI : RInv F s) => makes_ok HT.out hsb hI)
   clear hsb
   go_wp2_with fail
   refine hRt.mono ?_
   rintro e w5 ⟨rfl, hb5⟩
   have hX5 := hX4.below hb5 hX4.lt
   have hB5 := hB4.trans (hb5.mono hB4.size)
   have hz : ((errOf true : Int) != 0) = false := by decide
   clear e0 e1 g0 g1 g2 g3 g4 hX4 hB4 hb5 hRt
   obtain ⟨e0, e1, g0, g1, g2, g3, g4⟩ := hX5.all
   go_wp2_with fail
   refine (HMK.out w5 hB5).mono ?_
   rintro e w6 ⟨Am, cm, rfl, hml, hmc, hmr, hb6⟩
   have hX6 := hX5.below hb6 hX5.lt
   have hB6 := hB5.trans (hb6.mono hB5.size)
   have HMR := Lib.hid hmr
   rw [makersL_len]
   clear e0 e1 g0 g1 g2 g3 g4 hX5 hB5 hml hmc hmr hz
   obtain ⟨e0, e1, g0, g1, g2, g3, g4⟩ := hX6.all
   go_wp2_with fail
   refine (HBG.out _ hB6 HR.out).mono ?_
   rintro e w7 ⟨nb, gi, gb, ga, vr, vrs, rfl, hR7, hb7⟩
   have hX7 := hX6.below hb7 hX6.lt
   have HX6 := Lib.hid hX6
   have HB6 := Lib.hid hB6
   have HR7 := Lib.hid hR7
   have Hb7 := Lib.hid hb7
   clear e0 e1 g0 g1 g2 g3 g4 hX6 hb6 hB6 hR7 hb7 HBG
   obtain ⟨e0, e1, g0, g1, g2, g3, g4⟩ := hX7.all
   obtain ⟨kk, hkk⟩ : ∃ kk : Nat, kk = n % 501 := ⟨_, rfl⟩
   obtain ⟨hmod, hmod2⟩ := mod501 n
   rw [← hkk] at hmod hmod2
   have hk501 : kk < 501 := by rw [hkk]; exact Nat.mod_lt _ ZD
   clear hkk
   obtain ⟨ib, hib, hz0, hz1, hz2⟩ := info_parts Tryz.info3
   obtain ⟨w8, hrun, ho8, hg8⟩ := run_make_full (P := Tryz.prog) w7 w7.heap.size 23 3 ib _ 1 Tryz.underlying23 hib hz0 hz1 .i64 .i64 F.vars.length (by rw [hz2]; omega) (by unfold maxLen; omega) (Nat.le_refl _)
   have hb78 : Below w7.heap.size w7 w8 := (Below.refl _ _).grown hg8 (Nat.le_refl _) (fun k hk => by cases hk)
   rw [show (madeCells (Value.int IntKind.i64 0).cells (F.vars.length * 1)).toList = mcs (List.replicate F.vars.length 0) by simp [Value.cells, toList_madeCells_one, mcs]] at ho8
   have HR8 := Lib.hid ((HR7.out.moreD (g := w7.heap.size) (Nat.le_refl _)).below hb78)
   have HO8 := Lib.hid ho8
   have Hb78 := Lib.hid hb78
   have s67 := Hb7.out.size
   have s78 := Hb78.out.size
   have s6 := HX6.out.lt
   clear hX7 hb78 ho8
   go_wp2
   clear hrun hg8 hib e0 e1 g0 g1 g2 g3 g4
   go_loopw [58] (fun x wr => ∃ (i : Nat) (s : RSt) (made : List Nat) (vr' vt' : Value) (vrs' : List Value), x = .int .i64 i ∧ i ≤ kk ∧ RunO wr (fun k => k < w6.heap.size ∨ k = w7.heap.size) (.slice A0 F.vars.length c0) (.slice A1 F.params.length c1) (.slice A2 F.blocks.length c2) nb gi gb ga F.vars.length vr' vt' vrs' s ∧ Hid (RInv F s ∧ MadeI F made s ∧ ∀ v, made.getD v 0 ≤ i) ∧ wr.ownsRow w7.heap.size 3 1 (.slice (some ⟨w7.heap.size, 0, none⟩) F.vars.length F.vars.length) F.vars.length (mcs made) ∧ Kp (fun k => k < w6.heap.size) w8 wr) (fun x _ => kk - (intOf x).toNat)
   case atStart => exact ⟨0, beginR F I, List.replicate F.vars.length 0, _, _, _, rfl, Nat.zero_le _, HR8.out, ⟨beginR_inv HT.out HR.out HIn.out, MadeI.start HT.out HSB.out rfl rfl, fun v => by rw [List.getD_eq_getElem?_getD, List.getElem?_replicate]; split <;> simp⟩, by simpa using HO8.out, Kp.refl⟩
   case round => as_aux_lemma =>
    obtain ⟨i, s, made, vr', vt', vrs', rfl, hi, h4, hIV, ho, k4⟩ := hrel
    have hBr : Below w6.heap.size w6 wr := (Hb7.out.trans (Hb78.out.mono s67)).trans (Kp.to_below (B := w6.heap.size) k4 (fun k hk => hk) (Nat.le_trans s67 s78))
    have hWr := HB6.out.trans (hBr.mono HB6.out.size)
    by_cases hlt : i < kk
    · as_aux_lemma =>
      have hik : (i : Int) < (kk : Int) := by omega
      have xl := h4.box.lt
      have z22 := h4.box.cell 22
      replace z22 : wr.cell? ⟨nb, 22, none⟩ = some (.bool s.ended) := z22
      cases hen : s.ended
      · as_aux_lemma =>
        rw [hen] at z22
        have htk := (HTK.out wr hWr _ nb gi gb ga vr' vt' vrs' s hIV.out.1 h4).1
        have HTM := Lib.hid (takes_made HT.out HSB.out hIV.out.1 hIV.out.2.1)
        have HTW := Lib.hid (makes_twice HT.out HSB.out hIV.out.1 hIV.out.2.1)
        have H4 := Lib.hid h4
        have HO := Lib.hid ho
        have HBr := Lib.hid hBr
        have HK4 := Lib.hid k4
        clear hen h4 ho hBr hWr k4
        obtain ⟨wo, rfl⟩ : ∃ wo : World, wo = wr := ⟨_, rfl⟩
        go_wp2_with fail
        refine htk.mono ?_
        rintro e w9 ⟨v9, rfl, hv9, hb9⟩
        have HV9 := Lib.hid hv9
        obtain ⟨A9, c9, rfl, -, hl9, -⟩ := id hv9
        have HB9 := Lib.hid hb9
        obtain ⟨LT, hLT⟩ : ∃ l : List Int, takesR F s = l := ⟨_, rfl⟩
        rw [hLT] at HV9 HTM hl9 ⊢
        clear hv9 hb9 htk hLT xl z22
        go_wp2
        go_loopw [67] (fun x wr => ∃ j : Nat, x = .int .i64 j ∧ j ≤ LT.length ∧ Below w9.heap.size w9 wr) (fun x _ => LT.length - (intOf x).toNat)
        case atStart => exact ⟨0, rfl, Nat.zero_le _, Below.refl _ _⟩
        case round => as_aux_lemma =>
         obtain ⟨j, rfl, hj, hb⟩ := hrel
         have hb9 := HB9.out.trans (hb.mono HB9.out.size)
         by_cases hjl : j < LT.length
         · as_aux_lemma =>
           have hji : (j : Int) < (LT.length : Int) := by omega
           obtain ⟨g, o, c, hve, hgl, hgc⟩ := (HV9.out.below hb).at hjl
           cases hve
           obtain ⟨k, hk, hkn, hk0⟩ := HTM.out _ (List.mem_of_getElem? (ith_get hjl))
           rw [hk] at hgc
           obtain ⟨bm, om, rfl, hbm, hp1, hp2⟩ := HMR.out k _ (makersL_at hkn)
           have hB6r := HBr.out.trans (hb9.mono HBr.out.size)
           have q1 := (hB6r.cell (p := ⟨bm, om + k * 2, none⟩) hbm).trans hp1
           have ql := Nat.lt_of_lt_of_le hbm hB6r.size
           have hom := own_below HO.out hb9
           have y1 := mcs_cell hom hIV.out.2.1.len hkn
           have yl := (hom.lt w7.heap.size rfl).2
           have hkI : (k : Int) < (F.vars.length : Int) := by omega
           have HB := Lib.hid hb
           clear hb hom hp1 hp2 hb9 hB6r hbm hk
           generalize (makerF F (k : Int)).1 = mk at *
           by_cases hmk : 0 ≤ mk
           · as_aux_lemma =>
             have hc0 : (((made.getD k 0 : Nat) : Int) == 0) = false := by
              rw [beq_eq_false_iff_ne]
              rcases hk0 with h | h <;> omega
             clear hk0
             generalize made.getD k 0 = mv at *
             go_wp2
             go_roundw
             case rel => exact ⟨j + 1, ZN, ZO, HB.out⟩
             case measure => simp [intOf]; omega
           · as_aux_lemma =>
             have hmk2 : decide (0 ≤ mk) = false := decide_eq_false hmk
             clear hk0
             generalize made.getD k 0 = mv at *
             go_wp2
             go_roundw
             case rel => exact ⟨j + 1, ZN, ZO, HB.out⟩
             case measure => simp [intOf]; omega
         · as_aux_lemma =>
           obtain rfl : j = LT.length := by omega
           have hBr2 := HBr.out.trans (hb9.mono HBr.out.size)
           have hW2 := HB6.out.trans (hBr2.mono HB6.out.size)
           have hmk := (HTK.out _ hW2 _ nb gi gb ga vr' vt' vrs' s hIV.out.1 (H4.out.below hb9)).2
           have HB2 := Lib.hid hb9
           obtain ⟨wp, rfl⟩ : ∃ wp : World, wp = wr := ⟨_, rfl⟩
           clear hb hBr2 hW2 hb9 HTM HV9 hl9
           go_wp2_with fail
           refine hmk.mono ?_
           rintro e wa ⟨va, rfl, hoa, hba⟩
           obtain ⟨Aa, ca, rfl⟩ := own_form hoa
           have hb3 := HB2.out.trans (hba.mono HB2.out.size)
           have hWa := HB6.out.trans ((HBr.out.trans (hb3.mono HBr.out.size)).mono HB6.out.size)
           have hra := ((H4.out.below HB2.out).moreP (E := fun k => (Value.slice Aa (makesR F s).length ca).ownBlock = some k) (fun k e => (own_lt hoa e).1)).below hba
           have hma := own_below HO.out hb3
           have hsa := hb3.size
           have hsr := HBr.out.size
           have hst := HST.out wa hWa _ nb gi gb ga vr' vt' vrs' s hIV.out.1 hra (fun k hk => by
            rcases hk with (hk | hk) | hk
            · exact ZO
            · have := (hma.lt w7.heap.size rfl).2; omega
            · exact (own_lt hoa hk).2) (fun k hk => .inl (.inl (by have := HB6.out.size; omega)))
           have HOA := Lib.hid hoa
           have HMA := Lib.hid hma
           have HB3 := Lib.hid hb3
           have HGE := Lib.hid (fun j (hj : j < (makesR F s).length) => made_get (made := made) (HMO.out s hIV.out.1).2 (HMO.out s hIV.out.1).1 hj)
           have HI2 := Lib.hid (show RInv F (stepR F s) ∧ MadeI F (bump made (makesR F s)) (stepR F s) ∧ ∀ v, (bump made (makesR F s)).getD v 0 ≤ i + 1 from ⟨hIV.out.1.step HT.out HNN.out, hIV.out.2.1.step HT.out HSB.out hIV.out.1, fun v => bump_max _ _ _ _ (HMO.out s hIV.out.1).2 (fun u hu => ((HMO.out s hIV.out.1).1 u hu).1) (hIV.out.2.2 v)⟩)
           clear hoa hba hra hma hmk hb3 hWa
           go_wp2_with fail
           refine hst.mono ?_
           rintro e wb ⟨rfl, vrb, vtb, vrsb, hrb, hkb⟩
           have HOB := Lib.hid (own_turn HOA.out (fun k hk => hkb.blk k (.inr hk) (own_lt HOA.out hk).2))
           have HMB := Lib.hid (own_turn HMA.out (fun k hk => by
            simp only [Value.ownBlock, Option.some.injEq] at hk
            subst hk
            exact hkb.blk _ (.inl (.inr rfl)) (HMA.out.lt w7.heap.size rfl).2))
           have HKB := Lib.hid ((HK4.out.trans (Kp.below HB3.out (fun k hk _ => hk))).trans (Kp.mono hkb (fun k _ hk => .inl (.inl hk))))
           have HRB := Lib.hid (hrb.less (D := fun k => k < w6.heap.size ∨ k = w7.heap.size) (fun k hk => .inl hk))
           have hwp : w7.heap.size < wp.heap.size := Nat.lt_of_lt_of_le (HO.out.lt w7.heap.size rfl).2 HB2.out.size
           clear hrb hkb hst
           obtain ⟨LM, hLM⟩ : ∃ l : List Int, makesR F s = l := ⟨_, rfl⟩
           have hml : LM.length ≤ 400 := by rw [← hLM]; exact makesR_le HT.out HFP.out hIV.out.1
           rw [hLM] at HGE HI2 HOB HTW ⊢
           clear hLM
           go_wp2
           go_loopw [91] (fun x wr => ∃ j : Nat, x = .int .i64 j ∧ j ≤ LM.length ∧ RunO wr (fun k => k < w6.heap.size ∨ k = w7.heap.size) (.slice A0 F.vars.length c0) (.slice A1 F.params.length c1) (.slice A2 F.blocks.length c2) nb gi gb ga F.vars.length vrb vtb vrsb (stepR F s) ∧ wr.ownsRow w7.heap.size 3 1 (.slice (some ⟨w7.heap.size, 0, none⟩) F.vars.length F.vars.length) F.vars.length (mcs (bump made (LM.take j))) ∧ wr.ownsRow wp.heap.size 3 1 (.slice Aa LM.length ca) LM.length (LM.map (Value.int .i64)) ∧ Kp (fun k => k < w6.heap.size) w8 wr) (fun x _ => LM.length - (intOf x).toNat)
           case atStart => exact ⟨0, rfl, Nat.zero_le _, HRB.out, by simpa [bump] using HMB.out, HOB.out, HKB.out⟩
           case round => as_aux_lemma =>
            obtain ⟨j, rfl, hj, h5, hm5, ho5, kk5⟩ := hrel
            by_cases hjl : j < LM.length
            · as_aux_lemma =>
              have hji : (j : Int) < (LM.length : Int) := by omega
              obtain ⟨k, hk, hkn, hkm, hb0, hb1⟩ := HGE.out j hjl
              obtain ⟨g2, cap2, hve, hgl, -⟩ := run_pos ho5 ZO
              cases hve
              have y0 : wr.cell? ⟨g2, j, none⟩ = some (.int .i64 (k : Int)) := by rw [ho5.cellAt j ZO, List.getElem?_map, ith_get hjl, hk]; rfl
              have y1 := mcs_cell hm5 (by rw [bump_len]; exact hIV.out.2.1.len) hkn
              rw [hb0] at y1
              have yf := hm5.frozenAt k
              have yl := (hm5.lt w7.heap.size rfl).2
              have hcv := hIV.out.2.2 k
              obtain ⟨m, am, hmm, hmb, hpl⟩ := HTW.out k hkm
              obtain ⟨bm, om, rfl, hbm, hp1, -⟩ := HMR.out k _ (makersL_at hkn)
              rw [hmm] at hp1
              have hB6r : Below w6.heap.size w6 wr := (Hb7.out.trans (Hb78.out.mono s67)).trans (Kp.to_below (B := w6.heap.size) kk5 (fun k hk => hk) (Nat.le_trans s67 s78))
              have hkI : (k : Int) < (F.vars.length : Int) := by omega
              have hmI : (m : Int) < (F.blocks.length : Int) := by omega
              have HPL := Lib.hid (fun h : made.getD k 0 ≠ 0 => (plusL_at hmb).2 (hpl h))
              generalize made.getD k 0 = cv at *
              have hgn2 : wp.heap.size ≤ g2 := (own_lt ho5 (g := g2) rfl).1
              have hgn : g2 ≠ w7.heap.size := by omega
              have hst5 : (wr.setCell ⟨w7.heap.size, k, none⟩ (.int .i64 ((cv : Int) + 1))).ownsRow w7.heap.size 3 1 (.slice (some ⟨w7.heap.size, 0, none⟩) F.vars.length F.vars.length) F.vars.length (mcs (bump made (LM.take (j + 1)))) := by
               have h1 := (hm5.stored k (.int .i64 ((cv : Int) + 1))).1
               rw [hb1]
               simpa [mcs, List.map_set] using h1
              obtain ⟨W5, hW5⟩ : ∃ W5, W5 = wr.setCell ⟨w7.heap.size, k, none⟩ (.int .i64 ((cv : Int) + 1)) := ⟨_, rfl⟩
              have hr5 := h5.turn (w' := wr.setCell ⟨w7.heap.size, k, none⟩ (.int .i64 ((cv : Int) + 1))) (fun q hq => heap_set (fun e => hq (.inr e)))
              have hn5 := own_turn (w' := wr.setCell ⟨w7.heap.size, k, none⟩ (.int .i64 ((cv : Int) + 1))) ho5 (fun q hq => heap_set (by simp only [Value.ownBlock, Option.some.injEq] at hq; subst hq; exact hgn))
              have hk5 : Kp (fun k => k < w6.heap.size) w8 (wr.setCell ⟨w7.heap.size, k, none⟩ (.int .i64 ((cv : Int) + 1))) := kk5.setCell (p := ⟨w7.heap.size, k, none⟩) (fun h => by have h' : w7.heap.size < w6.heap.size := h; omega) _
              have hB5 : Below w6.heap.size w6 (wr.setCell ⟨w7.heap.size, k, none⟩ (.int .i64 ((cv : Int) + 1))) := hB6r.setCell s67 _
              have v0 : (wr.setCell ⟨w7.heap.size, k, none⟩ (.int .i64 ((cv : Int) + 1))).cell? ⟨w7.heap.size, k, none⟩ = some (.int .i64 ((cv : Int) + 1)) := World.cell?_setCell_same' _ _ _ (by rw [y1]; rfl)
              rw [← hW5] at hst5 hr5 hn5 hk5 hB5 v0
              have HS5 := Lib.hid hst5
              have HR5 := Lib.hid hr5
              have HN5 := Lib.hid hn5
              have HK5 := Lib.hid hk5
              have HB5 := Lib.hid hB5
              have hq1 := (hB5.cell (p := ⟨bm, om + k * 2, none⟩) hbm).trans hp1
              have hql := Nat.lt_of_lt_of_le hbm hB5.size
              obtain ⟨e0, e1, g0, g1, g2', g3, g4⟩ := (HX6.out.below hB5 s6).all
              have hl5 : w7.heap.size < W5.heap.size := by rw [hW5]; simpa using yl
              clear h5 hm5 ho5 kk5 hb0 hb1 hp1 hB6r hst5 hr5 hn5 hk5 hB5 hmm hpl hk
              go_upto_region 25 with fail
              rw [← hW5]
              clear hW5 y0 y1 yf yl hgl
              by_cases hc0 : cv = 0
              · as_aux_lemma =>
                subst hc0
                go_wp2
                go_quiet (fail)
                obtain ⟨wz, hwz⟩ : ∃ wz : World, wz = W5.drewN nq := ⟨_, rfl⟩
                rw [← hwz]
                have hbz : Below W5.heap.size W5 wz := by rw [hwz]; exact bdrewN (Below.refl _ _) _
                clear hwz
                go_wp2
                go_roundw
                case rel => exact ⟨j + 1, ZN, ZO, HR5.out.below hbz, own_below HS5.out hbz, own_below HN5.out hbz, HK5.out.trans (Kp.below hbz (fun k hk _ => hk))⟩
                case measure => simp [intOf]; omega
              · as_aux_lemma =>
                have hpm := HPL.out hc0
                have hg1 : (1 : Int) < (cv : Int) + 1 := by omega
                have HPM := Lib.hid hpm
                have HWW := Lib.hid (HB6.out.trans (HB5.out.mono HB6.out.size))
                clear hpm
                obtain ⟨S0, hS0⟩ : ∃ S0 : World → Prop, S0 = fun w' => w'.cell? ⟨w7.heap.size, k, none⟩ = some (.int .i64 ((cv : Int) + 1)) ∧ w'.cell? ⟨w.heap.size, 0, none⟩ = some (.slice A0 F.vars.length c0) ∧ w'.cell? ⟨w.heap.size, 1, none⟩ = some (.slice A1 F.params.length c1) ∧ w'.cell? ⟨w.heap.size, 2, none⟩ = some (.slice A2 F.blocks.length c2) ∧ w'.cell? ⟨bm, om + k * 2, none⟩ = some (.int .i64 (m : Int)) ∧ Below W5.heap.size W5 w' ∧ w7.heap.size < w'.heap.size ∧ w.heap.size < w'.heap.size ∧ bm < w'.heap.size := ⟨_, rfl⟩
                have HS0 := Lib.hid hS0
                clear hS0
                have k0 := fun xw => (WS.at HS0 xw).1
                have k1 := fun xw => (WS.at HS0 xw).2.1
                have k2 := fun xw => (WS.at HS0 xw).2.2.1
                have k3 := fun xw => (WS.at HS0 xw).2.2.2.1
                have k4 := fun xw => (WS.at HS0 xw).2.2.2.2.1
                have k5 := fun xw => (WS.at HS0 xw).2.2.2.2.2.1
                have k6 := fun xw => (WS.at HS0 xw).2.2.2.2.2.2.1
                have k7 := fun xw => (WS.at HS0 xw).2.2.2.2.2.2.2.1
                have k8 := fun xw => (WS.at HS0 xw).2.2.2.2.2.2.2.2
                refine wp_region_treeE (S := S0) [18, 19, 20, 21] ZK ?hS (fun hSc hcl => ?_)
                case hS =>
                 rw [HS0.out]
                 exact ⟨ZI, ZI, ZI, ZI, ZI, BL, ZJ, ZJ, ZJ⟩
                have hne0 : Nonempty (WS S0) := ⟨⟨_, hSc⟩⟩
                have hneT : Nonempty (WS (fun _ => True)) := match hne0 with | ⟨x⟩ => ⟨⟨x.w, trivial⟩⟩
                refine wpTreeE_run [(0, 0), (1, 0), (2, 0), (3, 0), (4, 0), (5, 0), (6, 0), (7, 0), (8, 0), (9, 0), (10, 0), (11, 0), (13, 0), (14, 0), (15, 0), (16, 0), (17, 0), (12, 1)] 4 rfl ZK (fun _ _ _ _ _ h => h) hSc hcl ?_
                all_goals
                 (try simp only [List.map_cons, List.map_nil, List.getD_cons_succ, List.getD_cons_zero])
                 repeat
                  first
                  | ((with_reducible refine wpSch3_lk ?_ ?_); exact rfl; dsimp only; go_big_quiet_step (fail); (try with_reducible refine wpQuiet_nil ?_); (try dsimp only))
                  | ((with_reducible refine wpSch3_fr ?_ ?_); exact rfl; dsimp only; go_big_quiet_step (fail); (try with_reducible refine wpQuiet_nil ?_); (try dsimp only))
                  | ((with_reducible refine wpSch3_at ?_ ?_ (fun K hK => ?_))
                     exact rfl
                     exact rfl
                     dsimp only
                     go_simp
                     (try go_wp2_with (go_at_call 30; refine (HFR.out _ (HWW.out.trans ((k5 ⟨_, hSc⟩).mono HWW.out.size)) m).mono ?_; rintro e w9 ⟨g9, rfl, ho9, hb9⟩; obtain ⟨hc9, hf9⟩ := bcell hb9; have yt := own_bool ho9 hmb; have yg := (ho9.lt g9 rfl).2; rw [HPM.out] at yt; clear ho9))
                     refine hK.out _ _ ?hS (fun hSc => ?_)
                     case hS =>
                      first
                      | exact hSc
                      | (rw [HS0.out] at hSc ⊢; obtain ⟨p0, p1, p2, p3, p4, p5, p6, p7, p8⟩ := hSc; exact ⟨ZC0, ZC1, ZC2, ZC3, ZC4, (by first | exact p5.trans (hb9.mono (by have := p5.size; first | omega | (simp at this ⊢; omega))) | exact BL), ZT6, ZT7, ZT8⟩)
                     clear hK K)
                 (try (refine wpSch3_nil ?_; intro hSc hcl))
                all_goals
                 refine wpTreeE_end [18, 19, 20, 21] rfl ZK ?_
                 simp only [List.map_cons, List.map_nil, List.getD_cons_succ, List.getD_cons_zero]
                 rw [HS0.out] at hSc
                 obtain ⟨p0, p1, p2, p3, p4, p5, p6, p7, p8⟩ := hSc
                 clear hne0 hneT hcl HS0 k0 k1 k2 k3 k4 k5 k6 k7 k8
                 go_wp2
                 go_roundw
                 case rel => exact ⟨j + 1, ZN, ZO, HR5.out.below p5, own_below HS5.out p5, own_below HN5.out p5, HK5.out.trans (Kp.below p5 (fun k hk _ => hk))⟩
                 case measure => simp [intOf]; omega
            · as_aux_lemma =>
              obtain rfl : j = LM.length := by omega
              rw [List.take_length] at hm5
              have HR5 := Lib.hid h5
              have HM5 := Lib.hid hm5
              have HK5 := Lib.hid kk5
              clear h5 hm5 ho5 kk5
              go_wp2
              go_roundw
              case rel => exact ⟨i + 1, stepR F s, bump made LM, vrb, vtb, vrsb, ZN, ZO, HR5.out, HI2.out, HM5.out, HK5.out⟩
              case measure => simp [intOf]; omega
      · rw [hen] at z22
        have HWr := Lib.hid hWr
        clear hen h4 k4 hBr hWr hIV ho
        go_wp2
        go_ret
        exact ⟨rfl, HWr.out⟩
    · as_aux_lemma =>
      obtain rfl : i = kk := by omega
      clear h4 k4 ho
      go_wp2
      go_ret
      exact ⟨rfl, hWr⟩
 · as_aux_lemma =>
   have hr1 : (r != 0) = true := by rw [bne_iff_ne]; exact hr0
   clear hr hr0
   go_wp2_with fail
   refine (hlv _ hB4).mono ?_
   rintro e w5 ⟨rfl, hb5⟩
   go_wp2
   go_ret
   exact ⟨rfl, hB4.trans (hb5.mono hB4.size)⟩
end Go.Proofs.YthhpbkfngcflcaaGreatDoor
