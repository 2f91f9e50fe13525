/- The walk of the law DeadNone: it returns true, whatever the program. -/
import Derived.Test.YtjdkcichkpolgaaGreatDoorDmX
import Derived.Test.YtjdkcichkpolgaaGreatDoorDmY
import Derived.Test.YtjdkcichkpolgaaGreatDoorSame
namespace Go.Proofs.YtjdkcichkpolgaaGreatDoor
open Go.RowKit
set_option maxRecDepth 100000
def cntS (b : PBlock) (k : Nat) : Nat := ((b.insts.take k).filter staysI).length
theorem cntS_yes {b : PBlock} {k : Nat} (h : k < b.insts.length) (hs : staysI (b.inst k) = true) : cntS b (k + 1) = cntS b k + 1 := by
 unfold cntS
 rw [take_inst h, List.filter_append]
 simp [hs]
theorem cntS_no {b : PBlock} {k : Nat} (h : k < b.insts.length) (hs : staysI (b.inst k) = false) : cntS b (k + 1) = cntS b k := by
 unfold cntS
 rw [take_inst h, List.filter_append]
 simp [hs]
theorem cntS_end {b : PBlock} : cntS b b.insts.length = (b.insts.filter staysI).length := by unfold cntS; rw [List.take_length]
theorem cntS_le {b : PBlock} {k : Nat} : cntS b k ≤ (b.insts.filter staysI).length := ((List.take_sublist _ _).filter _).length_le
set_option maxHeartbeats 8000000 in
theorem deadNone_law {W : World} {fv : Value} {F : PFunc} (hU : Uni W) (hF : FnV W W.heap.size fv F) :
 Calls Tryz.prog 7 #[fv] W fun e w' => e = .returned (.bool true) ∧ Below W.heap.size W w' := by
 have hlv := fun (w : World) (h : Below W.heap.size W w) => livesX_calls hU h
 have hsg := fun (w : World) (h : Below W.heap.size W w) => lawSingle_calls hU hF h
 obtain ⟨w, rfl⟩ : ∃ w : World, w = W := ⟨_, rfl⟩
 obtain ⟨A0, c0, A1, c1, A2, c2, rfl, l0, l1, l2, -, -, -, r0, r1, r2⟩ := id hF.open_
 unfold Len at *
 clear r0 r1
 have hb0 := (Below.refl w.heap.size w).alloc (Nat.le_refl _) (.cells #[.slice A0 F.vars.length c0, .slice A1 F.params.length c1, .slice A2 F.blocks.length c2] 26)
 have HX0 := Lib.hid (BoxAt.new w #[.slice A0 F.vars.length c0, .slice A1 F.params.length c1, .slice A2 F.blocks.length c2] 26)
 cases hx : (lawT F && singleB F)
 · as_aux_lemma =>
   rw [hx] at hsg
   clear hx hF r2
   go_enter Tryz.func7, Tryz.ntmps7
   go_wp2_with fail
   refine (hlv _ hb0).mono ?_
   rintro e w1 ⟨rfl, hb1⟩
   have hx1 := HX0.out.below hb1 HX0.out.lt
   have hB1 := hb0.trans (hb1.mono hb0.size)
   have q0 := hx1.cell 0
   have q1 := hx1.cell 1
   have q2 := hx1.cell 2
   have ql := hx1.lt
   simp at q0 q1 q2
   go_wp2_with fail
   refine (hsg _ hB1).mono ?_
   rintro e w2 ⟨rfl, hb2⟩
   have hB2 := hB1.trans (hb2.mono hB1.size)
   clear q0 q1 q2 ql
   go_wp2_with fail
   refine (hlv _ hB2).mono ?_
   rintro e w3 ⟨rfl, hb3⟩
   have hB3 := hB2.trans (hb3.mono hB2.size)
   go_wp2
   go_ret
   exact ⟨rfl, hB3⟩
 as_aux_lemma =>
 have hx2 : lawT F = true ∧ singleB F = true := by simpa using hx
 have hx3 : fewB F = true ∧ typedP F = true := by have := hx2.1; unfold lawT at this; simpa using this
 have hS := few_small hx3.1
 have hBn := few_bnd hx3.1
 have hR : rightS F = true := by rw [rightS, hx3.2, hx2.2]; rfl
 have n2 := (shaped_count (typed_shaped hx3.2)).2
 have hsw := fun (w' : World) (h : Below w.heap.size w w') => sweep_calls hU hF h hS hBn
 have hpl := fun (w' : World) (h : Below w.heap.size w w') => lawPlain_calls hU hF h
 unfold RetSw at hsw
 rw [hR] at hsw
 rw [hx] at hsg
 have HX3 := Lib.hid hx3
 have HX2 := Lib.hid hx2
 have HRR := Lib.hid hR
 have HU := Lib.hid hU
 have HBN := Lib.hid hBn
 have HOP := Lib.hid (fun i (hi : i < F.blocks.length) => fun x hx => inst_op ((shaped_blk (typed_shaped hx3.2) hi).2.1 x hx))
 clear hx hF hS hBn hx2 hx3 hR hU
 go_enter Tryz.func7, Tryz.ntmps7
 go_wp2_with fail
 refine (hlv _ hb0).mono ?_
 rintro e w1 ⟨rfl, hb1⟩
 have hx1 := HX0.out.below hb1 HX0.out.lt
 have hB1 := hb0.trans (hb1.mono hb0.size)
 have q0 := hx1.cell 0
 have q1 := hx1.cell 1
 have q2 := hx1.cell 2
 have ql := hx1.lt
 simp at q0 q1 q2
 go_wp2_with fail
 refine (hsg _ hB1).mono ?_
 rintro e w2 ⟨rfl, hb2⟩
 have hx2 := hx1.below hb2 hx1.lt
 have hB2 := hB1.trans (hb2.mono hB1.size)
 clear q0 q1 q2 ql
 have q0 := hx2.cell 0
 have q1 := hx2.cell 1
 have q2 := hx2.cell 2
 have ql := hx2.lt
 simp at q0 q1 q2
 clear hb1 hb2 hx1 hB1 hlv hsg
 go_wp2_with fail
 refine (hsw _ hB2).mono ?_
 rintro e w5 ⟨⟨h, -⟩ | ⟨-, v, rfl, hG⟩, hb5⟩
 · cases h
 obtain ⟨B0, d0, B1, d1, B2, d2, rfl, -, -, -, -, -, -, -, -, s2⟩ := id hG.open_
 have e0 : (SwF (ndL F) F).vars.length = F.vars.length := rfl
 have e1 : (SwF (ndL F) F).params.length = F.params.length := rfl
 have e2 : (SwF (ndL F) F).blocks.length = F.blocks.length := sw_len
 rw [e0, e1, e2] at hG ⊢
 clear e0 e1 e2
 have hw6 := BL_alloc w5 (.cells #[.slice B0 F.vars.length d0, .slice B1 F.params.length d1, .slice B2 F.blocks.length d2] 26)
 have hb6 := hb5.trans (hw6.mono hb5.size)
 have hx6 := hx2.below hb6 hx2.lt
 have hB5 := hB2.trans (hb5.mono hB2.size)
 have hB6 := hB2.trans (hb6.mono hB2.size)
 have hg6 := BoxAt.new w5 #[.slice B0 F.vars.length d0, .slice B1 F.params.length d1, .slice B2 F.blocks.length d2] 26
 have hU5 := HU.out.below hB5
 have hty := fun (w' : World) (h : Below w5.heap.size w5 w') => law8Typed_calls hU5 hG h (few_small (sw_few HX3.out.1))
 have hsg := fun (w' : World) (h : Below w5.heap.size w5 w') => lawSingle_calls hU5 hG h
 have hpg := fun (w' : World) (h : Below w5.heap.size w5 w') => lawPlain_calls hU5 hG h
 have hs2 := fun (w' : World) (h : Below w5.heap.size w5 w') => sweep_calls hU5 hG h (few_small (sw_few HX3.out.1)) (few_bnd (sw_few HX3.out.1))
 have hlT : lawT (SwF (ndL F) F) = true := by rw [lawT, sw_few HX3.out.1, sw_typed HX3.out.2]; rfl
 unfold RetSw at hs2
 rw [sw_rightS HRR.out, sw_swept (rngF_of HX3.out.2)] at hs2
 rw [sw_typed HX3.out.2] at hty
 rw [hlT, sw_singleB HX3.out.2 HX2.out.2] at hsg
 rw [hlT, Bool.true_and] at hpg
 rw [HX2.out.1, Bool.true_and] at hpl
 have HPP := Lib.hid (fun h => sw_plainB HX3.out.2 h)
 have HG := Lib.hid hG
 have HS2 := Lib.hid s2
 clear q0 q1 q2 ql
 have hx5 := hx2.below hb5 hx2.lt
 have q0 := hx5.cell 0
 have q1 := hx5.cell 1
 have q2 := hx5.cell 2
 have ql := hx5.lt
 simp at q0 q1 q2
 clear hb5 hb6 hG s2 hU5 hlT hsw hx5 hx2 hB2 hB5
 go_upto_region 4 with fail
 clear q0 q1 q2 ql
 have q0 := hx6.cell 0
 have q1 := hx6.cell 1
 have q2 := hx6.cell 2
 have ql := hx6.lt
 simp at q0 q1 q2
 have g0 := hg6.cell 0
 have g1 := hg6.cell 1
 have g2 := hg6.cell 2
 have gl := hg6.lt
 simp at g0 g1 g2
 go_wp2_with fail
 refine (hty _ hw6).mono ?_
 rintro e w7 ⟨rfl, hb7⟩
 have hx7 := hx6.below hb7 hx6.lt
 have hg7 := hg6.below hb7 hg6.lt
 have hB7 := hB6.trans (hb7.mono hB6.size)
 have hw7 := hw6.trans (hb7.mono hw6.size)
 clear q0 q1 q2 ql
 clear g0 g1 g2 gl
 have q0 := hx7.cell 0
 have q1 := hx7.cell 1
 have q2 := hx7.cell 2
 have ql := hx7.lt
 simp at q0 q1 q2
 have g0 := hg7.cell 0
 have g1 := hg7.cell 1
 have g2 := hg7.cell 2
 have gl := hg7.lt
 simp at g0 g1 g2
 clear hb7 hx6 hg6 hB6 hw6
 go_wp2_with fail
 refine (hsg _ hw7).mono ?_
 rintro e w8 ⟨rfl, hb8⟩
 have hx8 := hx7.below hb8 hx7.lt
 have hg8 := hg7.below hb8 hg7.lt
 have hB8 := hB7.trans (hb8.mono hB7.size)
 have hw8 := hw7.trans (hb8.mono hw7.size)
 clear q0 q1 q2 ql
 clear g0 g1 g2 gl
 have q0 := hx8.cell 0
 have q1 := hx8.cell 1
 have q2 := hx8.cell 2
 have ql := hx8.lt
 simp at q0 q1 q2
 have g0 := hg8.cell 0
 have g1 := hg8.cell 1
 have g2 := hg8.cell 2
 have gl := hg8.lt
 simp at g0 g1 g2
 clear hb8 hx7 hg7 hB7 hw7
 cases hY : plainB F
 · as_aux_lemma =>
   rw [hY] at hpl
   clear hY
   go_wp2_with fail
   refine (hpl _ hB8).mono ?_
   rintro e w9 ⟨rfl, hb9⟩
   have hx9 := hx8.below hb9 hx8.lt
   have hg9 := hg8.below hb9 hg8.lt
   have hB9 := hB8.trans (hb9.mono hB8.size)
   have hw9 := hw8.trans (hb9.mono hw8.size)
   clear q0 q1 q2 ql
   clear g0 g1 g2 gl
   have q0 := hx9.cell 0
   have q1 := hx9.cell 1
   have q2 := hx9.cell 2
   have ql := hx9.lt
   simp at q0 q1 q2
   have g0 := hg9.cell 0
   have g1 := hg9.cell 1
   have g2 := hg9.cell 2
   have gl := hg9.lt
   simp at g0 g1 g2
   clear hb9 hx8 hg8 hB8 hw8
   go_wp2_with fail
   clear q0 q1 q2 ql g0 g1 g2 gl
   have HXK := Lib.hid hx9
   have HGK := Lib.hid hg9
   have HBK := Lib.hid hB9
   have HWK := Lib.hid hw9
   have hs5 := hw9.size
   clear hx9 hg9 hB9 hw9 hpl hpg hty hsg
   go_loopw [60] (fun x wr => ∃ n : Nat, x = .int .i64 n ∧ n ≤ F.blocks.length ∧ Below w9.heap.size w9 wr) (fun x _ => F.blocks.length - (intOf x).toNat)
   case atStart => exact ⟨0, rfl, Nat.zero_le _, Below.refl _ _⟩
   case round => as_aux_lemma =>
    obtain ⟨n, rfl, hn, hb⟩ := hrel
    have hBr := HBK.out.trans (hb.mono HBK.out.size)
    have hWr := HWK.out.trans (hb.mono HWK.out.size)
    have hxr := HXK.out.below hb HXK.out.lt
    have hgr := HGK.out.below hb HGK.out.lt
    by_cases hlt : n < F.blocks.length
    · as_aux_lemma =>
      obtain ⟨bb, off, A3, c3, A4, c4, rfl, hbb, hnz, hy0, hy1, hy2, hy3, hy4, hy5, hy6, l3, l4, k3, k4, r3, r4⟩ := r2.blk hBr hlt
      have hpn := HBN.out.parts _ (mem_of_blk hlt)
      have hss := sw_stays (l := ndL F) (b := F.blk n)
      have HSS := Lib.hid hss
      unfold Len at l3 l4
      obtain ⟨wq, rfl⟩ : ∃ wq : World, wq = wr := ⟨_, rfl⟩
      have HGR := Lib.hid hgr
      have HBR := Lib.hid hBr
      have HWR := Lib.hid hWr
      clear hxr hgr hss r3
      go_wp2
      clear hy0 hy1 hy2 hy3 hy4 hy5 hy6 hnz
      go_loopw [7, 68] (fun v i wr => ∃ k : Nat, v = .int .i64 (cntS (F.blk n) k) ∧ i = .int .i64 k ∧ k ≤ (F.blk n).insts.length ∧ Below wq.heap.size wq wr) (fun _ i _ => (F.blk n).insts.length - (intOf i).toNat)
      case atStart => exact ⟨0, by simp [cntS], rfl, Nat.zero_le _, BL_alloc _ _⟩
      case round => as_aux_lemma =>
       obtain ⟨k, rfl, rfl, hk, hbk⟩ := hrel
       have hBi := HBR.out.trans (hbk.mono HBR.out.size)
       have hcl := cntS_le (b := F.blk n) (k := k)
       have hfl := List.length_filter_le staysI (F.blk n).insts
       by_cases hkl : k < (F.blk n).insts.length
       · as_aux_lemma =>
         obtain ⟨bp, op, A6, c6, rfl, hbp, hp0, hp1, hp2, hp3, l6, k6, r6⟩ := r4.inst hBi hkl
         obtain ⟨o0, o1⟩ := HOP.out n hlt _ (mem_of_Inst hkl)
         obtain ⟨o, ho⟩ : ∃ o : Nat, ((F.blk n).inst k).op = (o : Int) := ⟨((F.blk n).inst k).op.toNat, ZO⟩
         have hst : staysI ((F.blk n).inst k) = staysB o := by unfold staysI; rw [ho, Int.toNat_natCast]
         have ho27 : o < 27 := by omega
         have hso := fun w => refStays_calls (w := w) o ((F.blk n).inst k).dst ((F.blk n).inst k).num A6 ((F.blk n).inst k).args.length c6 ho27
         rw [ho] at hp0
         have HBX := Lib.hid (BL_alloc wr (.cells #[.int .i64 (o : Int), .int .i64 ((F.blk n).inst k).dst, .slice A6 ((F.blk n).inst k).args.length c6, .int .i64 ((F.blk n).inst k).num] 55))
         have HY := Lib.hid (cntS_yes hkl)
         have HN := Lib.hid (cntS_no hkl)
         unfold Len at l6
         cases hs : staysB o
         · as_aux_lemma =>
           rw [hs] at hso hst
           have HC := Lib.hid (HN.out hst)
           clear hs hst ho
           go_wp2_with fail
           refine (hso _).mono ?_
           rintro e wv ⟨rfl, hbv⟩
           have HBV := Lib.hid (HBX.out.trans (hbv.mono HBX.out.size))
           clear hbv
           go_wp2
           go_roundw
           case rel => exact ⟨k + 1, by rw [HC.out], ZN, ZO, hbk.trans (HBV.out.mono hbk.size)⟩
           case measure => simp [intOf]; omega
         · as_aux_lemma =>
           rw [hs] at hso hst
           have HC := Lib.hid (HY.out hst)
           clear hs hst ho
           go_wp2_with fail
           refine (hso _).mono ?_
           rintro e wv ⟨rfl, hbv⟩
           have HBV := Lib.hid (HBX.out.trans (hbv.mono HBX.out.size))
           clear hbv
           go_wp2
           go_roundw
           case rel => exact ⟨k + 1, by rw [HC.out]; go_num, ZN, ZO, hbk.trans (HBV.out.mono hbk.size)⟩
           case measure => simp [intOf]; omega
       · as_aux_lemma =>
         obtain rfl : k = (F.blk n).insts.length := by omega
         have hWi := HWR.out.trans (hbk.mono HWR.out.size)
         have hgi := HGR.out.below hbk HGR.out.lt
         have HBG := Lib.hid (show (((SwF (ndL F) F).blk n).insts.filter staysI).length = cntS (F.blk n) (F.blk n).insts.length by rw [cntS_end, sw_blkAt, HSS.out])
         have HOG := Lib.hid (fun x hx => inst_op ((shaped_blk (typed_shaped (sw_typed (l := ndL F) HX3.out.2)) (n := n) (by rw [sw_len]; exact hlt)).2.1 x hx))
         obtain ⟨gb, goff, G3, f3, G4, f4, rfl, hgb, -, -, -, hz2, -, -, -, -, -, -, -, -, -, s4⟩ := HS2.out.blk hWi (i := n) (by rw [sw_len]; exact hlt)
         have hgpl : ((SwF (ndL F) F).blk n).insts.length ≤ 100000 := by rw [sw_blkAt]; exact Nat.le_trans (List.length_filter_le _ _) hpn.2
         generalize (SwF (ndL F) F).blk n = bG at *
         have z2 := hgi.cell 2
         have zl := hgi.lt
         simp at z2
         have hnz : (n : Int) < (F.blocks.length : Int) := by omega
         have HBK2 := Lib.hid hbk
         have htot : cntS (F.blk n) (F.blk n).insts.length ≤ 100000 := by omega
         have hgl4 := (List.length_filter_le staysI bG.insts)
         have HGP := Lib.hid hgpl
         generalize cntS (F.blk n) (F.blk n).insts.length = tot at *
         obtain ⟨wi, rfl⟩ : ∃ wi : World, wi = wr := ⟨_, rfl⟩
         clear hgi hbk hcl hfl
         go_wp2
         clear z2 zl hz2
         go_loopw [7, 84] (fun v i wr => ∃ k r : Nat, v = .int .i64 r ∧ r + cntS bG k = tot ∧ i = .int .i64 k ∧ k ≤ bG.insts.length ∧ Below wi.heap.size wi wr) (fun _ i _ => bG.insts.length - (intOf i).toNat)
         case atStart => exact ⟨0, tot, rfl, by simp [cntS], rfl, Nat.zero_le _, Below.refl _ _⟩
         case round => as_aux_lemma =>
          obtain ⟨k, r, rfl, hrt, rfl, hk, hbk⟩ := hrel
          have hWk := hWi.trans (hbk.mono hWi.size)
          have HGP2 := HGP.out
          by_cases hkl : k < bG.insts.length
          · as_aux_lemma =>
            obtain ⟨bp, op, A6, c6, rfl, hbp, hp0, hp1, hp2, hp3, l6, k6, r6⟩ := s4.inst hWk hkl
            obtain ⟨o0, o1⟩ := HOG.out _ (mem_of_Inst hkl)
            obtain ⟨o, ho⟩ : ∃ o : Nat, (bG.inst k).op = (o : Int) := ⟨(bG.inst k).op.toNat, ZO⟩
            have hst : staysI (bG.inst k) = staysB o := by unfold staysI; rw [ho, Int.toNat_natCast]
            have ho27 : o < 27 := by omega
            have hso := fun w => refStays_calls (w := w) o (bG.inst k).dst (bG.inst k).num A6 (bG.inst k).args.length c6 ho27
            rw [ho] at hp0
            have HBX := Lib.hid (BL_alloc wr (.cells #[.int .i64 (o : Int), .int .i64 (bG.inst k).dst, .slice A6 (bG.inst k).args.length c6, .int .i64 (bG.inst k).num] 55))
            have HY := Lib.hid (cntS_yes hkl)
            have HN := Lib.hid (cntS_no hkl)
            unfold Len at l6
            cases hs : staysB o
            · as_aux_lemma =>
              rw [hs] at hso hst
              have HC := Lib.hid (HN.out hst)
              clear hs hst ho
              go_wp2_with fail
              refine (hso _).mono ?_
              rintro e wv ⟨rfl, hbv⟩
              have HBV := Lib.hid (HBX.out.trans (hbv.mono HBX.out.size))
              clear hbv
              go_wp2
              go_roundw
              case rel => exact ⟨k + 1, r, rfl, by rw [HC.out]; exact hrt, ZN, ZO, hbk.trans (HBV.out.mono hbk.size)⟩
              case measure => simp [intOf]; omega
            · as_aux_lemma =>
              rw [hs] at hso hst
              have HC := Lib.hid (HY.out hst)
              have hle := cntS_le (b := bG) (k := k + 1)
              rw [HBG.out, HC.out] at hle
              obtain ⟨r', rfl⟩ : ∃ r', r = r' + 1 := ⟨r - 1, ZO⟩
              have hrb : r' ≤ 100000 := by omega
              clear hs hst ho
              go_wp2_with fail
              refine (hso _).mono ?_
              rintro e wv ⟨rfl, hbv⟩
              have HBV := Lib.hid (HBX.out.trans (hbv.mono HBX.out.size))
              clear hbv
              go_wp2
              go_roundw
              case rel => exact ⟨k + 1, r', ZN, by rw [HC.out]; omega, ZN, ZO, hbk.trans (HBV.out.mono hbk.size)⟩
              case measure => simp [intOf]; omega
          · as_aux_lemma =>
            obtain rfl : k = bG.insts.length := by omega
            rw [cntS_end, HBG.out] at hrt
            obtain rfl : r = 0 := by omega
            go_wp2
            go_roundw
            case rel => exact ⟨n + 1, ZN, ZO, hb.trans ((HBK2.out.trans (hbk.mono HBK2.out.size)).mono hb.size)⟩
            case measure => simp [intOf]; omega
    · as_aux_lemma =>
      obtain rfl : n = F.blocks.length := by omega
      have g0 := hgr.cell 0
      have g1 := hgr.cell 1
      have g2 := hgr.cell 2
      have gl := hgr.lt
      simp at g0 g1 g2
      go_wp2_with fail
      refine (hs2 _ hWr).mono ?_
      rintro e wa ⟨⟨h, -⟩ | ⟨-, va, rfl, hGa⟩, hba⟩
      · cases h
      have hsm := fun (w' : World) (h : Below wa.heap.size wa w') => same_calls (HG.out.keep (Kept.of_below (hWr.trans (hba.mono hWr.size))) (hWr.trans (hba.mono hWr.size)).size) hGa h
      obtain ⟨C0, m0, C1, m1, C2, m2, rfl, -⟩ := id hGa.open_
      have e0 : (SwF (ndL F) F).vars.length = F.vars.length := rfl
      have e1 : (SwF (ndL F) F).params.length = F.params.length := rfl
      have e2 : (SwF (ndL F) F).blocks.length = F.blocks.length := sw_len
      rw [e0, e1, e2] at hsm ⊢
      clear e0 e1 e2
      have hga := hgr.below hba hgr.lt
      have hBa := hBr.trans (hba.mono hBr.size)
      clear g0 g1 g2 gl
      have g0 := hga.cell 0
      have g1 := hga.cell 1
      have g2 := hga.cell 2
      have gl := hga.lt
      simp at g0 g1 g2
      have HBLA := Lib.hid (BL_alloc wa (.cells #[.slice C0 F.vars.length m0, .slice C1 F.params.length m1, .slice C2 F.blocks.length m2] 26))
      clear hba hga hGa
      go_wp2_with fail
      refine (hsm _ HBLA.out).mono ?_
      rintro e wc ⟨rfl, hbc⟩
      have HF := Lib.hid (hBa.trans ((HBLA.out.trans (hbc.mono HBLA.out.size)).mono hBa.size))
      clear hbc
      go_wp2
      go_ret
      exact ⟨rfl, HF.out⟩
 · as_aux_lemma =>
   rw [hY] at hpl
   rw [HPP.out hY] at hpg
   clear hY
   go_wp2_with fail
   refine (hpl _ hB8).mono ?_
   rintro e w9 ⟨rfl, hb9⟩
   have hx9 := hx8.below hb9 hx8.lt
   have hg9 := hg8.below hb9 hg8.lt
   have hB9 := hB8.trans (hb9.mono hB8.size)
   have hw9 := hw8.trans (hb9.mono hw8.size)
   clear q0 q1 q2 ql
   clear g0 g1 g2 gl
   have q0 := hx9.cell 0
   have q1 := hx9.cell 1
   have q2 := hx9.cell 2
   have ql := hx9.lt
   simp at q0 q1 q2
   have g0 := hg9.cell 0
   have g1 := hg9.cell 1
   have g2 := hg9.cell 2
   have gl := hg9.lt
   simp at g0 g1 g2
   clear hb9 hx8 hg8 hB8 hw8
   go_wp2_with fail
   refine (hpg _ hw9).mono ?_
   rintro e w10 ⟨rfl, hb10⟩
   have hx10 := hx9.below hb10 hx9.lt
   have hg10 := hg9.below hb10 hg9.lt
   have hB10 := hB9.trans (hb10.mono hB9.size)
   have hw10 := hw9.trans (hb10.mono hw9.size)
   clear q0 q1 q2 ql
   clear g0 g1 g2 gl
   have q0 := hx10.cell 0
   have q1 := hx10.cell 1
   have q2 := hx10.cell 2
   have ql := hx10.lt
   simp at q0 q1 q2
   have g0 := hg10.cell 0
   have g1 := hg10.cell 1
   have g2 := hg10.cell 2
   have gl := hg10.lt
   simp at g0 g1 g2
   clear hb10 hx9 hg9 hB9 hw9
   go_wp2_with fail
   clear q0 q1 q2 ql g0 g1 g2 gl
   have HXK := Lib.hid hx10
   have HGK := Lib.hid hg10
   have HBK := Lib.hid hB10
   have HWK := Lib.hid hw10
   have hs5 := hw10.size
   clear hx10 hg10 hB10 hw10 hpl hpg hty hsg
   go_loopw [60] (fun x wr => ∃ n : Nat, x = .int .i64 n ∧ n ≤ F.blocks.length ∧ Below w10.heap.size w10 wr) (fun x _ => F.blocks.length - (intOf x).toNat)
   case atStart => exact ⟨0, rfl, Nat.zero_le _, Below.refl _ _⟩
   case round => as_aux_lemma =>
    obtain ⟨n, rfl, hn, hb⟩ := hrel
    have hBr := HBK.out.trans (hb.mono HBK.out.size)
    have hWr := HWK.out.trans (hb.mono HWK.out.size)
    have hxr := HXK.out.below hb HXK.out.lt
    have hgr := HGK.out.below hb HGK.out.lt
    by_cases hlt : n < F.blocks.length
    · as_aux_lemma =>
      obtain ⟨bb, off, A3, c3, A4, c4, rfl, hbb, hnz, hy0, hy1, hy2, hy3, hy4, hy5, hy6, l3, l4, k3, k4, r3, r4⟩ := r2.blk hBr hlt
      have hpn := HBN.out.parts _ (mem_of_blk hlt)
      have hss := sw_stays (l := ndL F) (b := F.blk n)
      have HSS := Lib.hid hss
      unfold Len at l3 l4
      obtain ⟨wq, rfl⟩ : ∃ wq : World, wq = wr := ⟨_, rfl⟩
      have HGR := Lib.hid hgr
      have HBR := Lib.hid hBr
      have HWR := Lib.hid hWr
      clear hxr hgr hss r3
      go_wp2
      clear hy0 hy1 hy2 hy3 hy4 hy5 hy6 hnz
      go_loopw [7, 68] (fun v i wr => ∃ k : Nat, v = .int .i64 (cntS (F.blk n) k) ∧ i = .int .i64 k ∧ k ≤ (F.blk n).insts.length ∧ Below wq.heap.size wq wr) (fun _ i _ => (F.blk n).insts.length - (intOf i).toNat)
      case atStart => exact ⟨0, by simp [cntS], rfl, Nat.zero_le _, BL_alloc _ _⟩
      case round => as_aux_lemma =>
       obtain ⟨k, rfl, rfl, hk, hbk⟩ := hrel
       have hBi := HBR.out.trans (hbk.mono HBR.out.size)
       have hcl := cntS_le (b := F.blk n) (k := k)
       have hfl := List.length_filter_le staysI (F.blk n).insts
       by_cases hkl : k < (F.blk n).insts.length
       · as_aux_lemma =>
         obtain ⟨bp, op, A6, c6, rfl, hbp, hp0, hp1, hp2, hp3, l6, k6, r6⟩ := r4.inst hBi hkl
         obtain ⟨o0, o1⟩ := HOP.out n hlt _ (mem_of_Inst hkl)
         obtain ⟨o, ho⟩ : ∃ o : Nat, ((F.blk n).inst k).op = (o : Int) := ⟨((F.blk n).inst k).op.toNat, ZO⟩
         have hst : staysI ((F.blk n).inst k) = staysB o := by unfold staysI; rw [ho, Int.toNat_natCast]
         have ho27 : o < 27 := by omega
         have hso := fun w => refStays_calls (w := w) o ((F.blk n).inst k).dst ((F.blk n).inst k).num A6 ((F.blk n).inst k).args.length c6 ho27
         rw [ho] at hp0
         have HBX := Lib.hid (BL_alloc wr (.cells #[.int .i64 (o : Int), .int .i64 ((F.blk n).inst k).dst, .slice A6 ((F.blk n).inst k).args.length c6, .int .i64 ((F.blk n).inst k).num] 55))
         have HY := Lib.hid (cntS_yes hkl)
         have HN := Lib.hid (cntS_no hkl)
         unfold Len at l6
         cases hs : staysB o
         · as_aux_lemma =>
           rw [hs] at hso hst
           have HC := Lib.hid (HN.out hst)
           clear hs hst ho
           go_wp2_with fail
           refine (hso _).mono ?_
           rintro e wv ⟨rfl, hbv⟩
           have HBV := Lib.hid (HBX.out.trans (hbv.mono HBX.out.size))
           clear hbv
           go_wp2
           go_roundw
           case rel => exact ⟨k + 1, by rw [HC.out], ZN, ZO, hbk.trans (HBV.out.mono hbk.size)⟩
           case measure => simp [intOf]; omega
         · as_aux_lemma =>
           rw [hs] at hso hst
           have HC := Lib.hid (HY.out hst)
           clear hs hst ho
           go_wp2_with fail
           refine (hso _).mono ?_
           rintro e wv ⟨rfl, hbv⟩
           have HBV := Lib.hid (HBX.out.trans (hbv.mono HBX.out.size))
           clear hbv
           go_wp2
           go_roundw
           case rel => exact ⟨k + 1, by rw [HC.out]; go_num, ZN, ZO, hbk.trans (HBV.out.mono hbk.size)⟩
           case measure => simp [intOf]; omega
       · as_aux_lemma =>
         obtain rfl : k = (F.blk n).insts.length := by omega
         have hWi := HWR.out.trans (hbk.mono HWR.out.size)
         have hgi := HGR.out.below hbk HGR.out.lt
         have HBG := Lib.hid (show (((SwF (ndL F) F).blk n).insts.filter staysI).length = cntS (F.blk n) (F.blk n).insts.length by rw [cntS_end, sw_blkAt, HSS.out])
         have HOG := Lib.hid (fun x hx => inst_op ((shaped_blk (typed_shaped (sw_typed (l := ndL F) HX3.out.2)) (n := n) (by rw [sw_len]; exact hlt)).2.1 x hx))
         obtain ⟨gb, goff, G3, f3, G4, f4, rfl, hgb, -, -, -, hz2, -, -, -, -, -, -, -, -, -, s4⟩ := HS2.out.blk hWi (i := n) (by rw [sw_len]; exact hlt)
         have hgpl : ((SwF (ndL F) F).blk n).insts.length ≤ 100000 := by rw [sw_blkAt]; exact Nat.le_trans (List.length_filter_le _ _) hpn.2
         generalize (SwF (ndL F) F).blk n = bG at *
         have z2 := hgi.cell 2
         have zl := hgi.lt
         simp at z2
         have hnz : (n : Int) < (F.blocks.length : Int) := by omega
         have HBK2 := Lib.hid hbk
         have htot : cntS (F.blk n) (F.blk n).insts.length ≤ 100000 := by omega
         have hgl4 := (List.length_filter_le staysI bG.insts)
         have HGP := Lib.hid hgpl
         generalize cntS (F.blk n) (F.blk n).insts.length = tot at *
         obtain ⟨wi, rfl⟩ : ∃ wi : World, wi = wr := ⟨_, rfl⟩
         clear hgi hbk hcl hfl
         go_wp2
         clear z2 zl hz2
         go_loopw [7, 84] (fun v i wr => ∃ k r : Nat, v = .int .i64 r ∧ r + cntS bG k = tot ∧ i = .int .i64 k ∧ k ≤ bG.insts.length ∧ Below wi.heap.size wi wr) (fun _ i _ => bG.insts.length - (intOf i).toNat)
         case atStart => exact ⟨0, tot, rfl, by simp [cntS], rfl, Nat.zero_le _, Below.refl _ _⟩
         case round => as_aux_lemma =>
          obtain ⟨k, r, rfl, hrt, rfl, hk, hbk⟩ := hrel
          have hWk := hWi.trans (hbk.mono hWi.size)
          have HGP2 := HGP.out
          by_cases hkl : k < bG.insts.length
          · as_aux_lemma =>
            obtain ⟨bp, op, A6, c6, rfl, hbp, hp0, hp1, hp2, hp3, l6, k6, r6⟩ := s4.inst hWk hkl
            obtain ⟨o0, o1⟩ := HOG.out _ (mem_of_Inst hkl)
            obtain ⟨o, ho⟩ : ∃ o : Nat, (bG.inst k).op = (o : Int) := ⟨(bG.inst k).op.toNat, ZO⟩
            have hst : staysI (bG.inst k) = staysB o := by unfold staysI; rw [ho, Int.toNat_natCast]
            have ho27 : o < 27 := by omega
            have hso := fun w => refStays_calls (w := w) o (bG.inst k).dst (bG.inst k).num A6 (bG.inst k).args.length c6 ho27
            rw [ho] at hp0
            have HBX := Lib.hid (BL_alloc wr (.cells #[.int .i64 (o : Int), .int .i64 (bG.inst k).dst, .slice A6 (bG.inst k).args.length c6, .int .i64 (bG.inst k).num] 55))
            have HY := Lib.hid (cntS_yes hkl)
            have HN := Lib.hid (cntS_no hkl)
            unfold Len at l6
            cases hs : staysB o
            · as_aux_lemma =>
              rw [hs] at hso hst
              have HC := Lib.hid (HN.out hst)
              clear hs hst ho
              go_wp2_with fail
              refine (hso _).mono ?_
              rintro e wv ⟨rfl, hbv⟩
              have HBV := Lib.hid (HBX.out.trans (hbv.mono HBX.out.size))
              clear hbv
              go_wp2
              go_roundw
              case rel => exact ⟨k + 1, r, rfl, by rw [HC.out]; exact hrt, ZN, ZO, hbk.trans (HBV.out.mono hbk.size)⟩
              case measure => simp [intOf]; omega
            · as_aux_lemma =>
              rw [hs] at hso hst
              have HC := Lib.hid (HY.out hst)
              have hle := cntS_le (b := bG) (k := k + 1)
              rw [HBG.out, HC.out] at hle
              obtain ⟨r', rfl⟩ : ∃ r', r = r' + 1 := ⟨r - 1, ZO⟩
              have hrb : r' ≤ 100000 := by omega
              clear hs hst ho
              go_wp2_with fail
              refine (hso _).mono ?_
              rintro e wv ⟨rfl, hbv⟩
              have HBV := Lib.hid (HBX.out.trans (hbv.mono HBX.out.size))
              clear hbv
              go_wp2
              go_roundw
              case rel => exact ⟨k + 1, r', ZN, by rw [HC.out]; omega, ZN, ZO, hbk.trans (HBV.out.mono hbk.size)⟩
              case measure => simp [intOf]; omega
          · as_aux_lemma =>
            obtain rfl : k = bG.insts.length := by omega
            rw [cntS_end, HBG.out] at hrt
            obtain rfl : r = 0 := by omega
            go_wp2
            go_roundw
            case rel => exact ⟨n + 1, ZN, ZO, hb.trans ((HBK2.out.trans (hbk.mono HBK2.out.size)).mono hb.size)⟩
            case measure => simp [intOf]; omega
    · as_aux_lemma =>
      obtain rfl : n = F.blocks.length := by omega
      have g0 := hgr.cell 0
      have g1 := hgr.cell 1
      have g2 := hgr.cell 2
      have gl := hgr.lt
      simp at g0 g1 g2
      go_wp2_with fail
      refine (hs2 _ hWr).mono ?_
      rintro e wa ⟨⟨h, -⟩ | ⟨-, va, rfl, hGa⟩, hba⟩
      · cases h
      have hsm := fun (w' : World) (h : Below wa.heap.size wa w') => same_calls (HG.out.keep (Kept.of_below (hWr.trans (hba.mono hWr.size))) (hWr.trans (hba.mono hWr.size)).size) hGa h
      obtain ⟨C0, m0, C1, m1, C2, m2, rfl, -⟩ := id hGa.open_
      have e0 : (SwF (ndL F) F).vars.length = F.vars.length := rfl
      have e1 : (SwF (ndL F) F).params.length = F.params.length := rfl
      have e2 : (SwF (ndL F) F).blocks.length = F.blocks.length := sw_len
      rw [e0, e1, e2] at hsm ⊢
      clear e0 e1 e2
      have hga := hgr.below hba hgr.lt
      have hBa := hBr.trans (hba.mono hBr.size)
      clear g0 g1 g2 gl
      have g0 := hga.cell 0
      have g1 := hga.cell 1
      have g2 := hga.cell 2
      have gl := hga.lt
      simp at g0 g1 g2
      have HBLA := Lib.hid (BL_alloc wa (.cells #[.slice C0 F.vars.length m0, .slice C1 F.params.length m1, .slice C2 F.blocks.length m2] 26))
      clear hba hga hGa
      go_wp2_with fail
      refine (hsm _ HBLA.out).mono ?_
      rintro e wc ⟨rfl, hbc⟩
      have HF := Lib.hid (hBa.trans ((HBLA.out.trans (hbc.mono HBLA.out.size)).mono hBa.size))
      clear hbc
      go_wp2
      go_ret
      exact ⟨rfl, HF.out⟩
end Go.Proofs.YtjdkcichkpolgaaGreatDoor
