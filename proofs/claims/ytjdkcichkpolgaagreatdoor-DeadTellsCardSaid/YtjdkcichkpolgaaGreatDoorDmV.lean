/- The walk of the document's Sweep. -/
import Derived.Test.YtjdkcichkpolgaaGreatDoorDmJ
namespace Go.Proofs.YtjdkcichkpolgaaGreatDoor
open Go.RowKit
set_option maxRecDepth 100000
set_option maxHeartbeats 16000000 in
theorem refSweep_calls {W w : World} {fv : Value} {F : PFunc} (hF : FnV W W.heap.size fv F) (hW : Below W.heap.size W w) (hT : typedP F = true) (hN : Bnd F) :
 Calls Tryz.prog 38 #[fv] w fun e w' => (∃ v, e = .returned v ∧ FnV w' w'.heap.size v (SwF (ndL F) F)) ∧ Below w.heap.size w w' := by
 have hnd := fun (w' : World) (h : Below W.heap.size W w') => refNeeded_calls hF h hT
 obtain ⟨A0, c0, A1, c1, A2, c2, rfl, l0, l1, l2, -, -, -, r0, r1, r2⟩ := id hF.open_
 have nv := typed_vars hT
 obtain ⟨n1, n2⟩ := shaped_count (typed_shaped hT)
 have HR := Lib.hid (rngF_of hT)
 have HT := Lib.hid hT
 have HF := Lib.hid hF
 have HNB := Lib.hid hN
 have HOP := Lib.hid (fun i (hi : i < F.blocks.length) => fun x hx => inst_op ((shaped_blk (typed_shaped hT) hi).2.1 x hx))
 clear hT hF r0 r1
 unfold Len at *
 have hWs := hW.size
 have hx0 := BoxAt.new w #[.slice A0 F.vars.length c0, .slice A1 F.params.length c1, .slice A2 F.blocks.length c2] 26
 have HX0 := Lib.hid (hx0.alloc (.cells #[.slice none 0 0, .slice none 0 0, .slice none 0 0] 26))
 have hx1 := BoxAt.new (w.alloc (.cells #[.slice A0 F.vars.length c0, .slice A1 F.params.length c1, .slice A2 F.blocks.length c2] 26)) #[.slice none 0 0, .slice none 0 0, .slice none 0 0] 26
 have hw1 : (w.alloc (.cells #[.slice A0 F.vars.length c0, .slice A1 F.params.length c1, .slice A2 F.blocks.length c2] 26)).heap.size = w.heap.size + 1 := by simp
 rw [hw1] at hx1
 have HX1 := Lib.hid hx1
 have HB0 := Lib.hid ((BL_alloc w (.cells #[.slice A0 F.vars.length c0, .slice A1 F.params.length c1, .slice A2 F.blocks.length c2] 26)).trans ((BL_alloc (w.alloc (.cells #[.slice A0 F.vars.length c0, .slice A1 F.params.length c1, .slice A2 F.blocks.length c2] 26)) (.cells #[.slice none 0 0, .slice none 0 0, .slice none 0 0] 26)).mono ZS))
 clear hx0 hx1
 generalize ndL F = l at hnd ⊢
 go_enter Tryz.func38, Tryz.ntmps38
 go_wp2_with fail
 refine (hnd _ (hW.trans (HB0.out.mono hWs))).mono ?_
 rintro e w3 ⟨gi, rfl, ho3, hb3⟩
 have hx3 := HX0.out.below hb3 HX0.out.lt
 have y3 := HX1.out.below hb3 HX1.out.lt
 have x0 := hx3.cell 0
 have x1 := hx3.cell 1
 have x2 := hx3.cell 2
 have xl := hx3.lt
 simp at x0 x1 x2
 have hB3 := HB0.out.trans (hb3.mono HB0.out.size)
 have hBC3 : BoolC w3 gi F.vars.length l := ⟨(ho3.lt _ rfl).2, fun f hf => own_bool ho3 hf⟩
 have hgw : w.heap.size + 2 ≤ gi := by have := (ho3.lt _ rfl).1; simpa using this
 have hgw3 := hBC3.1
 have HY3 := Lib.hid y3
 have HBC3 := Lib.hid hBC3
 have HB3 := Lib.hid hB3
 clear hx3 y3 hB3 hBC3 ho3 hb3 hnd
 obtain ⟨wA, hwA⟩ : ∃ wA, wA = w3.alloc (.cells #[.slice A0 F.vars.length c0, .slice A1 F.params.length c1, .slice none 0 0] 26) := ⟨_, rfl⟩
 have HWA := Lib.hid hwA
 have HGA := Lib.hid (show BoxAt wA w3.heap.size #[.slice A0 F.vars.length c0, .slice A1 F.params.length c1, .slice none 0 0] 26 by rw [hwA]; exact BoxAt.new _ _ _)
 have hbA : Below w3.heap.size w3 wA := by rw [hwA]; exact BL_alloc _ _
 have HYA := Lib.hid (HY3.out.below hbA HY3.out.lt)
 have HBCA := Lib.hid (HBC3.out.below hbA)
 have HBA := Lib.hid (HB3.out.trans (hbA.mono HB3.out.size))
 have hg3 : w.heap.size + 1 < w3.heap.size := by have := HY3.out.lt; omega
 clear hwA hbA
 go_wp2_with fail
 rw [← HWA.out]
 have hgig : gi < w3.heap.size := hgw3
 clear HWA x0 x1 x2 xl hgw3 HY3 HBC3 HB3 HX0 HX1 HB0
 generalize w3.heap.size = g at *
 go_loopw [19] (fun x wr => ∃ (n : Nat) (vb : Value) (ps : List (PBlock × Value × Value)), x = .int .i64 n ∧ n ≤ F.blocks.length ∧ Hid (ps.map Prod.fst = (F.blocks.take n).map (swBlk l)) ∧ BoxAt wr g #[.slice A0 F.vars.length c0, .slice A1 F.params.length c1, vb] 26 ∧ RRow wr g 52 7 (CBW W wr g) vb ps ∧ BoolC wr gi F.vars.length l ∧ BoxAt wr (w.heap.size + 1) #[.slice none 0 0, .slice none 0 0, .slice none 0 0] 26 ∧ Below w.heap.size w wr) (fun x _ => F.blocks.length - (intOf x).toNat)
 case atStart => exact ⟨0, _, [], rfl, Nat.zero_le _, by simp [Hid], HGA.out, RRow.nil, HBCA.out, HYA.out, HBA.out⟩
 case round => as_aux_lemma =>
  clear HGA HBCA HYA HBA
  obtain ⟨n, vb, ps, rfl, hn, HPS, hbx, hR, hbc, hRe, hB⟩ := hrel
  have hWr : Below W.heap.size W wr := hW.trans (hB.mono hWs)
  obtain ⟨Ab, cb, rfl⟩ := hR.form
  by_cases hlt : n < F.blocks.length
  · as_aux_lemma =>
    obtain ⟨bb, off, A3, c3, A4, c4, rfl, hbb, hnz, hy0, hy1, hy2, hy3, hy4, hy5, hy6, l3, l4, k3, k4, r3, r4⟩ := r2.blk hWr hlt
    have hpn := HNB.out.parts _ (mem_of_blk hlt)
    unfold Len at l3 l4
    obtain ⟨wi, rfl⟩ : ∃ wi : World, wi = wr := ⟨_, rfl⟩
    have HBX := Lib.hid hbx
    have HRR := Lib.hid hR
    have HBC := Lib.hid hbc
    have HRE := Lib.hid hRe
    obtain ⟨BC, hBC⟩ : ∃ BC : Array Value, BC = #[.string (F.blk n).name, .slice A3 (F.blk n).phis.length c3, .slice A4 (F.blk n).insts.length c4, .int .i64 (F.blk n).term.kind, .int .i64 (F.blk n).term.var, .int .i64 (F.blk n).term.t0, .int .i64 (F.blk n).term.t1] := ⟨_, rfl⟩
    have HBCQ := Lib.hid hBC
    have hlow : ∀ k', (Value.slice Ab ps.length cb).ownBlock = some k' → k' < wi.heap.size := fun k' e => (hR.lt e).2
    have HLOW := Lib.hid hlow
    have hgw2 := hbx.lt
    have hre2 := hRe.lt
    clear hBC hbx hR hbc hRe hlow
    go_wp2_with fail
    clear hy0 hy1 hy2 hy3 hy4 hy5 hy6
    go_loopw [31] (fun x wr => ∃ (k : Nat) (vph : Value), x = .int .i64 k ∧ k ≤ (F.blk n).phis.length ∧ BoxAt wr wi.heap.size BC 52 ∧
     BoxAt wr (wi.heap.size + 1) #[.string (F.blk n).name, vph, .slice none 0 0, .int .i64 (F.blk n).term.kind, .int .i64 (F.blk n).term.var, .int .i64 (F.blk n).term.t0, .int .i64 (F.blk n).term.t1] 52 ∧
     RRow wr (wi.heap.size + 2) 66 3 (CPhW W) vph (((F.blk n).phis.take k).filter (keepP l)) ∧ Below wi.heap.size wi wr) (fun x _ => (F.blk n).phis.length - (intOf x).toNat)
    case atStart =>
     refine ⟨0, .slice none 0 0, rfl, Nat.zero_le _, ?_, ?_, RRow.nil, ?_⟩
     · rw [HBCQ.out]; exact (BoxAt.new _ _ _).alloc _
     · have h := BoxAt.new (wi.alloc (.cells #[.string (F.blk n).name, .slice A3 (F.blk n).phis.length c3, .slice A4 (F.blk n).insts.length c4, .int .i64 (F.blk n).term.kind, .int .i64 (F.blk n).term.var, .int .i64 (F.blk n).term.t0, .int .i64 (F.blk n).term.t1] 52)) #[.string (F.blk n).name, .slice none 0 0, .slice none 0 0, .int .i64 (F.blk n).term.kind, .int .i64 (F.blk n).term.var, .int .i64 (F.blk n).term.t0, .int .i64 (F.blk n).term.t1] 52
       rw [World.size_alloc] at h
       exact h
     · exact ((Below.refl _ _).alloc (Nat.le_refl _) _).alloc ZS _
    case round => as_aux_lemma =>
     obtain ⟨k, vph, rfl, hk, hbB, hbC, hP, hbi⟩ := hrel
     have hBr : Below w.heap.size w wr := hB.trans (hbi.mono hB.size)
     have hWi : Below W.heap.size W wr := hW.trans (hBr.mono hWs)
     obtain ⟨Ap, cp, rfl⟩ := hP.form
     by_cases hkl : k < (F.blk n).phis.length
     · as_aux_lemma =>
       obtain ⟨bp, op, A5, c5, A6, c6, rfl, hbp, hp0, hp1, hp2, l5, l6, k5, k6, r5, r6⟩ := r3.phi hWi hkl
       obtain ⟨-, ⟨d0, d1⟩, -⟩ := typed_phi HT.out hlt hkl
       obtain ⟨c, hc⟩ : ∃ c : Nat, ((F.blk n).phi k).dst = (c : Int) := ⟨((F.blk n).phi k).dst.toNat, ZO⟩
       have hkp : keepP l ((F.blk n).phi k) = l.getD c false := by unfold keepP; rw [hc, Int.toNat_natCast]
       have HCP := Lib.hid (show CPhW W [.int .i64 (c : Int), .slice A5 ((F.blk n).phi k).args.length c5, .slice A6 ((F.blk n).phi k).froms.length c6] ((F.blk n).phi k) from ⟨_, _, by rw [hc], ⟨_, _, rfl, l5, k5, r5⟩, ⟨_, _, rfl, l6, k6, r6⟩⟩)
       rw [hc] at hp0 d1
       have hcl : c < F.vars.length := by omega
       have hcb := (HBC.out.below hbi).2 c hcl
       have hgl := Nat.lt_of_lt_of_le HBC.out.1 hbi.size
       have hfl := filt_phi_len (b := F.blk n) (k := k) (l := l)
       unfold Len at l5 l6
       cases hbv : l.getD c false
       · as_aux_lemma =>
         rw [hbv] at hcb hkp
         have HE := Lib.hid (filt_phi_no hkl hkp)
         clear hbv hkp hc
         go_wp2
         go_roundw
         case rel => exact ⟨k + 1, _, ZN, ZO, hbB.alloc _, hbC.alloc _, by rw [HE.out]; exact hP.kt (KT.of_below (BL_alloc _ _) (ts := [66])) ZS (fun _ _ h => h), hbi.alloc hbi.size _⟩
         case measure => simp [intOf]; omega
       · as_aux_lemma =>
         rw [hbv] at hcb hkp
         have HE := Lib.hid (filt_phi_yes hkl hkp)
         have hc1 := hbC.cell 1
         simp at hc1
         have hgC := hbC.lt
         have hfC := hbC.frozen 1
         generalize ((F.blk n).phis.take k).filter (keepP l) = ys at *
         generalize (F.blk n).phi k = ph at *
         have hbx9 := BL_alloc wr (.cells #[.int .i64 (c : Int), .slice A5 ph.args.length c5, .slice A6 ph.froms.length c6] 66)
         have hP9 := hP.kt (KT.of_below hbx9 (ts := [66])) ZS (fun _ _ h => h)
         obtain ⟨cells, hO⟩ := hP9.own
         have hob := fun k' (hk' : (Value.slice Ap ys.length cp).ownBlock = some k') => (hP.lt hk').1
         have HOB := Lib.hid hob
         have HP9 := Lib.hid hP9
         have hbC9 := hbC.alloc (.cells #[.int .i64 (c : Int), .slice A5 ph.args.length c5, .slice A6 ph.froms.length c6] 66)
         have hbB9 := Lib.hid (hbB.alloc (.cells #[.int .i64 (c : Int), .slice A5 ph.args.length c5, .slice A6 ph.froms.length c6] 66))
         have HBI := Lib.hid hbi
         have hzi := hbi.size
         clear hbv hkp hc hob hP9 hP hbB hbC hbx9
         go_wp2_with (
          at_builtin; go_loud (refine wpList_appendF _ rfl _ _ 45 rfl (wi.heap.size + 2) 66 3 56 Tryz.underlying45 Tryz.info66 rfl ZD _ ys.length cells rfl hO _ ZS #[.int .i64 (c : Int), .slice A5 ph.args.length c5, .slice A6 ph.froms.length c6] rfl rfl (by intro u hu; simp at hu; rcases hu with rfl | rfl | rfl <;> rfl) ZO ZD ZX ?_)
          intro v' w4 hown3 hg4 hfr3
          obtain ⟨Av, cv, hv3⟩ := own_form hown3
          subst hv3
          have hgg : ((wr.alloc (.cells #[.int .i64 (c : Int), .slice A5 ph.args.length c5, .slice A6 ph.froms.length c6] 66)).alloc (.cells #[.int .i64 (c : Int), .slice A5 ph.args.length c5, .slice A6 ph.froms.length c6] 66)).grownBy w4 (Value.slice Ap ys.length cp).ownBlock := hg4
          clear hg4
          have hz3 := hgg.size
          simp at hz3
          have hbC3 := (hbC9.alloc _).grown hgg (fun e => by have := HOB.out _ e; omega)
          have t3 := hbC3.cell 1
          simp at t3
          have t3f := hbC3.frozen 1
          have t3l := hbC3.lt)
         go_roundw
         case rel =>
          refine ⟨k + 1, .slice Av (ys.length + 1) cv, ZN, ZO, ?_, ?_, ?_, ?_⟩
          · exact ((hbB9.out.alloc _).grown hgg (fun e => by have := HOB.out _ e; omega)).other (p := ⟨wi.heap.size + 1, 1, none⟩) ZS (.slice Av (ys.length + 1) cv)
          · simpa using hbC3.set 1 (.slice Av (ys.length + 1) cv)
          · rw [HE.out]
            exact RRow.snoc (cs := [.int .i64 (c : Int), .slice A5 ph.args.length c5, .slice A6 ph.froms.length c6]) HP9.out hO (ownsRow_setCell_other hown3 (fun e => by have := (own_lt hown3 e).1; simp at this) _) rfl (fun _ _ h => h) HCP.out
          · exact (((HBI.out.alloc hzi _).alloc ZX _).grown hgg ZX (fun k' hk' => by have := HOB.out k' hk'; omega)).setCell ZS _
         case measure => simp [intOf]; omega
     · as_aux_lemma =>
       obtain rfl : k = (F.blk n).phis.length := by omega
       rw [List.take_length] at hP hbC
       have x2 := hbB.cell 2
       have xl := hbB.lt
       rw [HBCQ.out] at x2
       replace x2 : wr.cell? ⟨wi.heap.size, 2, none⟩ = some (.slice A4 (F.blk n).insts.length c4) := x2
       have HPP := Lib.hid hP
       clear hk hkl hP
       go_wp2_with fail
       clear x2 xl
       replace HPP := HPP.out
       go_loopw [50] (fun x wr => ∃ (k : Nat) (vin : Value), x = .int .i64 k ∧ k ≤ (F.blk n).insts.length ∧
        BoxAt wr (wi.heap.size + 1) #[.string (F.blk n).name, (.slice Ap ((F.blk n).phis.filter (keepP l)).length cp), vin, .int .i64 (F.blk n).term.kind, .int .i64 (F.blk n).term.var, .int .i64 (F.blk n).term.t0, .int .i64 (F.blk n).term.t1] 52 ∧
        RRow wr (wi.heap.size + 2) 66 3 (CPhW W) (.slice Ap ((F.blk n).phis.filter (keepP l)).length cp) ((F.blk n).phis.filter (keepP l)) ∧ RRow wr (wi.heap.size + 2) 55 4 (CInW W) vin (((F.blk n).insts.take k).filter (keepI l)) ∧ Below wi.heap.size wi wr) (fun x _ => (F.blk n).insts.length - (intOf x).toNat)
       case atStart => exact ⟨0, _, rfl, Nat.zero_le _, hbC, HPP, RRow.nil, hbi⟩
       case round => as_aux_lemma =>
        clear HPP hbC hbi hbB hBr hWi
        obtain ⟨k, vin, rfl, hk, hbC, hP, hJ, hbi⟩ := hrel
        have hBr : Below w.heap.size w wr := hB.trans (hbi.mono hB.size)
        have hWi : Below W.heap.size W wr := hW.trans (hBr.mono hWs)
        obtain ⟨Ai, ci, rfl⟩ := hJ.form
        by_cases hkl : k < (F.blk n).insts.length
        · as_aux_lemma =>
          obtain ⟨bp, op, A6, c6, rfl, hbp, hp0, hp1, hp2, hp3, l6, k6, r6⟩ := r4.inst hWi hkl
          obtain ⟨o0, o1⟩ := HOP.out n hlt _ (mem_of_Inst hkl)
          obtain ⟨o, ho⟩ : ∃ o : Nat, ((F.blk n).inst k).op = (o : Int) := ⟨((F.blk n).inst k).op.toNat, ZO⟩
          have ho27 : o < 27 := by omega
          have hst : staysI ((F.blk n).inst k) = staysB o := by unfold staysI; rw [ho, Int.toNat_natCast]
          have hkp : keepI l ((F.blk n).inst k) = (staysB o || l.getD ((F.blk n).inst k).dst.toNat false) := by unfold keepI; rw [hst]
          have HDR := Lib.hid (fun (hs : staysB o = false) => (HR.out.it (((F.blk n).inst k).dst, ((F.blk n).inst k).args) (List.mem_flatMap.2 ⟨_, mem_of_blk hlt, List.mem_append_right _ (List.mem_map.2 ⟨_, List.mem_filter.2 ⟨mem_of_Inst hkl, by rw [hst, hs]; rfl⟩, rfl⟩)⟩)).1)
          have HYES := Lib.hid (filt_inst_yes (l := l) hkl)
          have HNO := Lib.hid (filt_inst_no (l := l) hkl)
          have hfl := filt_inst_len (b := F.blk n) (k := k) (l := l)
          have hso := fun w => refStays_calls (w := w) o ((F.blk n).inst k).dst ((F.blk n).inst k).num A6 ((F.blk n).inst k).args.length c6 ho27
          have HCP := Lib.hid (show CInW W [.int .i64 (o : Int), .int .i64 ((F.blk n).inst k).dst, .slice A6 ((F.blk n).inst k).args.length c6, .int .i64 ((F.blk n).inst k).num] ((F.blk n).inst k) from ⟨_, by rw [ho], _, _, rfl, l6, k6, r6⟩)
          rw [ho] at hp0
          clear hst ho r6
          generalize ((F.blk n).insts.take k).filter (keepI l) = ys at *
          generalize (F.blk n).inst k = xi at *
          have hxx := BoxAt.new wr #[.int .i64 (o : Int), .int .i64 xi.dst, .slice A6 xi.args.length c6, .int .i64 xi.num] 55
          have HXX := Lib.hid hxx
          have HBX1 := Lib.hid (BL_alloc wr (.cells #[.int .i64 (o : Int), .int .i64 xi.dst, .slice A6 xi.args.length c6, .int .i64 xi.num] 55))
          have HPI := Lib.hid hP
          have HJI := Lib.hid hJ
          have HCI := Lib.hid hbC
          have HII := Lib.hid hbi
          unfold Len at l6
          clear hxx hP hJ hbC hbi
          cases hs : staysB o
          · as_aux_lemma =>
            rw [hs] at hso hkp
            obtain ⟨d0, d1⟩ := HDR.out hs
            obtain ⟨c, hc⟩ : ∃ c : Nat, xi.dst = (c : Int) := ⟨xi.dst.toNat, by
             have : (0 : Int) ≤ xi.dst := d0
             omega⟩
            have hcl : c < F.vars.length := by
             have : xi.dst < F.vars.length := d1
             omega
            rw [hc, Int.toNat_natCast, Bool.false_or] at hkp
            rw [hc] at hso hp1 HXX HBX1 HCP
            clear hs d0 d1 hc
            go_wp2_with fail
            refine (hso _).mono ?_
            rintro e w9 ⟨rfl, hb9⟩
            have hx9 := HXX.out.below hb9 HXX.out.lt
            have z0 := hx9.cell 0
            have z1 := hx9.cell 1
            have z2 := hx9.cell 2
            have z3 := hx9.cell 3
            have zl := hx9.lt
            simp only [List.getElem?_toArray, List.getElem?_cons_zero, List.getElem?_cons_succ] at z0 z1 z2 z3
            have hb99 := HBX1.out.trans (hb9.mono HBX1.out.size)
            have hcb := ((HBC.out.below HII.out).below hb99).2 c hcl
            have hgl := Nat.lt_of_lt_of_le (Nat.lt_of_lt_of_le HBC.out.1 HII.out.size) hb99.size
            have hJ := HJI.out
            have hP := HPI.out
            have hbC := HCI.out
            have hbi := HII.out
            clear hb9 hx9 hso hp0 hp1 hp2 hp3
            cases hbv : l.getD c false
            · as_aux_lemma =>
              rw [hbv] at hcb hkp
              have HE := Lib.hid (HNO.out hkp)
              have HB99 := Lib.hid hb99
              clear hbv hkp hb99 hJ hP hbC hbi
              go_wp2
              go_roundw
              case rel => exact ⟨k + 1, _, ZN, ZO, HCI.out.below HB99.out HCI.out.lt, HPI.out.kt (KT.of_below HB99.out (ts := [66])) ZS (fun _ _ h => h), by rw [HE.out]; exact HJI.out.kt (KT.of_below HB99.out (ts := [55])) ZS (fun _ _ h => h), HII.out.trans (HB99.out.mono HII.out.size)⟩
              case measure => simp [intOf]; omega
            · as_aux_lemma =>
              rw [hbv] at hcb hkp
              have HE := Lib.hid (HYES.out hkp)
              clear hbv hkp
              have hJ9 := hJ.kt (KT.of_below hb99 (ts := [55])) ZS (fun _ _ h => h)
              have hP9 := hP.kt (KT.of_below hb99 (ts := [66])) ZS (fun _ _ h => h)
              obtain ⟨cells, hO⟩ := hJ9.own
              have hob := fun k' (hk' : (Value.slice Ai ys.length ci).ownBlock = some k') => (hJ.lt hk').1
              have hc1 := (hbC.below hb99 hbC.lt).cell 2
              simp at hc1
              have hgC := (hbC.below hb99 hbC.lt).lt
              have hfC := (hbC.below hb99 hbC.lt).frozen 2
              have hbC9 := hbC.below hb99 hbC.lt
              have HOB := Lib.hid hob
              have HP9 := Lib.hid hP9
              have HJ9 := Lib.hid hJ9
              have HBI := Lib.hid (hbi.trans (hb99.mono hbi.size))
              have hzi : wi.heap.size ≤ w9.heap.size := (hbi.trans (hb99.mono hbi.size)).size
              clear hob hJ9 hP9 hP hJ hbC hb99 hbi
              go_wp2_with (
               at_builtin; go_loud (refine wpList_appendF _ rfl _ _ 46 rfl (wi.heap.size + 2) 55 4 48 Tryz.underlying46 Tryz.info55 rfl ZD _ ys.length cells rfl hO _ (by first | rfl | simp) #[.int .i64 (o : Int), .int .i64 (c : Int), .slice A6 xi.args.length c6, .int .i64 xi.num] rfl rfl (by intro u hu; simp at hu; rcases hu with rfl | rfl | rfl | rfl <;> rfl) ZO ZD (by first | omega | (simp; omega)) ?_)
               intro v' w4 hown3 hg4 hfr3
               obtain ⟨Av, cv, hv3⟩ := own_form hown3
               subst hv3
               have hgg : (w9.alloc (.cells #[.int .i64 (o : Int), .int .i64 (c : Int), .slice A6 xi.args.length c6, .int .i64 xi.num] 55)).grownBy w4 (Value.slice Ai ys.length ci).ownBlock := hg4
               clear hg4
               have hz3 := hgg.size
               simp at hz3
               have hbC3 := (hbC9.alloc _).grown hgg (fun e => by have := HOB.out _ e; omega)
               have t3 := hbC3.cell 2
               simp at t3
               have t3f := hbC3.frozen 2
               have t3l := hbC3.lt)
              go_roundw
              case rel =>
               have hKf : KT [66] w9 (w4.setCell ⟨wi.heap.size + 1, 2, none⟩ (.slice Av (ys.length + 1) cv)) := ((KT.refl.alloc _).grown (hO.alloc _) ZS hgg).setCell hbC3 ZS _
               refine ⟨k + 1, .slice Av (ys.length + 1) cv, ZN, ZO, ?_, HP9.out.kt hKf ZS (fun _ _ h => h), ?_, ?_⟩
               · simpa using hbC3.set 2 (.slice Av (ys.length + 1) cv)
               · rw [HE.out]
                 exact RRow.snoc (cs := [.int .i64 (o : Int), .int .i64 (c : Int), .slice A6 xi.args.length c6, .int .i64 xi.num]) HJ9.out hO (ownsRow_setCell_other hown3 (fun e => by have := (own_lt hown3 e).1; simp at this) _) rfl (fun _ _ h => h) HCP.out
               · exact ((HBI.out.alloc hzi _).grown hgg ZX (fun k' hk' => by have := HOB.out k' hk'; omega)).setCell ZS _
              case measure => simp [intOf]; omega
          · as_aux_lemma =>
            rw [hs] at hso hkp
            have HE := Lib.hid (HYES.out hkp)
            clear hs hkp
            go_wp2_with fail
            refine (hso _).mono ?_
            rintro e w9 ⟨rfl, hb9⟩
            have hx9 := HXX.out.below hb9 HXX.out.lt
            have z0 := hx9.cell 0
            have z1 := hx9.cell 1
            have z2 := hx9.cell 2
            have z3 := hx9.cell 3
            have zl := hx9.lt
            simp only [List.getElem?_toArray, List.getElem?_cons_zero, List.getElem?_cons_succ] at z0 z1 z2 z3
            have hb99 := HBX1.out.trans (hb9.mono HBX1.out.size)
            have hJ := HJI.out
            have hP := HPI.out
            have hbC := HCI.out
            have hbi := HII.out
            clear hb9 hx9 hso hp0 hp1 hp2 hp3
            have hJ9 := hJ.kt (KT.of_below hb99 (ts := [55])) ZS (fun _ _ h => h)
            have hP9 := hP.kt (KT.of_below hb99 (ts := [66])) ZS (fun _ _ h => h)
            obtain ⟨cells, hO⟩ := hJ9.own
            have hob := fun k' (hk' : (Value.slice Ai ys.length ci).ownBlock = some k') => (hJ.lt hk').1
            have hc1 := (hbC.below hb99 hbC.lt).cell 2
            simp at hc1
            have hgC := (hbC.below hb99 hbC.lt).lt
            have hfC := (hbC.below hb99 hbC.lt).frozen 2
            have hbC9 := hbC.below hb99 hbC.lt
            have HOB := Lib.hid hob
            have HP9 := Lib.hid hP9
            have HJ9 := Lib.hid hJ9
            have HBI := Lib.hid (hbi.trans (hb99.mono hbi.size))
            have hzi : wi.heap.size ≤ w9.heap.size := (hbi.trans (hb99.mono hbi.size)).size
            clear hob hJ9 hP9 hP hJ hbC hb99 hbi
            go_wp2_with (
             at_builtin; go_loud (refine wpList_appendF _ rfl _ _ 46 rfl (wi.heap.size + 2) 55 4 48 Tryz.underlying46 Tryz.info55 rfl ZD _ ys.length cells rfl hO _ (by first | rfl | simp) #[.int .i64 (o : Int), .int .i64 xi.dst, .slice A6 xi.args.length c6, .int .i64 xi.num] rfl rfl (by intro u hu; simp at hu; rcases hu with rfl | rfl | rfl | rfl <;> rfl) ZO ZD (by first | omega | (simp; omega)) ?_)
             intro v' w4 hown3 hg4 hfr3
             obtain ⟨Av, cv, hv3⟩ := own_form hown3
             subst hv3
             have hgg : (w9.alloc (.cells #[.int .i64 (o : Int), .int .i64 xi.dst, .slice A6 xi.args.length c6, .int .i64 xi.num] 55)).grownBy w4 (Value.slice Ai ys.length ci).ownBlock := hg4
             clear hg4
             have hz3 := hgg.size
             simp at hz3
             have hbC3 := (hbC9.alloc _).grown hgg (fun e => by have := HOB.out _ e; omega)
             have t3 := hbC3.cell 2
             simp at t3
             have t3f := hbC3.frozen 2
             have t3l := hbC3.lt)
            go_roundw
            case rel =>
             have hKf : KT [66] w9 (w4.setCell ⟨wi.heap.size + 1, 2, none⟩ (.slice Av (ys.length + 1) cv)) := ((KT.refl.alloc _).grown (hO.alloc _) ZS hgg).setCell hbC3 ZS _
             refine ⟨k + 1, .slice Av (ys.length + 1) cv, ZN, ZO, ?_, HP9.out.kt hKf ZS (fun _ _ h => h), ?_, ?_⟩
             · simpa using hbC3.set 2 (.slice Av (ys.length + 1) cv)
             · rw [HE.out]
               exact RRow.snoc (cs := [.int .i64 (o : Int), .int .i64 xi.dst, .slice A6 xi.args.length c6, .int .i64 xi.num]) HJ9.out hO (ownsRow_setCell_other hown3 (fun e => by have := (own_lt hown3 e).1; simp at this) _) rfl (fun _ _ h => h) HCP.out
             · exact ((HBI.out.alloc hzi _).grown hgg ZX (fun k' hk' => by have := HOB.out k' hk'; omega)).setCell ZS _
            case measure => simp [intOf]; omega
        · as_aux_lemma =>
          obtain rfl : k = (F.blk n).insts.length := by omega
          rw [List.take_length] at hJ hbC
          have hgo := HBX.out.below hbi hgw2
          have o2 := hgo.cell 2
          have ogl := hgo.lt
          simp at o2
          have hgC := hbC.lt
          have hKr : KT [66, 55, 52] wi wr := KT.of_below hbi
          have hRr : RRow wr g 52 7 (CBW W wr g) (.slice Ab ps.length cb) ps := HRR.out.kt hKr ZS (fun _ _ h => CBW.kt hKr ZS ZS h)
          obtain ⟨cells, hOb⟩ := hRr.own
          have hpl : ps.length = n := by have := congrArg List.length HPS.out; simpa [Nat.min_eq_left hn] using this
          have hob := fun k' (hk' : (Value.slice Ab ps.length cb).ownBlock = some k') => (HRR.out.lt hk').1
          have HOB := Lib.hid hob
          have HRB := Lib.hid hRr
          have HPH := Lib.hid hP
          have HIN := Lib.hid hJ
          have HBCC := Lib.hid (HBC.out.below hbi)
          have HREE := Lib.hid (HRE.out.below hbi hre2)
          have HBI := Lib.hid hBr
          have hzb := hBr.size
          have HBS := Lib.hid hbi.size
          have hple : ps.length ≤ 64 := by omega
          have hcR : wr.rangeAt (wi.heap.size + 1) 0 ([.string (F.blk n).name, .slice Ap ((F.blk n).phis.filter (keepP l)).length cp, .slice Ai ((F.blk n).insts.filter (keepI l)).length ci, .int .i64 (F.blk n).term.kind, .int .i64 (F.blk n).term.var, .int .i64 (F.blk n).term.t0, .int .i64 (F.blk n).term.t1] : List Value) := by
           have := World.rangeAt_of_block (w := wr) (b := wi.heap.size + 1) hbC 0 7
           simpa using this
          have huB := Tryz.underlying52
          have hinB : (Tryz.prog.info? 52).map (·.size) = some ([.string (F.blk n).name, .slice Ap ((F.blk n).phis.filter (keepP l)).length cp, .slice Ai ((F.blk n).insts.filter (keepI l)).length ci, .int .i64 (F.blk n).term.kind, .int .i64 (F.blk n).term.var, .int .i64 (F.blk n).term.t0, .int .i64 (F.blk n).term.t1] : List Value).length := by kernel_rfl
          have HNZ := Lib.hid hnz
          clear hpl hob hRr hP hJ hBr hbC hbi hKr hk hkl hnz hWi
          go_upto_region 20 with fail
          go_wp2_with (first
           | (refine wpList_load_mid rfl 52 _ rfl (wi.heap.size + 1) 0 rfl [.string (F.blk n).name, .slice Ap ((F.blk n).phis.filter (keepP l)).length cp, .slice Ai ((F.blk n).insts.filter (keepI l)).length ci, .int .i64 (F.blk n).term.kind, .int .i64 (F.blk n).term.var, .int .i64 (F.blk n).term.t0, .int .i64 (F.blk n).term.t1] _ hcR huB rfl hinB ?_)
           | (refine wpList_one7 rfl _ _ _ rfl Tryz.underlying24 Tryz.info52 rfl ?_)
           | (at_builtin; refine wpList_appendF _ rfl _ _ 24 rfl g 52 7 96 Tryz.underlying24 Tryz.info52 rfl ZD _ ps.length cells rfl hOb _ ZS #[.string (F.blk n).name, .slice Ap ((F.blk n).phis.filter (keepP l)).length cp, .slice Ai ((F.blk n).insts.filter (keepI l)).length ci, .int .i64 (F.blk n).term.kind, .int .i64 (F.blk n).term.var, .int .i64 (F.blk n).term.t0, .int .i64 (F.blk n).term.t1] rfl rfl (by intro u hu; simp at hu; rcases hu with rfl | rfl | rfl | rfl | rfl | rfl | rfl <;> rfl) ZO ZD (by first | omega | (simp; omega)) ?_
              intro v' w4 hown3 hg4 hfr3
              obtain ⟨Av, cv, hv3⟩ := own_form hown3
              subst hv3
              have hgg : (wr.alloc (.cells #[.string (F.blk n).name, .slice Ap ((F.blk n).phis.filter (keepP l)).length cp, .slice Ai ((F.blk n).insts.filter (keepI l)).length ci, .int .i64 (F.blk n).term.kind, .int .i64 (F.blk n).term.var, .int .i64 (F.blk n).term.t0, .int .i64 (F.blk n).term.t1] 52)).grownBy w4 (Value.slice Ab ps.length cb).ownBlock := hg4
              clear hg4
              have hz3 := hgg.size
              simp at hz3
              have hgo3 := (hgo.alloc (.cells #[.string (F.blk n).name, .slice Ap ((F.blk n).phis.filter (keepP l)).length cp, .slice Ai ((F.blk n).insts.filter (keepI l)).length ci, .int .i64 (F.blk n).term.kind, .int .i64 (F.blk n).term.var, .int .i64 (F.blk n).term.t0, .int .i64 (F.blk n).term.t1] 52)).grown hgg (fun e => own_box_ne hOb hgo ZD e)
              have t3 := hgo3.cell 2
              simp at t3
              have t3f := hgo3.frozen 2
              have t3l := hgo3.lt))
          go_roundw
          case rel =>
           have hKz : KT [3, 4, 66, 55, 63] wr (w4.setCell ⟨g, 2, none⟩ (.slice Av (ps.length + 1) cv)) := ((KT.refl.alloc _).grown (hOb.alloc _) ZS hgg).setCell hgo3 ZS _
           have hbl : Below g wr (w4.setCell ⟨g, 2, none⟩ (.slice Av (ps.length + 1) cv)) := (((Below.refl g wr).alloc ZO _).grown hgg ZX (fun k' hk' => HOB.out k' hk')).setCell (Nat.le_refl _) _
           refine ⟨n + 1, .slice Av (ps.length + 1) cv, ps ++ [(swBlk l (F.blk n), .slice Ap ((F.blk n).phis.filter (keepP l)).length cp, .slice Ai ((F.blk n).insts.filter (keepI l)).length ci)], ZN, ZO, ?_, by simpa using hgo3.set 2 (.slice Av (ps.length + 1) cv), ?_, ⟨Nat.lt_of_lt_of_le HBCC.out.1 hbl.size, fun f hf => (hbl.cell (p := ⟨gi, f, none⟩) hgig).trans (HBCC.out.2 f hf)⟩, HREE.out.below hbl hg3, HBI.out.trans (hbl.mono ZO)⟩
           · show (ps ++ [_]).map Prod.fst = _
             rw [List.map_append, HPS.out, takeBlk hlt, List.map_append]
             rfl
           · refine RRow.snoc (cs := [.string (F.blk n).name, .slice Ap ((F.blk n).phis.filter (keepP l)).length cp, .slice Ai ((F.blk n).insts.filter (keepI l)).length ci, .int .i64 (F.blk n).term.kind, .int .i64 (F.blk n).term.var, .int .i64 (F.blk n).term.t0, .int .i64 (F.blk n).term.t1]) HRB.out hOb (ownsRow_setCell_other hown3 (fun e => own_box_ne hown3 hgo3 ZD e) _) rfl (fun _ _ h => CBW.kt hKz ZS ZS h) ?_
             exact ⟨rfl, HNZ.out, (HPH.out.kt hKz ZS (fun _ _ h => h)).rebase ZO, (HIN.out.kt hKz ZS (fun _ _ h => h)).rebase ZO⟩
          case measure => simp [intOf]; omega
  · as_aux_lemma =>
    obtain rfl : n = F.blocks.length := by omega
    rw [List.take_length] at HPS
    have o0 := hbx.cell 0
    have o1 := hbx.cell 1
    have o2 := hbx.cell 2
    have ol := hbx.lt
    have y0 := hRe.cell 0
    have y1 := hRe.cell 1
    have y2 := hRe.cell 2
    have yl := hRe.lt
    have f0 := hRe.frozen 0
    have f1 := hRe.frozen 1
    have f2 := hRe.frozen 2
    simp at o0 o1 o2 y0 y1 y2
    have HRE := Lib.hid hRe
    have HRR := Lib.hid hR
    have HBB := Lib.hid hB
    have HWR := Lib.hid hWr
    clear hRe hR hB hbc hWr hbx
    go_wp2
    have hz := HRE.out.set3 (a := .slice A0 F.vars.length c0) (b := .slice A1 F.params.length c1) (c := .slice Ab ps.length cb)
    have z0 := hz.cell 0
    have z1 := hz.cell 1
    have z2 := hz.cell 2
    simp only [List.getElem?_toArray, List.getElem?_cons_zero, List.getElem?_cons_succ] at z0 z1 z2
    have hKe : KT [66, 55, 52] wr (((wr.setCell ⟨w.heap.size + 1, 0, none⟩ (.slice A0 F.vars.length c0)).setCell ⟨w.heap.size + 1, 1, none⟩ (.slice A1 F.params.length c1)).setCell ⟨w.heap.size + 1, 2, none⟩ (.slice Ab ps.length cb)) :=
     ((KT.refl.setCell HRE.out ZS _).setCell (HRE.out.set 0 _) ZS _).setCell ((HRE.out.set 0 _).set 1 _) ZS _
    have hWz := ((HWR.out.setCell (p := ⟨w.heap.size + 1, 0, none⟩) (by simp only; omega) (.slice A0 F.vars.length c0)).setCell (p := ⟨w.heap.size + 1, 1, none⟩) (by simp only; omega) (.slice A1 F.params.length c1)).setCell (p := ⟨w.heap.size + 1, 2, none⟩) (by simp only; omega) (.slice Ab ps.length cb)
    have hfin := fnW_of (G := SwF l F) HF.out (Kept.of_below hWz) hWz.size (HRR.out.kt hKe ZS (fun _ _ h => CBW.kt hKe ZS ZS h)) HPS.out rfl rfl (sw_bnd HNB.out)
    have hBz := ((HBB.out.setCell (p := ⟨w.heap.size + 1, 0, none⟩) ZS (.slice A0 F.vars.length c0)).setCell (p := ⟨w.heap.size + 1, 1, none⟩) ZS (.slice A1 F.params.length c1)).setCell (p := ⟨w.heap.size + 1, 2, none⟩) ZS (.slice Ab ps.length cb)
    exact bodyPost_ret (v := .agg #[.slice A0 F.vars.length c0, .slice A1 F.params.length c1, .slice Ab ps.length cb]) (by simp [results, Tryz.results38, go_sem, z0, z1, z2]) rfl ⟨⟨_, rfl, hfin⟩, hBz⟩
end Go.Proofs.YtjdkcichkpolgaaGreatDoor
