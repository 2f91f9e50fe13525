/- graph.Way of a typed program, from a block to a block. -/
import Derived.Test.YtenedeaiepjedaaDoorWay
namespace Go.Proofs.YtenedeaiepjedaaDoor
open Go.RowKit
set_option maxRecDepth 100000

theorem RF_EN {F : PFunc} (h : typedP F = true) {x y : Nat} (hx : x < F.blocks.length) : RF F (-1) x y ↔ y ∈ EN F x := by
  rw [EN_leads h hx]
  constructor
  · exact fun h => h.2.2.2.2
  · intro hl
    have hy := EN_lt h hx y ((EN_leads h hx).2 hl)
    exact ⟨hx, hy, by omega, by omega, hl⟩
set_option maxHeartbeats 4000000 in
open Classical in
theorem wayYes_calls {W w : World} {fv : Value} {F : PFunc} (hU : Uni W) (hF : FnV W W.heap.size fv F) (hW : Below W.heap.size W w) (hS : Small F) (hT : typedP F = true) (a b : Nat) (ha : a < F.blocks.length) (hb' : b < F.blocks.length) :
    Calls Tryd.prog 14 #[fv, .int .i64 (a : Int), .int .i64 (b : Int)] w fun e w' => e = .returned (.bool ((plusL (RF F (-1)) F.blocks.length a).getD b false)) ∧ Below w.heap.size w w' := by
  have hr := fun (w : World) (h : Below W.heap.size W w) => right_calls hU hF h hS
  obtain ⟨n1, n2⟩ := shaped_count (typed_shaped hT)
  have hWs := hW.size
  obtain ⟨A0, c0, A1, c1, A2, c2, rfl, l0, l1, l2, -, -, -, r0, r1, r2⟩ := id hF.open_
  unfold Len at *
  rw [hT] at hr
  have HT := Lib.hid hT
  clear hT hS
  have hb0 := (Below.refl w.heap.size w).alloc (Nat.le_refl _) (.cells #[.slice A0 F.vars.length c0, .slice A1 F.params.length c1, .slice A2 F.blocks.length c2] 26)
  obtain ⟨ib, hib, hz0, hz1, hz2⟩ := info_parts Tryd.info4
  have ga0 : ¬ ((a : Int) < 0) := by omega
  have gb0 : ¬ ((b : Int) < 0) := by omega
  have ga1 : (a : Int) < (F.blocks.length : Int) := by omega
  have gb1 : (b : Int) < (F.blocks.length : Int) := by omega
  go_enter Tryd.func14, Tryd.ntmps14
  go_wp2_with (first
    | (go_at_call 20; refine (hr _ (by (focus repeat (first | assumption | exact Below.refl _ _ | refine Below.drew ?_ | refine Below.alloc ?_ (by first | omega | exact Below.size (by assumption) | (simp; done) | (simp; omega)) _ | refine Below.setCell ?_ (by first | omega | exact Below.size (by assumption) | (simp; done) | (simp; omega)) _ | refine below_setRow ?_ (by first | omega | exact Below.size (by assumption) | (simp; done) | (simp; omega)) _ | (refine Below.trans ?_ (Below.mono (by assumption) ?_); rotate_left; exact (by first | omega | exact Below.size (by assumption) | (simp; done) | (simp; omega))))))).mono ?_; rintro e w0 ⟨rfl, hb⟩
       have hX0 : Below (w.heap.size + 1) (w.alloc (.cells #[.slice A0 F.vars.length c0, .slice A1 F.params.length c1, .slice A2 F.blocks.length c2] 26)) w0 := by simpa using hb
       have hz := hX0.size
       simp at hz)
    | (at_make; refine wpList_make_full _ rfl _ _ 39 rfl (w.heap.size + 1) 4 ib _ 1 Tryd.underlying39 hib hz0 hz1 _ _ _ _ _ rfl rfl rfl rfl (by rw [hz2]; omega) (by unfold maxLen; omega) (by omega) ?_; intro w1 hs1 hg1
       have hs2 : w1.ownsRow (w.heap.size + 1) 4 1 (.slice (some ⟨w0.heap.size, 0, none⟩) F.blocks.length F.blocks.length) F.blocks.length ((List.replicate F.blocks.length false).map Value.bool) := by simpa [Value.cells, toList_madeCells_one] using hs1
       have hg2 : w0.grownBy w1 none := hg1
       clear hs1 hg1))
  have hX1 : Below (w.heap.size + 1) (w.alloc (.cells #[.slice A0 F.vars.length c0, .slice A1 F.params.length c1, .slice A2 F.blocks.length c2] 26)) w1 := hX0.grown hg2 (by omega) (fun k hk => by cases hk)
  clear hr hg2
  have hgl1 : w0.heap.size < w1.heap.size := (hs2.lt _ rfl).2
  have hzz1 := hX1.size
  simp at hzz1
  go_loopg [9] (2 * F.blocks.length + 1) (fun gk v9 wr => ∃ t s, Hid (WayInv (RF F (-1)) F.blocks.length a t s ∧ 2 * left t + s.length ≤ gk ∧ 2 * left t + s.length ≤ 200) ∧
    wr.ownsRow (w.heap.size + 1) 4 1 (.slice (some ⟨w0.heap.size, 0, none⟩) F.blocks.length F.blocks.length) F.blocks.length (t.map Value.bool) ∧
    wr.ownsRow (w.heap.size + 1) 3 1 v9 s.length ((ints s).map (Value.int .i64)) ∧ Below (w.heap.size + 1) (w.alloc (.cells #[.slice A0 F.vars.length c0, .slice A1 F.params.length c1, .slice A2 F.blocks.length c2] 26)) wr)
  case atStart =>
    refine ⟨_, [a], ⟨WayInv.start ha, ?_, ?_⟩, hs2.alloc _, ?_, hX1.alloc (by omega) _⟩
    · have := left_le (t := List.replicate F.blocks.length false)
      simp at this ⊢
      omega
    · have := left_le (t := List.replicate F.blocks.length false)
      simp at this ⊢
      omega
    · have := World.ownsRow_lit (base := w.heap.size + 1) (e := 3) (size := 1) w1 #[.int .i64 (a : Int)] 1 (by omega) (by decide) rfl
      simpa [ints] using this
  case round => as_aux_lemma =>
    obtain ⟨t, s, HD, ho, hs, hb⟩ := hrel
    obtain ⟨hq, hq0, hq1, hq2⟩ := box3 hb
    have hB := hb0.trans (hb.mono (Nat.le_succ _))
    have hWr : Below W.heap.size W wr := hW.trans (hB.mono hWs)
    have hgl := (ho.lt _ rfl).2
    rcases List.eq_nil_or_concat s with hsn | ⟨s0, x, hsx⟩
    · subst hsn
      have hfin := HD.out.1.done
      have hcb := own_bool ho hb'
      obtain ⟨A9, c9, rfl⟩ := own_form hs
      have HBV := Lib.hid (show (plusL (RF F (-1)) F.blocks.length a).getD b false = t.getD b false by rw [hfin])
      generalize t.getD b false = bv at *
      clear hs hq0 hq1 hq2 hfin
      go_wp2
      go_ret
      exact ⟨congrArg (fun v => Ending.returned (.bool v)) HBV.out.symm, hB⟩
    · rw [List.concat_eq_append] at hsx
      subst hsx
      have hl : (s0 ++ [x]).length = s0.length + 1 := by simp
      rw [hl] at hs
      obtain ⟨g, cap, rfl, hg0, hgl2, hcp, hcm⟩ := own_succ hs
      unfold maxLen at hcm
      have hbnd := HD.out.2.2
      rw [hl] at hbnd
      have hct := hs.cellAt s0.length (by omega)
      simp [ints] at hct
      have hxn := (HD.out.1.mem x (by simp)).2
      obtain ⟨bb, off, A3, c3, A4, c4, rfl, hbb, -, -, -, -, hy3, hy4, hy5, hy6, -⟩ := r2.blk hWr hxn
      have hs0 : wr.ownsRow (w.heap.size + 1) 3 1 (.slice (some ⟨g, 0, none⟩) s0.length cap) s0.length ((ints s0).map (Value.int .i64)) := own_pop1 (by simpa [ints] using hs)
      have hE := Lib.hid (EN_ints HT.out hxn)
      have hel := EN_len2 F x
      obtain ⟨wq, rfl⟩ : ∃ wq : World, wq = wr := ⟨_, rfl⟩
      clear hs
      go_wp2_with (go_at_call 11; refine (endsN_calls (F.blk x).term).mono ?_; rintro e w9 ⟨⟨A9, c9, rfl, l9, k9, r9, hb9⟩, hnew9⟩)
      have hB9 : Below wq.heap.size wq w9 := by (focus repeat (first | assumption | exact Below.refl _ _ | refine Below.drew ?_ | refine Below.alloc ?_ (by first | omega | exact Below.size (by assumption) | (simp; done) | (simp; omega)) _ | refine Below.setCell ?_ (by first | omega | exact Below.size (by assumption) | (simp; done) | (simp; omega)) _ | refine below_setRow ?_ (by first | omega | exact Below.size (by assumption) | (simp; done) | (simp; omega)) _ | (refine Below.trans ?_ (Below.mono (by assumption) ?_); rotate_left; exact (by first | omega | exact Below.size (by assumption) | (simp; done) | (simp; omega)))))
      have hgl9 := Nat.lt_of_lt_of_le hgl hB9.size
      replace hnew9 := Lib.hid (hnew9 _ _ _ rfl)
      have hEl : (endsOf (F.blk x).term).length = (EN F x).length := by rw [hE.out]; simp [ints]
      rw [hEl]
      have r9' : ∀ k, k < (EN F x).length → ∃ b off, A9 = some ⟨b, off, none⟩ ∧ wq.heap.size ≤ b ∧ b < w9.heap.size ∧ w9.cell? ⟨b, off + k, none⟩ = some (.int .i64 ((EN F x).getD k 0 : Nat)) := by
        intro k hk
        obtain ⟨b, off, rfl, hbl, hc⟩ := r9.int (Below.refl _ _) (show k < (endsOf (F.blk x).term).length by rw [hEl]; exact hk)
        have hl := hnew9.out b off rfl
        refine ⟨b, off, rfl, by omega, hbl, ?_⟩
        rw [hc, hE.out, ith, ints, List.getD, List.getElem?_map, List.getElem?_eq_getElem hk]
        simp [List.getD, hk]
      replace r9' := Lib.hid r9'
      have HW0 := Lib.hid (HD.out.1.pop (es := EN F x))
      have HG := Lib.hid (show 2 * left t + s0.length + 1 ≤ gk ∧ 2 * left t + s0.length + 1 ≤ 200 by have := HD.out.2; simp at this ⊢; omega)
      have ho9 := own_below ho hB9
      have hs9 := own_below hs0 hB9
      have hb9' := hb.trans (hB9.mono (by omega))
      clear r9 hnew9 hq0 hq1 hq2 hs0 ho hEl hct
      go_wp2_with fail
      go_loopw [9, 63] (fun v9 i wr => ∃ (k : Nat) (t2 : List Bool) (s2 : List Nat), i = .int .i64 k ∧ k ≤ (EN F x).length ∧ Hid (WayMid (RF F (-1)) F.blocks.length a x (EN F x) k t2 s2 ∧ 2 * left t2 + s2.length + 1 ≤ gk ∧ 2 * left t2 + s2.length + 1 ≤ 200) ∧ w9.heap.size ≤ wr.heap.size ∧
        wr.ownsRow (w.heap.size + 1) 4 1 (.slice (some ⟨w0.heap.size, 0, none⟩) F.blocks.length F.blocks.length) F.blocks.length (t2.map Value.bool) ∧
        wr.ownsRow (w.heap.size + 1) 3 1 v9 s2.length ((ints s2).map (Value.int .i64)) ∧ (∀ h, v9.ownBlock = some h → h < wq.heap.size ∨ w9.heap.size ≤ h) ∧
        (∀ b j, wq.heap.size ≤ b → b < w9.heap.size → wr.cell? ⟨b, j, none⟩ = w9.cell? ⟨b, j, none⟩) ∧ Below (w.heap.size + 1) (w.alloc (.cells #[.slice A0 F.vars.length c0, .slice A1 F.params.length c1, .slice (some ⟨bb, off, none⟩) F.blocks.length c2] 26)) wr) (fun _ i _ => (EN F x).length - (intOf i).toNat)
      case atStart => exact ⟨0, t, s0, rfl, Nat.zero_le _, ⟨HW0.out, HG.out⟩, Nat.le_refl _, ho9, hs9, (fun h e => by cases e; exact .inl hgl2), fun _ _ _ _ => rfl, hb9'⟩
      case round => as_aux_lemma =>
        clear ho9 hs9 hb9'
        obtain ⟨k, t2, s2, rfl, hk, HM, hz9, ho, hs, hav, hsame, hb⟩ := hrel
        obtain ⟨A7, c7, rfl⟩ := own_form hs
        replace hsame := Lib.hid hsame
        replace hav := Lib.hid hav
        by_cases hkt : k < (EN F x).length
        · obtain ⟨b9, off9, rfl, hb9l, hb9h, hc9k⟩ := r9'.out k hkt
          have hm0 := (hsame.out b9 (off9 + k) hb9l hb9h).trans hc9k
          have hb9w : b9 < wr.heap.size := Nat.lt_of_lt_of_le hb9h hz9
          have hmem : (EN F x).getD k 0 ∈ EN F x := by rw [getD_get hkt]; exact List.getElem_mem hkt
          have hcn := EN_lt HT.out hxn _ hmem
          have HR := Lib.hid ((RF_EN HT.out hxn).2 hmem)
          obtain ⟨c, hcc⟩ : ∃ c, (EN F x).getD k 0 = c := ⟨_, rfl⟩
          rw [hcc] at hm0 hcn HR
          have HC := Lib.hid hcc
          clear hmem hcc hc9k
          have hcc := own_bool ho hcn
          have hfz := ho.frozenAt c
          have hglr := (ho.lt _ rfl)
          cases hsc : t2.getD c false
          · have HSC := Lib.hid hsc
            rw [hsc] at hcc
            clear hsc
            have h63 : s2.length < 1048576 := by have := HM.out.2.2; omega
            have hne : ∀ h, (Value.slice A7 s2.length c7).ownBlock = some h → h ≠ w0.heap.size := fun h e e2 => own_ne hs ho (by decide) e (by rw [e2]; rfl)
            have hs3 := ownsRow_setCell_other hs (a := ⟨w0.heap.size, c, none⟩) (fun e => hne _ e rfl) (.bool true)
            have ho3 := (ho.stored c (.bool true)).1
            rw [bool_set] at ho3
            have HO3 := Lib.hid ho3
            have HNE := Lib.hid hne
            clear hne ho3
            go_wp2_with (
              at_builtin; refine wpList_append1F _ rfl _ _ 23 rfl (w.heap.size + 1) 3 8 Tryd.underlying23 Tryd.info3 rfl _ _ _ rfl hs3 _ (by simp) _ rfl rfl h63 (by decide) (by simp; omega) ?_; intro v' w3 hown3 hg3 hfr3; obtain ⟨Av, cv, hv3⟩ := own_form hown3; subst hv3)
            go_roundw
            case rel =>
              have hsz3 := hg3.size
              simp at hsz3
              refine ⟨k + 1, t2.set c true, s2 ++ [c], by go_num, by omega, ⟨HM.out.1.new hkt HC.out hcn HR.out, ?_⟩, by omega, own_grown HO3.out ((Below.refl _ _).alloc (Nat.le_refl _) _) hg3 (fun g hg => own_ne HO3.out hs3 (by decide) hg), ?_, fun h e => ?_, fun b j h1 h2 => ?_, grown_below hs3 hg3 (hb.setCell (by omega) _) (Nat.le_refl _) (by simp; omega)⟩
              · have h1 := left_set (t := t2) (y := c) (by rw [HM.out.1.inv.len]; exact hcn) HSC.out
                have h2 := HM.out.2
                simp
                omega
              · simpa [ints] using hown3
              · rcases hfr3 h e with e | e
                · exact hav.out h e
                · simp at e; omega
              · rw [World.cell?_of_block (w := (wr.setCell ⟨w0.heap.size, c, none⟩ (.bool true)).alloc _) (hg3.block b (by simp; omega) (fun e => by have := hav.out b e.symm; omega))]
                have hbx : b < wr.heap.size := by omega
                rw [← hsame.out b j h1 h2]
                have hbl : Below wr.heap.size (wr.setCell ⟨w0.heap.size, c, none⟩ (.bool true)) ((wr.setCell ⟨w0.heap.size, c, none⟩ (.bool true)).alloc (.cells #[.int .i64 (c : Int)] 3)) := (Below.refl _ _).alloc (by simp) _
                exact (hbl.cell (p := ⟨b, j, none⟩) hbx).trans (World.cell?_setCell_other _ _ _ _ (fun e => by have := congrArg Addr.block e; dsimp only at this; omega))
            case measure => simp [intOf]; omega
          · have HSC := Lib.hid hsc
            rw [hsc] at hcc
            clear hsc
            go_wp2
            go_roundw
            case rel => exact ⟨k + 1, t2, s2, by go_num, by omega, ⟨HM.out.1.old hkt (by rw [HC.out]; exact HSC.out), HM.out.2⟩, hz9, ho, hs, hav.out, hsame.out, hb⟩
            case measure => simp [intOf]; omega
        · obtain rfl : k = (EN F x).length := by omega
          have HM2 := Lib.hid (HM.out.1.fin fun y hy => (RF_EN HT.out hxn).1 hy)
          obtain ⟨gk', rfl⟩ : ∃ f, gk = f + 1 := ⟨gk - 1, by have := HM.out.2.1; omega⟩
          go_wp2
          go_roundg gk'
          case measure => omega
          case rel => exact ⟨t2, s2, ⟨HM2.out, by have := HM.out.2; omega⟩, ho, hs, hb⟩
end Go.Proofs.YtenedeaiepjedaaDoor
