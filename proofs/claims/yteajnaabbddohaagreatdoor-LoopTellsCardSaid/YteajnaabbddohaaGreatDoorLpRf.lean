/- The walks of the document's answer for loops: checkreinref12.Latch, Reducible. The walks of checkreinref12.Head, In, Bodies: the blocks of each loop as the document has them. A nest of loops that there isn't: of, Depth; loop.New of a program that isn't typed; Depth of any nest. The lists of latches and of a loop's blocks, in the blocks' order. -/
import Derived.Test.YteajnaabbddohaaGreatDoorLpPl
import Derived.Test.YteajnaabbddohaaGreatDoorBuild
import Derived.Test.YteajnaabbddohaaGreatDoorRows2
import Derived.Test.YteajnaabbddohaaGreatDoorLpRd
import Derived.Test.YteajnaabbddohaaGreatDoorNew
namespace Go.Proofs.YteajnaabbddohaaGreatDoor
open Go.RowKit
set_option maxRecDepth 100000

/-- a table of truths in memory. -/
def TabR (w : World) (b0 n : Nat) (T : Nat → Nat → Bool) : Prop := b0 < w.heap.size ∧ ∀ a, a < n → ∃ b1, w.cell? ⟨b0, a, none⟩ = some (.slice (some ⟨b1, 0, none⟩) n n) ∧ b1 < w.heap.size ∧ ∀ x, x < n → w.cell? ⟨b1, x, none⟩ = some (.bool (T a x))
theorem TabR.below {w w' : World} {b0 n : Nat} {T : Nat → Nat → Bool} (h : TabR w b0 n T) (hb : Below w.heap.size w w') : TabR w' b0 n T :=
  ⟨Nat.lt_of_lt_of_le h.1 hb.size, fun a ha => by
    obtain ⟨b1, h1, h2, h3⟩ := h.2 a ha
    exact ⟨b1, (hb.cell (p := ⟨b0, a, none⟩) h.1).trans h1, Nat.lt_of_lt_of_le h2 hb.size, fun x hx => (hb.cell (p := ⟨b1, x, none⟩) h2).trans (h3 x hx)⟩⟩
theorem TabV.open_ {w : World} {v : Value} {n : Nat} {T : Nat → Nat → Bool} (h : TabV w w.heap.size v n T) : ∃ b0 c, v = .slice (some ⟨b0, 0, none⟩) n c ∧ n ≤ c ∧ TabR w b0 n T := by
  obtain ⟨b0, c, h1, h2, h3, h4⟩ := h
  exact ⟨b0, c, h1, h2, h3, h4⟩
/-- the document's word: is b a latch of h? -/
noncomputable def latB (F : PFunc) (h b : Nat) : Bool := tabB F h b && leads (F.blk b).term (h : Int)
set_option maxHeartbeats 2000000 in
theorem latch_calls {W w : World} {fv : Value} {F : PFunc} {b0 c : Nat} (hF : FnV W W.heap.size fv F) (hW : Below W.heap.size W w) (_n2 : F.blocks.length ≤ 64) (hT : TabR w b0 F.blocks.length (tabB F)) (h b : Nat) (hh : h < F.blocks.length) (hb : b < F.blocks.length) :
    Calls Tryz.prog 28 #[fv, .slice (some ⟨b0, 0, none⟩) F.blocks.length c, .int .i64 (h : Int), .int .i64 (b : Int)] w fun e w' => e = .returned (.bool (latB F h b)) ∧ Below w.heap.size w w' := by
  have hl := fun (w' : World) (h' : Below W.heap.size W w') => leads_calls hF h' (b : Int) (h : Int) (by omega) (by omega)
  rw [Int.toNat_natCast] at hl
  obtain ⟨A0, c0, A1, c1, A2, c2, rfl, l0, l1, l2, -⟩ := id hF.open_
  unfold Len at *
  have hWs := hW.size
  have hbx := (Below.refl w.heap.size w).alloc (Nat.le_refl _) (.cells #[.slice A0 F.vars.length c0, .slice A1 F.params.length c1, .slice A2 F.blocks.length c2] 26)
  obtain ⟨hb0, hT⟩ := hT
  obtain ⟨r, hr, hrl, hrc⟩ := hT h hh
  have hcb := hrc b hb
  have fh : (h : Int) < (F.blocks.length : Int) := by omega
  have fb : (b : Int) < (F.blocks.length : Int) := by omega
  clear hT hrc
  unfold latB
  cases htb : tabB F h b
  · rw [htb] at hcb
    clear htb
    go_enter Tryz.func28, Tryz.ntmps28
    go_wp2
    go_ret
    exact ⟨rfl, hbx⟩
  · rw [htb] at hcb
    clear htb
    generalize leads (F.blk b).term (h : Int) = z at *
    go_enter Tryz.func28, Tryz.ntmps28
    go_wp2_with fail
    refine (hl _ (by (focus repeat (first | assumption | exact Below.refl _ _ | refine Below.drew ?_ | refine Below.alloc ?_ (by first | omega | exact Below.size (by assumption) | (simp; done) | (simp; omega)) _ | refine Below.setCell ?_ (by first | omega | exact Below.size (by assumption) | (simp; done) | (simp; omega)) _ | refine below_setRow ?_ (by first | omega | exact Below.size (by assumption) | (simp; done) | (simp; omega)) _ | (refine Below.trans ?_ (Below.mono (by assumption) ?_); rotate_left; exact (by first | omega | exact Below.size (by assumption) | (simp; done) | (simp; omega))))))).mono ?_
    rintro e w8 ⟨rfl, hb8⟩
    go_wp2
    go_ret
    exact ⟨by simp, hbx.trans (hb8.mono hbx.size)⟩
/-- what is taken away at first, of the blocks below k. -/
noncomputable def goneK (F : PFunc) (k : Nat) : List Bool := (List.range F.blocks.length).map fun i => decide (i < k) && !tabB F i i
noncomputable def leftK (F : PFunc) (k : Nat) : Nat := ((List.range k).filter fun i => tabB F i i).length
section
variable {F : PFunc} {k b : Nat} {g g0 : List Bool}
theorem goneK_len : (goneK F k).length = F.blocks.length := by simp [goneK]
theorem goneK_zero : goneK F 0 = List.replicate F.blocks.length false := by
  refine List.ext_getElem (by simp [goneK]) fun i h1 h2 => ?_
  simp [goneK]
theorem goneK_step : (goneK F k).set k (!tabB F k k) = goneK F (k + 1) := by
  refine List.ext_getElem (by simp [goneK]) fun i h1 h2 => ?_
  simp only [goneK, List.getElem_set, List.getElem_map, List.getElem_range]
  by_cases e : k = i
  · subst e; simp
  · rw [if_neg e]
    have : decide (i < k) = decide (i < k + 1) := by rw [decide_eq_decide]; omega
    rw [this]
theorem leftK_yes (h : tabB F k k = true) : leftK F (k + 1) = leftK F k + 1 := by simp [leftK, List.range_succ, h]
theorem leftK_no (h : tabB F k k = false) : leftK F (k + 1) = leftK F k := by simp [leftK, List.range_succ, h]
theorem leftK_le : leftK F k ≤ k := Nat.le_trans (List.length_filter_le _ _) (by simp)
theorem leftK_end : leftK F F.blocks.length = left (goneK F F.blocks.length) := by
  unfold leftK left goneK
  rw [List.count_eq_countP, List.countP_map, List.countP_eq_length_filter]
  congr 1
  refine List.filter_congr fun i hi => ?_
  have : i < F.blocks.length := by simpa using hi
  cases h : tabB F i i <;> simp [h, this]
theorem tab_diag : tabB F b b = true ↔ b ∈ OR F := ⟨fun h => (tabB_iff.1 h).1, tab_self⟩
theorem GoneI.start : GoneI F (goneK F F.blocks.length) := by
  have key : ∀ b, b < F.blocks.length → (goneK F F.blocks.length).getD b false = !tabB F b b := fun b hb => by simp [goneK, List.getD, hb]
  refine ⟨goneK_len, fun b hb hO => ?_, fun b hb hg => ?_⟩
  · rw [key b hb]
    cases h : tabB F b b
    · rfl
    · exact absurd (tab_diag.1 h) hO
  · by_cases hbn : b < F.blocks.length
    · rw [key b hbn, tab_self hb] at hg
      cases hg
    · rw [List.getD, List.getElem?_eq_none (by rw [goneK_len]; omega)] at hg
      cases hg
/-- in a round through the blocks. -/
def Mid12 (F : PFunc) (g0 g : List Bool) (b : Nat) (ag : Bool) : Prop := GoneI F g ∧ left g ≤ left g0 ∧ (ag = true → left g < left g0) ∧ (ag = false → g = g0 ∧ ∀ x, x < b → g.getD x false = true ∨ freeK F g x F.blocks.length = false)
theorem Mid12.skip {ag : Bool} (h : Mid12 F g0 g b ag) (hb : g.getD b false = true ∨ freeK F g b F.blocks.length = false) : Mid12 F g0 g (b + 1) ag := by
  refine ⟨h.1, h.2.1, h.2.2.1, fun e => ⟨(h.2.2.2 e).1, fun x hx => ?_⟩⟩
  rcases Nat.lt_succ_iff_lt_or_eq.1 hx with h1 | rfl
  · exact (h.2.2.2 e).2 x h1
  · exact hb
theorem Mid12.take {ag : Bool} (ht : typedP F = true) (h : Mid12 F g0 g b ag) (hb : b < F.blocks.length) (hg : g.getD b false = false) (hf : freeK F g b F.blocks.length = true) : Mid12 F g0 (g.set b true) (b + 1) true := by
  have := left_set (t := g) (y := b) (by rw [h.1.len]; exact hb) hg
  exact ⟨h.1.take ht hb hf, by have := h.2.1; omega, fun _ => by have := h.2.1; omega, fun e => by cases e⟩
end
set_option maxHeartbeats 8000000 in
theorem refReduces_calls {W w : World} {fv : Value} {F : PFunc} (hF : FnV W W.heap.size fv F) (hW : Below W.heap.size W w) (hT : typedP F = true) :
    Calls Tryz.prog 14 #[fv] w fun e w' => e = .returned (.bool (redB F)) ∧ Below w.heap.size w w' := by
  have hWs := hW.size
  obtain ⟨n1, n2⟩ := shaped_count (typed_shaped hT)
  have htb := fun (w' : World) (h : Below W.heap.size W w') => table_calls hF h hT
  have HL := Lib.hid (fun (w' : World) (h : Below W.heap.size W w') (a b : Nat) (ha : a < F.blocks.length) => by have := leads_calls hF h (a : Int) (b : Int) (by omega) (by omega); rwa [Int.toNat_natCast] at this)
  have HLA := Lib.hid (fun (w' : World) (h : Below W.heap.size W w') (b0 c : Nat) (h2 : TabR w' b0 F.blocks.length (tabB F)) (b a : Nat) (hb : b < F.blocks.length) (ha : a < F.blocks.length) => latch_calls (c := c) hF h n2 h2 b a hb ha)
  have HT := Lib.hid hT
  obtain ⟨ib, hib, hz0, hz1, hz2⟩ := info_parts Tryz.info4
  obtain ⟨A0, c0, A1, c1, A2, c2, rfl, l0, l1, l2, -⟩ := id hF.open_
  unfold Len at *
  have hb0 := (Below.refl w.heap.size w).alloc (Nat.le_refl _) (.cells #[.slice A0 F.vars.length c0, .slice A1 F.params.length c1, .slice A2 F.blocks.length c2] 26)
  clear hT
  go_enter Tryz.func14, Tryz.ntmps14
  go_wp2_with fail
  refine (htb _ (by (focus repeat (first | assumption | exact Below.refl _ _ | refine Below.drew ?_ | refine Below.alloc ?_ (by first | omega | exact Below.size (by assumption) | (simp; done) | (simp; omega)) _ | refine Below.setCell ?_ (by first | omega | exact Below.size (by assumption) | (simp; done) | (simp; omega)) _ | refine below_setRow ?_ (by first | omega | exact Below.size (by assumption) | (simp; done) | (simp; omega)) _ | (refine Below.trans ?_ (Below.mono (by assumption) ?_); rotate_left; exact (by first | omega | exact Below.size (by assumption) | (simp; done) | (simp; omega))))))).mono ?_
  rintro e w5 ⟨v, rfl, hTV, hb5⟩
  obtain ⟨tb0, tc, rfl, htc, hTab⟩ := hTV.open_
  have hX5 : Below (w.heap.size + 1) (w.alloc (.cells #[.slice A0 F.vars.length c0, .slice A1 F.params.length c1, .slice A2 F.blocks.length c2] 26)) w5 := by simpa using hb5
  have hB5 := hb0.trans (hX5.mono (Nat.le_succ _))
  obtain ⟨q, q0, q1, q2⟩ := box3 hX5
  have HTab := Lib.hid hTab
  have HB5 := Lib.hid hB5
  have HX5 := Lib.hid hX5
  clear hTV hTab hb5 htb hB5 hX5
  go_wp2_with (
    at_make; refine wpList_make_full _ rfl _ _ 45 rfl w5.heap.size 4 ib _ 1 Tryz.underlying45 hib hz0 hz1 _ _ _ _ _ rfl rfl rfl rfl (by rw [hz2]; omega) (by unfold maxLen; omega) (by simp) ?_; intro w1 hs1 hg1
    have hs2 : w1.ownsRow w5.heap.size 4 1 (.slice (some ⟨w5.heap.size, 0, none⟩) F.blocks.length F.blocks.length) F.blocks.length ((goneK F 0).map Value.bool) := by rw [goneK_zero]; simpa [Value.cells, toList_madeCells_one] using hs1
    have hb1 : Below w5.heap.size w5 w1 := (Below.refl _ _).grown hg1 (Nat.le_refl _) (fun k hk => by cases hk)
    have y0 := (hb1.cell (p := ⟨w.heap.size, 2, none⟩) q).trans q2
    have y1 := Nat.lt_of_lt_of_le q hb1.size
    clear hs1 hg1)
  clear q q0 q1 q2 y0 y1
  go_loopw [20, 5] (fun x x5 wr => ∃ b : Nat, x = .int .i64 b ∧ x5 = .int .i64 ((leftK F b : Nat) : Int) ∧ b ≤ F.blocks.length ∧ wr.ownsRow w5.heap.size 4 1 (.slice (some ⟨w5.heap.size, 0, none⟩) F.blocks.length F.blocks.length) F.blocks.length ((goneK F b).map Value.bool) ∧ Below w5.heap.size w5 wr) (fun x _ _ => F.blocks.length - (intOf x).toNat)
  case atStart => exact ⟨0, rfl, rfl, Nat.zero_le _, hs2, hb1⟩
  case round => as_aux_lemma =>
    clear hs2 hb1
    obtain ⟨b, rfl, rfl, hbl, ho, hb⟩ := hrel
    have hXr := HX5.out.trans (hb.mono (by have := HX5.out.size; simpa using this))
    obtain ⟨q, q0, q1, q2⟩ := box3 hXr
    have hgl := (ho.lt _ rfl).2
    by_cases hlt : b < F.blocks.length
    · have hbn : (b : Int) < (F.blocks.length : Int) := by omega
      obtain ⟨hb0', hT0⟩ := HTab.out.below hb
      obtain ⟨r, hr, hrl, hrc⟩ := hT0 b hlt
      have hcb := hrc b hlt
      have hfz := ho.frozenAt b
      have hcg := own_bool ho hlt
      have hlk := leftK_le (F := F) (k := b)
      obtain ⟨T, hT'⟩ : ∃ T, tabB F b b = T := ⟨_, rfl⟩
      rw [hT'] at hcb
      have hst := (ho.stored b (.bool (!T))).1
      rw [bool_set, ← hT', goneK_step] at hst
      have HS := Lib.hid hst
      have HB := Lib.hid hb
      have HTT := Lib.hid hT'
      clear hT0 hrc hst hT' ho hb
      cases T
      · as_aux_lemma =>
        have HK := Lib.hid (leftK_no HTT.out)
        go_wp2
        go_roundw
        case rel => exact ⟨b + 1, by go_num, by rw [HK.out], by omega, by simpa [HTT.out] using HS.out, HB.out.setCell (by simp) _⟩
        case measure => simp [intOf]; omega
      · as_aux_lemma =>
        have HK := Lib.hid (leftK_yes HTT.out)
        go_wp2
        go_roundw
        case rel => exact ⟨b + 1, by go_num, by rw [HK.out]; go_num, by omega, by simpa [HTT.out] using HS.out, HB.out.setCell (by simp) _⟩
        case measure => simp [intOf]; omega
    · obtain rfl : b = F.blocks.length := by omega
      have hll := left_le (t := goneK F F.blocks.length)
      rw [goneK_len] at hll
      rw [leftK_end]
      have HO := Lib.hid ho
      have HB := Lib.hid hb
      clear q q0 q1 q2 ho hb
      go_wp2
      go_loopg [5, 7] (200) (fun gk x5 x7 wr => ∃ (g : List Bool) (ag : Bool), x5 = .int .i64 ((left g : Nat) : Int) ∧ x7 = .bool ag ∧ Hid (GoneI F g ∧ 2 * left g + ag.toNat + 1 ≤ gk ∧ (ag = false → ∀ x, x < F.blocks.length → g.getD x false = true ∨ freeK F g x F.blocks.length = false)) ∧ wr.ownsRow w5.heap.size 4 1 (.slice (some ⟨w5.heap.size, 0, none⟩) F.blocks.length F.blocks.length) F.blocks.length (g.map Value.bool) ∧ Below w5.heap.size w5 wr)
      case atStart => exact ⟨_, true, rfl, rfl, ⟨GoneI.start, by simp; omega, fun e => by cases e⟩, HO.out, HB.out⟩
      case round => as_aux_lemma =>
        clear HO HB hXr
        obtain ⟨g, ag, rfl, rfl, HG, ho, hb⟩ := hrel
        cases ag
        · have hfin := HG.out.1.fin HT.out (HG.out.2.2 rfl)
          have hrb : redB F = decide (((left g : Nat) : Int) = 0) := by
            rw [Bool.eq_iff_iff, ← hfin, decide_eq_true_eq]
            omega
          have HRB := Lib.hid hrb
          have HBB := Lib.hid hb
          clear hfin hrb hb ho
          generalize left g = m at *
          go_wp2
          go_ret
          refine ⟨?_, HB5.out.trans (HBB.out.mono HB5.out.size)⟩
          rw [HRB.out]
          first | rfl | (congr 2)
        · have hXr := HX5.out.trans (hb.mono (by have := HX5.out.size; simpa using this))
          obtain ⟨q, q0, q1, q2⟩ := box3 hXr
          obtain ⟨gk', rfl⟩ : ∃ f, gk = f + 1 := ⟨gk - 1, by have := HG.out.2.1; omega⟩
          have HG1 := Lib.hid HG.out
          have HO := Lib.hid ho
          have HB := Lib.hid hb
          clear hb ho
          go_wp2
          clear q q0 q1 q2
          go_loopw [46, 5, 7] (fun x x5 x7 wr => ∃ (b : Nat) (g' : List Bool) (ag : Bool), x = .int .i64 b ∧ x5 = .int .i64 ((left g' : Nat) : Int) ∧ x7 = .bool ag ∧ b ≤ F.blocks.length ∧ Hid (Mid12 F g g' b ag) ∧ wr.ownsRow w5.heap.size 4 1 (.slice (some ⟨w5.heap.size, 0, none⟩) F.blocks.length F.blocks.length) F.blocks.length (g'.map Value.bool) ∧ Below w5.heap.size w5 wr) (fun x _ _ _ => F.blocks.length - (intOf x).toNat)
          case atStart => exact ⟨0, g, false, rfl, rfl, rfl, Nat.zero_le _, ⟨HG1.out.1, Nat.le_refl _, (fun e => by cases e), fun _ => ⟨rfl, fun x hx => absurd hx (Nat.not_lt_zero _)⟩⟩, HO.out, HB.out⟩
          case round => as_aux_lemma =>
            clear HO HB hXr
            obtain ⟨b, g', ag, rfl, rfl, rfl, hbl, HM, ho, hb⟩ := hrel
            have hXr := HX5.out.trans (hb.mono (by have := HX5.out.size; simpa using this))
            obtain ⟨q, q0, q1, q2⟩ := box3 hXr
            have hgl := (ho.lt _ rfl).2
            by_cases hlt : b < F.blocks.length
            · have hbn : (b : Int) < (F.blocks.length : Int) := by omega
              have hcg := own_bool ho hlt
              obtain ⟨T, hT'⟩ : ∃ T, g'.getD b false = T := ⟨_, rfl⟩
              rw [hT'] at hcg
              have HGT := Lib.hid hT'
              have HO := Lib.hid ho
              have HB := Lib.hid hb
              clear hT' ho hb
              cases T
              case true =>
                as_aux_lemma =>
                go_wp2
                go_roundw
                case rel => exact ⟨b + 1, g', ag, by go_num, rfl, rfl, by omega, HM.out.skip (.inl HGT.out), HO.out, HB.out⟩
                case measure => simp [intOf]; omega
              case false =>
                as_aux_lemma =>
                go_wp2
                clear q q0 q1 q2 hcg
                go_loopw [56, 9] (fun x x9 wr => ∃ (a : Nat) (fr : Bool), x = .int .i64 a ∧ x9 = .bool fr ∧ a ≤ F.blocks.length ∧ Hid (fr = freeK F g' b a) ∧ wr.ownsRow w5.heap.size 4 1 (.slice (some ⟨w5.heap.size, 0, none⟩) F.blocks.length F.blocks.length) F.blocks.length (g'.map Value.bool) ∧ Below w5.heap.size w5 wr) (fun x _ _ => F.blocks.length - (intOf x).toNat)
                case atStart => exact ⟨0, true, rfl, rfl, Nat.zero_le _, rfl, HO.out, HB.out⟩
                case round => as_aux_lemma =>
                  clear HO HB hXr
                  obtain ⟨a, fr, rfl, rfl, hal, HFR, ho, hb⟩ := hrel
                  have hXr := HX5.out.trans (hb.mono (by have := HX5.out.size; simpa using this))
                  obtain ⟨q, q0, q1, q2⟩ := box3 hXr
                  have hgl := (ho.lt _ rfl).2
                  have hBr := HB5.out.trans (hb.mono HB5.out.size)
                  have hWr : Below W.heap.size W wr := hW.trans (hBr.mono hWs)
                  by_cases hlt2 : a < F.blocks.length
                  · have han : (a : Int) < (F.blocks.length : Int) := by omega
                    have hcg := own_bool ho hlt2
                    have hle := HL.out wr hWr a b hlt2
                    have hla := fun (w' : World) (h : Below wr.heap.size wr w') => HLA.out w' (hWr.trans (h.mono hWr.size)) tb0 tc (HTab.out.below (hb.trans (h.mono hb.size))) b a hlt hlt2
                    have hst : freeK F g' b (a + 1) = (freeK F g' b a && !(!g'.getD a false && leads (F.blk a).term (b : Int) && !tabB F b a)) := rfl
                    have hlat : latB F b a = (tabB F b a && leads (F.blk a).term (b : Int)) := rfl
                    obtain ⟨T, hT'⟩ : ∃ T, g'.getD a false = T := ⟨_, rfl⟩
                    rw [hT'] at hcg hst
                    have HO := Lib.hid ho
                    have HB := Lib.hid hb
                    clear hT' ho hb
                    cases T
                    case true =>
                      as_aux_lemma =>
                      have HST := Lib.hid hst
                      clear hst hlat
                      go_wp2
                      go_roundw
                      case rel => exact ⟨a + 1, fr, by go_num, rfl, by omega, by show fr = _; rw [HST.out, HFR.out]; simp, HO.out, HB.out⟩
                      case measure => simp [intOf]; omega
                    case false =>
                      generalize leads (F.blk a).term (b : Int) = L at *
                      cases L
                      case false =>
                        as_aux_lemma =>
                        have HST := Lib.hid hst
                        clear hst hlat
                        go_wp2_with fail
                        refine hle.mono ?_
                        rintro e w8 ⟨rfl, hb8⟩
                        have hXr8 := hXr.trans (hb8.mono (by have := hXr.size; simpa using this))
                        obtain ⟨p, p0, p1, p2⟩ := box3 hXr8
                        go_wp2
                        go_roundw
                        case rel => exact ⟨a + 1, fr, by go_num, rfl, by omega, by show fr = _; rw [HST.out, HFR.out]; simp, own_below HO.out hb8, HB.out.trans (hb8.mono HB.out.size)⟩
                        case measure => simp [intOf]; omega
                      case true =>
                        obtain ⟨T2, hT2⟩ : ∃ T, tabB F b a = T := ⟨_, rfl⟩
                        rw [hT2] at hst hlat
                        rw [hlat] at hla
                        have HST := Lib.hid hst
                        clear hst hlat hT2
                        cases T2
                        · as_aux_lemma =>
                          go_wp2_with fail
                          refine hle.mono ?_
                          rintro e w8 ⟨rfl, hb8⟩
                          have hXr8 := hXr.trans (hb8.mono (by have := hXr.size; simpa using this))
                          obtain ⟨p, p0, p1, p2⟩ := box3 hXr8
                          go_wp2_with fail
                          refine (hla w8 hb8).mono ?_
                          rintro e w9 ⟨rfl, hb9⟩
                          have hb89 := hb8.trans (hb9.mono hb8.size)
                          go_wp2
                          go_roundw
                          case rel => exact ⟨a + 1, false, by go_num, rfl, by omega, by show false = _; rw [HST.out]; simp, own_below HO.out hb89, HB.out.trans (hb89.mono HB.out.size)⟩
                          case measure => simp [intOf]; omega
                        · as_aux_lemma =>
                          go_wp2_with fail
                          refine hle.mono ?_
                          rintro e w8 ⟨rfl, hb8⟩
                          have hXr8 := hXr.trans (hb8.mono (by have := hXr.size; simpa using this))
                          obtain ⟨p, p0, p1, p2⟩ := box3 hXr8
                          go_wp2_with fail
                          refine (hla w8 hb8).mono ?_
                          rintro e w9 ⟨rfl, hb9⟩
                          have hb89 := hb8.trans (hb9.mono hb8.size)
                          go_wp2
                          go_roundw
                          case rel => exact ⟨a + 1, fr, by go_num, rfl, by omega, by show fr = _; rw [HST.out, HFR.out]; simp, own_below HO.out hb89, HB.out.trans (hb89.mono HB.out.size)⟩
                          case measure => simp [intOf]; omega
                  · obtain rfl : a = F.blocks.length := by omega
                    have hfz := ho.frozenAt b
                    have hcg := own_bool ho hlt
                    have hll := left_le (t := g')
                    rw [HM.out.1.len] at hll
                    have hlf := left_set (t := g') (y := b) (by rw [HM.out.1.len]; exact hlt) HGT.out
                    have hst := (ho.stored b (.bool true)).1
                    rw [bool_set] at hst
                    have HS := Lib.hid hst
                    have HO := Lib.hid ho
                    have HB := Lib.hid hb
                    rw [HGT.out] at hcg
                    clear hst ho hb
                    cases fr
                    · as_aux_lemma =>
                      clear hlf
                      go_wp2
                      go_roundw
                      case rel => exact ⟨b + 1, g', ag, by go_num, rfl, rfl, by omega, HM.out.skip (.inr HFR.out.symm), HO.out, HB.out⟩
                      case measure => simp [intOf]; omega
                    · as_aux_lemma =>
                      have HLF := Lib.hid hlf
                      have hpos : 1 ≤ left g' := by omega
                      clear hlf
                      go_wp2
                      go_roundw
                      case rel => exact ⟨b + 1, g'.set b true, true, by go_num, by have := HLF.out; congr 1; omega, rfl, by omega, HM.out.take HT.out hlt HGT.out HFR.out.symm, HS.out, HB.out.setCell (by simp) _⟩
                      case measure => simp [intOf]; omega
            · obtain rfl : b = F.blocks.length := by omega
              have HO := Lib.hid ho
              have HB := Lib.hid hb
              clear ho hb
              go_wp2
              go_roundg gk'
              case measure => omega
              case rel =>
                refine ⟨g', ag, rfl, rfl, ⟨HM.out.1, ?_, fun e => ?_⟩, HO.out, HB.out⟩
                · have h1 := HG1.out.2.1
                  have h2 := HM.out.2.1
                  have h3 := HM.out.2.2.1
                  cases ag
                  · simp at h1 ⊢; omega
                  · have := h3 rfl
                    simp at h1 ⊢; omega
                · exact (HM.out.2.2.2 e).2
end Go.Proofs.YteajnaabbddohaaGreatDoor
namespace Go.Proofs.YteajnaabbddohaaGreatDoor
open Go.RowKit
set_option maxRecDepth 100000

section
variable {F : PFunc} {h b x : Nat}
theorem latB_mem (ht : typedP F = true) (hx : x < F.blocks.length) : latB F h x = true ↔ x ∈ latL F h := by
  unfold latB
  rw [Bool.and_eq_true, mem_latL ht, ← EN_leads ht hx]
  exact ⟨fun ⟨h1, h2⟩ => ⟨hx, h2, h1⟩, fun ⟨_, h2, h1⟩ => ⟨h1, h2⟩⟩
/-- is h a head? -/
noncomputable def hdB (F : PFunc) (h : Nat) : Bool := decide (0 < (latL F h).length)
theorem hdB_yes (ht : typedP F = true) (hx : x < F.blocks.length) (hl : latB F h x = true) : hdB F h = true := decide_eq_true (List.length_pos_of_mem ((latB_mem ht hx).1 hl))
theorem hdB_no (ht : typedP F = true) (hall : ∀ x, x < F.blocks.length → latB F h x = false) : hdB F h = false := by
  refine decide_eq_false fun hp => ?_
  obtain ⟨x, hx⟩ := List.exists_mem_of_length_pos hp
  have hxn := ((mem_latL ht).1 hx).1
  rw [← latB_mem ht hxn, hall x hxn] at hx
  cases hx
/-- the document's word for: in the loop. -/
noncomputable def inR (F : PFunc) (h b : Nat) : Bool := (lpL F (latL F h) h).getD b false
theorem inR_self (hh : h < F.blocks.length) : inR F h h = true := (lpL_in hh).2 (.inl rfl)
theorem inR_out (hb : b < F.blocks.length) (hbh : b ≠ h) (ho : tabB F b b = false) : inR F h b = false := by
  cases hi : inR F h b
  · rfl
  · rcases (lpL_in hb).1 hi with e | hp
    · exact absurd e hbh
    · rw [tab_self (plus_ne hp).2] at ho
      cases ho
/-- does x show that b is in the loop? -/
noncomputable def witB (F : PFunc) (h b x : Nat) : Bool := latB F h x && !(decide (x = h)) && (decide (x = b) || (plusL (RF F (h : Int)) F.blocks.length b).getD x false)
theorem inR_wit (ht : typedP F = true) (hb : b < F.blocks.length) (hbh : b ≠ h) (ho : tabB F b b = true) : inR F h b = true ↔ ∃ x, x < F.blocks.length ∧ witB F h b x = true := by
  have hO := tab_diag.1 ho
  unfold inR
  rw [lpL_in hb]
  unfold inLp
  rw [or_iff_right hbh, plus_ref ht hO hbh]
  unfold witB
  constructor
  · rintro ⟨x, h1, h2, h3⟩
    have hx := ((mem_latL ht).1 h1).1
    refine ⟨x, hx, ?_⟩
    rw [Bool.and_eq_true, Bool.and_eq_true, Bool.or_eq_true, latB_mem ht hx, plusL_at hx]
    exact ⟨⟨h1, by simpa using h2⟩, by simpa using h3⟩
  · rintro ⟨x, hx, h1⟩
    rw [Bool.and_eq_true, Bool.and_eq_true, Bool.or_eq_true, latB_mem ht hx, plusL_at hx] at h1
    exact ⟨x, h1.1.1, by simpa using h1.1.2, by simpa using h1.2⟩
/-- the row of the loop of h, or none. -/
noncomputable def bodyRow (F : PFunc) (h : Nat) : List Bool := if hdB F h = true then lpL F (latL F h) h else []
theorem bodyRow_le : (bodyRow F h).length ≤ F.blocks.length := by
  unfold bodyRow
  split
  · rw [lpL_len]; exact Nat.le_refl _
  · simp
end
set_option maxHeartbeats 4000000 in
theorem refHead_calls {W w : World} {fv : Value} {F : PFunc} {b0 c : Nat} (hF : FnV W W.heap.size fv F) (hW : Below W.heap.size W w) (hT : typedP F = true) (hTa : TabR w b0 F.blocks.length (tabB F)) (h : Nat) (hh : h < F.blocks.length) :
    Calls Tryz.prog 58 #[fv, .slice (some ⟨b0, 0, none⟩) F.blocks.length c, .int .i64 (h : Int)] w fun e w' => e = .returned (.bool (hdB F h)) ∧ Below w.heap.size w w' := by
  obtain ⟨n1, n2⟩ := shaped_count (typed_shaped hT)
  have hWs := hW.size
  have HLA := Lib.hid (fun (w' : World) (hw : Below w.heap.size w w') (a : Nat) (ha : a < F.blocks.length) => latch_calls (c := c) hF (hW.trans (hw.mono hWs)) n2 (hTa.below hw) h a hh ha)
  obtain ⟨A0, c0, A1, c1, A2, c2, rfl, l0, l1, l2, -⟩ := id hF.open_
  unfold Len at *
  have hb0 := (Below.refl w.heap.size w).alloc (Nat.le_refl _) (.cells #[.slice A0 F.vars.length c0, .slice A1 F.params.length c1, .slice A2 F.blocks.length c2] 26)
  have HT := Lib.hid hT
  clear hTa hT
  go_enter Tryz.func58, Tryz.ntmps58
  go_wp2
  go_loopw [11] (fun x wr => ∃ k : Nat, x = .int .i64 k ∧ k ≤ F.blocks.length ∧ Hid (∀ y, y < k → latB F h y = false) ∧ Below (w.heap.size + 1) (w.alloc (.cells #[.slice A0 F.vars.length c0, .slice A1 F.params.length c1, .slice A2 F.blocks.length c2] 26)) wr) (fun x _ => F.blocks.length - (intOf x).toNat)
  case atStart => exact ⟨0, rfl, Nat.zero_le _, (fun y hy => absurd hy (Nat.not_lt_zero _)), Below.refl _ _⟩
  case round => as_aux_lemma =>
    obtain ⟨k, rfl, hk, HN, hb⟩ := hrel
    obtain ⟨q, q0, q1, q2⟩ := box3 hb
    have hB := hb0.trans (hb.mono (Nat.le_succ _))
    by_cases hlt : k < F.blocks.length
    · have hkn : (k : Int) < (F.blocks.length : Int) := by omega
      have hla := HLA.out wr hB k hlt
      obtain ⟨T, hT'⟩ : ∃ T, latB F h k = T := ⟨_, rfl⟩
      rw [hT'] at hla
      have HTT := Lib.hid hT'
      have HB := Lib.hid hB
      have HBX := Lib.hid hb
      clear hT' hb hB
      cases T
      · as_aux_lemma =>
        go_wp2_with fail
        refine hla.mono ?_
        rintro e w8 ⟨rfl, hb8⟩
        go_wp2
        go_roundw
        case rel => exact ⟨k + 1, by go_num, by omega, (fun y hy => by
          rcases Nat.lt_succ_iff_lt_or_eq.1 hy with h1 | rfl
          · exact HN.out y h1
          · exact HTT.out), HBX.out.trans (hb8.mono (by have := HBX.out.size; simpa using this))⟩
        case measure => simp [intOf]; omega
      · as_aux_lemma =>
        go_wp2_with fail
        refine hla.mono ?_
        rintro e w8 ⟨rfl, hb8⟩
        go_wp2
        go_ret
        exact ⟨ret_bool (hdB_yes HT.out hlt HTT.out).symm, HB.out.trans (hb8.mono HB.out.size)⟩
    · obtain rfl : k = F.blocks.length := by omega
      have HB := Lib.hid hB
      clear hb hB
      go_wp2
      go_ret
      exact ⟨ret_bool (hdB_no HT.out HN.out).symm, HB.out⟩
set_option maxHeartbeats 8000000 in
theorem refIn_calls {W w : World} {fv : Value} {F : PFunc} {b0 c : Nat} (hF : FnV W W.heap.size fv F) (hW : Below W.heap.size W w) (hT : typedP F = true) (hTa : TabR w b0 F.blocks.length (tabB F)) (h b : Nat) (hh : h < F.blocks.length) (hb : b < F.blocks.length) :
    Calls Tryz.prog 59 #[fv, .slice (some ⟨b0, 0, none⟩) F.blocks.length c, .int .i64 (h : Int), .int .i64 (b : Int)] w fun e w' => e = .returned (.bool (inR F h b)) ∧ Below w.heap.size w w' := by
  obtain ⟨n1, n2⟩ := shaped_count (typed_shaped hT)
  have hWs := hW.size
  have HLA := Lib.hid (fun (w' : World) (hw : Below w.heap.size w w') (a : Nat) (ha : a < F.blocks.length) => latch_calls (c := c) hF (hW.trans (hw.mono hWs)) n2 (hTa.below hw) h a hh ha)
  have hfr := fun (w' : World) (hw : Below W.heap.size W w') => from_calls hF hw n1 n2 b (h : Int)
  obtain ⟨A0, c0, A1, c1, A2, c2, rfl, l0, l1, l2, -⟩ := id hF.open_
  unfold Len at *
  have hb0 := (Below.refl w.heap.size w).alloc (Nat.le_refl _) (.cells #[.slice A0 F.vars.length c0, .slice A1 F.params.length c1, .slice A2 F.blocks.length c2] 26)
  have HT := Lib.hid hT
  obtain ⟨htb, hTa⟩ := hTa
  obtain ⟨r, hr, hrl, hrc⟩ := hTa b hb
  have hcb := hrc b hb
  have fb : (b : Int) < (F.blocks.length : Int) := by omega
  clear hTa hT hrc
  by_cases hbh : b = h
  · subst hbh
    have HS := Lib.hid (inR_self hb)
    go_enter Tryz.func59, Tryz.ntmps59
    go_wp2
    go_ret
    exact ⟨ret_bool HS.out.symm, hb0⟩
  have e0 : ((b : Int) == (h : Int)) = false := by rw [beq_eq_false_iff_ne]; omega
  obtain ⟨T0, hT0⟩ : ∃ T, tabB F b b = T := ⟨_, rfl⟩
  rw [hT0] at hcb
  have HT0 := Lib.hid hT0
  have HBH := Lib.hid hbh
  clear hT0 hbh
  cases T0
  · have HS := Lib.hid (inR_out hb HBH.out HT0.out)
    go_enter Tryz.func59, Tryz.ntmps59
    go_wp2
    go_ret
    exact ⟨ret_bool HS.out.symm, hb0⟩
  have HW := Lib.hid (inR_wit HT.out hb HBH.out HT0.out)
  go_enter Tryz.func59, Tryz.ntmps59
  go_wp2_with fail
  refine (hfr _ (by (focus repeat (first | assumption | exact Below.refl _ _ | refine Below.drew ?_ | refine Below.alloc ?_ (by first | omega | exact Below.size (by assumption) | (simp; done) | (simp; omega)) _ | refine Below.setCell ?_ (by first | omega | exact Below.size (by assumption) | (simp; done) | (simp; omega)) _ | refine below_setRow ?_ (by first | omega | exact Below.size (by assumption) | (simp; done) | (simp; omega)) _ | (refine Below.trans ?_ (Below.mono (by assumption) ?_); rotate_left; exact (by first | omega | exact Below.size (by assumption) | (simp; done) | (simp; omega))))))).mono ?_
  rintro e w5 ⟨g5, rfl, ho5, hb5⟩
  have hX5 : Below (w.heap.size + 1) (w.alloc (.cells #[.slice A0 F.vars.length c0, .slice A1 F.params.length c1, .slice A2 F.blocks.length c2] 26)) w5 := by simpa using hb5
  obtain ⟨q, q0, q1, q2⟩ := box3 hX5
  have hB5 := hb0.trans (hX5.mono (Nat.le_succ _))
  have HO5 := Lib.hid ho5
  have HX5 := Lib.hid hX5
  have HB5 := Lib.hid hB5
  clear hb5 hfr ho5 hX5 hB5 hcb hr
  go_wp2
  clear q q0 q1 q2
  go_loopw [29] (fun x wr => ∃ k : Nat, x = .int .i64 k ∧ k ≤ F.blocks.length ∧ Hid (∀ y, y < k → witB F h b y = false) ∧ Below w5.heap.size w5 wr) (fun x _ => F.blocks.length - (intOf x).toNat)
  case atStart => exact ⟨0, rfl, Nat.zero_le _, (fun y hy => absurd hy (Nat.not_lt_zero _)), Below.refl _ _⟩
  case round => as_aux_lemma =>
    obtain ⟨k, rfl, hk, HN, hbr⟩ := hrel
    obtain ⟨q, q0, q1, q2⟩ := box3 (HX5.out.trans (hbr.mono (by have := HX5.out.size; simpa using this)))
    have hB := HB5.out.trans (hbr.mono HB5.out.size)
    by_cases hlt : k < F.blocks.length
    · have hkn : (k : Int) < (F.blocks.length : Int) := by omega
      have hla := HLA.out wr hB k hlt
      have hno : witB F h b k = false → Hid (∀ y, y < k + 1 → witB F h b y = false) := fun e => (fun y hy => by
        rcases Nat.lt_succ_iff_lt_or_eq.1 hy with h1 | rfl
        · exact HN.out y h1
        · exact e)
      have hyes : witB F h b k = true → Hid (inR F h b = true) := fun e => HW.out.2 ⟨k, hlt, e⟩
      have hdef : witB F h b k = (latB F h k && !(decide (k = h)) && (decide (k = b) || (plusL (RF F (h : Int)) F.blocks.length b).getD k false)) := rfl
      rw [hdef] at hno hyes
      obtain ⟨T, hT'⟩ : ∃ T, latB F h k = T := ⟨_, rfl⟩
      rw [hT'] at hla hno hyes
      have HB := Lib.hid hB
      have HBR := Lib.hid hbr
      clear hT' hbr hB hdef
      cases T
      · as_aux_lemma =>
        have HNO := hno rfl
        clear hno hyes
        go_wp2_with fail
        refine hla.mono ?_
        rintro e w8 ⟨rfl, hb8⟩
        go_wp2
        go_roundw
        case rel => exact ⟨k + 1, by go_num, by omega, HNO, HBR.out.trans (hb8.mono HBR.out.size)⟩
        case measure => simp [intOf]; omega
      by_cases hkh : k = h
      · as_aux_lemma =>
        subst hkh
        have HNO := hno (by simp)
        clear hno hyes
        go_wp2_with fail
        refine hla.mono ?_
        rintro e w8 ⟨rfl, hb8⟩
        go_wp2
        go_roundw
        case rel => exact ⟨k + 1, by go_num, by omega, HNO, HBR.out.trans (hb8.mono HBR.out.size)⟩
        case measure => simp [intOf]; omega
      have e1 : ((k : Int) != (h : Int)) = true := by rw [bne_iff_ne]; omega
      by_cases hkb : k = b
      · as_aux_lemma =>
        subst hkb
        have HY := hyes (by simp [hkh])
        clear hno hyes hkh
        go_wp2_with fail
        refine hla.mono ?_
        rintro e w8 ⟨rfl, hb8⟩
        go_wp2
        go_ret
        exact ⟨ret_bool HY.out.symm, HB.out.trans (hb8.mono HB.out.size)⟩
      have e2 : ((k : Int) == (b : Int)) = false := by rw [beq_eq_false_iff_ne]; omega
      obtain ⟨T2, hT2⟩ : ∃ T, (plusL (RF F (h : Int)) F.blocks.length b).getD k false = T := ⟨_, rfl⟩
      rw [hT2] at hno hyes
      have HT2 := Lib.hid hT2
      clear hT2
      cases T2
      · as_aux_lemma =>
        have HNO := hno (by simp [hkb])
        clear hno hyes hkh hkb
        go_wp2_with fail
        refine hla.mono ?_
        rintro e w8 ⟨rfl, hb8⟩
        have ho8 := own_below (own_below HO5.out HBR.out) hb8
        have hc8 := own_bool ho8 hlt
        rw [HT2.out] at hc8
        have hg8 := (ho8.lt _ rfl).2
        clear ho8
        go_wp2
        go_roundw
        case rel => exact ⟨k + 1, by go_num, by omega, HNO, HBR.out.trans (hb8.mono HBR.out.size)⟩
        case measure => simp [intOf]; omega
      · as_aux_lemma =>
        have HY := hyes (by simp [hkh])
        clear hno hyes hkh hkb
        go_wp2_with fail
        refine hla.mono ?_
        rintro e w8 ⟨rfl, hb8⟩
        have ho8 := own_below (own_below HO5.out HBR.out) hb8
        have hc8 := own_bool ho8 hlt
        rw [HT2.out] at hc8
        have hg8 := (ho8.lt _ rfl).2
        clear ho8
        go_wp2
        go_ret
        exact ⟨ret_bool HY.out.symm, HB.out.trans (hb8.mono HB.out.size)⟩
    · obtain rfl : k = F.blocks.length := by omega
      have HNN := Lib.hid (show inR F h b = false by
        cases e : inR F h b
        · rfl
        · obtain ⟨x, hx, hw⟩ := HW.out.1 e
          rw [HN.out x hx] at hw
          cases hw)
      have HB := Lib.hid hB
      clear hbr hB
      go_wp2
      go_ret
      exact ⟨ret_bool HNN.out.symm, HB.out⟩
/-- the rows of the loops in memory. -/
def BodV (w : World) (base : Nat) (F : PFunc) (k : Nat) (v : Value) (vs : List Value) : Prop := w.ownsRow base 45 1 v k vs ∧ ∀ (i : Nat) (x : Value), vs[i]? = some x → w.ownsRow base 4 1 x (bodyRow F i).length ((bodyRow F i).map Value.bool)
theorem BodV.below {w w' : World} {base k : Nat} {F : PFunc} {v : Value} {vs : List Value} (h : BodV w base F k v vs) (hb : Below w.heap.size w w') : BodV w' base F k v vs :=
  ⟨own_below h.1 hb, fun i x hx => own_below (h.2 i x hx) hb⟩
theorem BodV.more {w w3 : World} {base k : Nat} {F : PFunc} {v v' x : Value} {vs : List Value} {o : Obj} (h : BodV w base F k v vs) (hx : w.ownsRow base 4 1 x (bodyRow F k).length ((bodyRow F k).map Value.bool)) (hown : w3.ownsRow base 45 1 v' (k + 1) (vs ++ [x])) (hg : (w.alloc o).grownBy w3 v.ownBlock) : BodV w3 base F (k + 1) v' (vs ++ [x]) := by
  have hk : ∀ {y : Value} {n : Nat} {xs : List Value}, w.ownsRow base 4 1 y n xs → w3.ownsRow base 4 1 y n xs := fun hy => own_grown hy ((Below.refl _ _).alloc (Nat.le_refl _) _) hg (fun b hb => own_ne hy h.1 (by decide) hb)
  refine ⟨hown, fun i y hy => ?_⟩
  have hvl : vs.length = k := by have := h.1.1; omega
  rcases Nat.lt_or_ge i vs.length with hi | hi
  · rw [List.getElem?_append_left hi] at hy
    exact hk (h.2 i y hy)
  · rw [List.getElem?_append_right hi] at hy
    rcases Nat.eq_zero_or_pos (i - vs.length) with h0 | h0
    · rw [h0] at hy
      simp at hy
      subst hy
      obtain rfl : i = k := by omega
      exact hk hx
    · rw [List.getElem?_eq_none (by simp; omega)] at hy
      cases hy
set_option maxHeartbeats 8000000 in
theorem bodies_calls {W w : World} {fv : Value} {F : PFunc} (hF : FnV W W.heap.size fv F) (hW : Below W.heap.size W w) (hT : typedP F = true) :
    Calls Tryz.prog 27 #[fv] w fun e w' => ∃ v vs, e = .returned v ∧ BodV w' w.heap.size F F.blocks.length v vs ∧ Below w.heap.size w w' := by
  have hWs := hW.size
  obtain ⟨n1, n2⟩ := shaped_count (typed_shaped hT)
  have htb := fun (w' : World) (h : Below W.heap.size W w') => table_calls hF h hT
  have HHD := Lib.hid (fun (w' : World) (hw : Below W.heap.size W w') (b0 c : Nat) (h2 : TabR w' b0 F.blocks.length (tabB F)) (h : Nat) (hh : h < F.blocks.length) => refHead_calls (c := c) hF hw hT h2 h hh)
  have HIN := Lib.hid (fun (w' : World) (hw : Below W.heap.size W w') (b0 c : Nat) (h2 : TabR w' b0 F.blocks.length (tabB F)) (h b : Nat) (hh : h < F.blocks.length) (hb : b < F.blocks.length) => refIn_calls (c := c) hF hw hT h2 h b hh hb)
  obtain ⟨A0, c0, A1, c1, A2, c2, rfl, l0, l1, l2, -⟩ := id hF.open_
  unfold Len at *
  have hb0 := (Below.refl w.heap.size w).alloc (Nat.le_refl _) (.cells #[.slice A0 F.vars.length c0, .slice A1 F.params.length c1, .slice A2 F.blocks.length c2] 26)
  clear hT
  go_enter Tryz.func27, Tryz.ntmps27
  go_wp2_with fail
  refine (htb _ (by (focus repeat (first | assumption | exact Below.refl _ _ | refine Below.drew ?_ | refine Below.alloc ?_ (by first | omega | exact Below.size (by assumption) | (simp; done) | (simp; omega)) _ | refine Below.setCell ?_ (by first | omega | exact Below.size (by assumption) | (simp; done) | (simp; omega)) _ | refine below_setRow ?_ (by first | omega | exact Below.size (by assumption) | (simp; done) | (simp; omega)) _ | (refine Below.trans ?_ (Below.mono (by assumption) ?_); rotate_left; exact (by first | omega | exact Below.size (by assumption) | (simp; done) | (simp; omega))))))).mono ?_
  rintro e w5 ⟨v, rfl, hTV, hb5⟩
  obtain ⟨tb0, tc, rfl, htc, hTab⟩ := hTV.open_
  have hX5 : Below (w.heap.size + 1) (w.alloc (.cells #[.slice A0 F.vars.length c0, .slice A1 F.params.length c1, .slice A2 F.blocks.length c2] 26)) w5 := by simpa using hb5
  have hB5 := hb0.trans (hX5.mono (Nat.le_succ _))
  obtain ⟨q, q0, q1, q2⟩ := box3 hX5
  have HTab := Lib.hid hTab
  have HB5 := Lib.hid hB5
  have HX5 := Lib.hid hX5
  clear hTV hTab hb5 htb hB5 hX5
  go_wp2
  clear q q0 q1 q2
  go_loopw [13, 4] (fun x v4 wr => ∃ (k : Nat) (vs : List Value), x = .int .i64 k ∧ k ≤ F.blocks.length ∧ BodV wr w5.heap.size F k v4 vs ∧ Below w5.heap.size w5 wr) (fun x _ _ => F.blocks.length - (intOf x).toNat)
  case atStart => exact ⟨0, [], rfl, Nat.zero_le _, ⟨World.ownsRow_nil _ _ _ _, fun i x hx => by simp at hx⟩, Below.refl _ _⟩
  case round => as_aux_lemma =>
    obtain ⟨k, vs, rfl, hk, hV, hb⟩ := hrel
    obtain ⟨Av, cv, rfl⟩ := own_form hV.1
    obtain ⟨q, q0, q1, q2⟩ := box3 (HX5.out.trans (hb.mono (by have := HX5.out.size; simpa using this)))
    have hB := HB5.out.trans (hb.mono HB5.out.size)
    by_cases hlt : k < F.blocks.length
    · have hkn : (k : Int) < (F.blocks.length : Int) := by omega
      have hhd := HHD.out wr (hW.trans (hB.mono hWs)) tb0 tc (HTab.out.below hb) k hlt
      obtain ⟨T, hT'⟩ : ∃ T, hdB F k = T := ⟨_, rfl⟩
      rw [hT'] at hhd
      have HTT := Lib.hid hT'
      have HV := Lib.hid hV
      have HB := Lib.hid hb
      clear hT' hV hb hB
      cases T
      · as_aux_lemma =>
        have HBR := Lib.hid (show bodyRow F k = [] by unfold bodyRow; rw [HTT.out]; exact if_neg (by simp))
        go_wp2_with fail
        refine hhd.mono ?_
        rintro e w8 ⟨rfl, hb8⟩
        have hV8 := HV.out.below hb8
        have hB8 := HB.out.trans (hb8.mono HB.out.size)
        have ho8 := hV8.1
        have hs8 := hB8.size
        have HV8 := Lib.hid hV8
        clear hV8
        go_wp2_with (at_builtin; refine wpList_append1F _ rfl _ _ 66 rfl w5.heap.size 45 24 Tryz.underlying66 Tryz.info45 rfl _ _ _ rfl ho8 _ rfl (.slice none 0 0) (by rfl) rfl (by omega) (by decide) hs8 ?_; intro v' w9 hown9 hg9 hfr9; obtain ⟨A9, c9, hv9⟩ := own_form hown9; subst hv9)
        go_roundw
        case rel => exact ⟨k + 1, _, by go_num, by omega, HV8.out.more (by rw [HBR.out]; exact World.ownsRow_nil _ _ _ _) hown9 hg9, grown_below ho8 hg9 hB8 (Nat.le_refl _) hs8⟩
        case measure => simp [intOf]; omega
      · as_aux_lemma =>
        have HBR := Lib.hid (show bodyRow F k = lpL F (latL F k) k by unfold bodyRow; rw [HTT.out]; exact if_pos rfl)
        go_wp2_with fail
        refine hhd.mono ?_
        rintro e w8 ⟨rfl, hb8⟩
        have hV8 := HV.out.below hb8
        have hB8 := HB.out.trans (hb8.mono HB.out.size)
        have HV8 := Lib.hid hV8
        have HB8 := Lib.hid hB8
        clear q q0 q1 q2
        obtain ⟨q, q0, q1, q2⟩ := box3 (HX5.out.trans (hB8.mono (by have := HX5.out.size; simpa using this)))
        clear hV8 hB8
        go_wp2
        clear q q0 q1 q2
        go_loopw [23, 6] (fun x v6 wr => ∃ j : Nat, x = .int .i64 j ∧ j ≤ F.blocks.length ∧ wr.ownsRow w8.heap.size 4 1 v6 j (((lpL F (latL F k) k).take j).map Value.bool) ∧ Below w8.heap.size w8 wr) (fun x _ _ => F.blocks.length - (intOf x).toNat)
        case atStart => exact ⟨0, rfl, Nat.zero_le _, World.ownsRow_nil _ _ _ _, Below.refl _ _⟩
        case round => as_aux_lemma =>
          obtain ⟨j, rfl, hj, ho, hbj⟩ := hrel
          obtain ⟨Aw, cw, rfl⟩ := own_form ho
          have hBj := HB8.out.trans (hbj.mono HB8.out.size)
          obtain ⟨q, q0, q1, q2⟩ := box3 (HX5.out.trans (hBj.mono (by have := HX5.out.size; simpa using this)))
          by_cases hjl : j < F.blocks.length
          · have hjn : (j : Int) < (F.blocks.length : Int) := by omega
            have hin := HIN.out wr (hW.trans ((HB5.out.trans (hBj.mono HB5.out.size)).mono hWs)) tb0 tc (HTab.out.below hBj) k j hlt hjl
            have HS := Lib.hid (show (lpL F (latL F k) k).take (j + 1) = (lpL F (latL F k) k).take j ++ [inR F k j] by
              have hl : j < (lpL F (latL F k) k).length := by rw [lpL_len]; exact hjl
              rw [List.take_add_one, List.getElem?_eq_getElem hl]
              unfold inR
              rw [getD_get hl]
              rfl)
            generalize inR F k j = z at hin HS
            go_wp2_with fail
            refine hin.mono ?_
            rintro e w10 ⟨rfl, hb10⟩
            have ho10 := own_below ho hb10
            have hB10 := hbj.trans (hb10.mono hbj.size)
            have hs10 := hB10.size
            go_wp2_with (at_builtin; refine wpList_append1F _ rfl _ _ 45 rfl w8.heap.size 4 1 Tryz.underlying45 Tryz.info4 rfl _ _ _ rfl ho10 _ rfl (.bool z) (by rfl) rfl (by omega) (by decide) hs10 ?_; intro v' w9 hown9 hg9 hfr9; obtain ⟨A9, c9, hv9⟩ := own_form hown9; subst hv9)
            go_roundw
            case rel =>
              refine ⟨j + 1, by go_num, by omega, ?_, grown_below ho10 hg9 hB10 (Nat.le_refl _) hs10⟩
              rw [HS.out]
              simpa using hown9
            case measure => simp [intOf]; omega
          · obtain rfl : j = F.blocks.length := by omega
            have hll : (lpL F (latL F k) k).length = F.blocks.length := lpL_len
            rw [List.take_of_length_le (by omega)] at ho
            have hV9 := HV8.out.below hbj
            have ho9 := hV9.1
            have hs9 := hBj.size
            have HV9 := Lib.hid hV9
            have HRO := Lib.hid (show wr.ownsRow w5.heap.size 4 1 (.slice Aw F.blocks.length cw) (bodyRow F k).length ((bodyRow F k).map Value.bool) by rw [HBR.out, hll]; exact own_base ho HB8.out.size)
            clear hV9 ho hll
            go_wp2_with (at_builtin; refine wpList_append1F _ rfl _ _ 66 rfl w5.heap.size 45 24 Tryz.underlying66 Tryz.info45 rfl _ _ _ rfl ho9 _ rfl (.slice Aw F.blocks.length cw) (by rfl) rfl (by omega) (by decide) hs9 ?_; intro v' w9 hown9 hg9 hfr9; obtain ⟨A9, c9, hv9⟩ := own_form hown9; subst hv9)
            go_roundw
            case rel => exact ⟨k + 1, _, by go_num, by omega, HV9.out.more HRO.out hown9 hg9, grown_below ho9 hg9 hBj (Nat.le_refl _) hs9⟩
            case measure => simp [intOf]; omega
    · obtain rfl : k = F.blocks.length := by omega
      have HV := Lib.hid hV
      have HB := Lib.hid hB
      clear hV hb hB
      go_wp2
      go_ret
      exact ⟨_, _, rfl, ⟨own_base HV.out.1 HB5.out.size, fun i x hx => own_base (HV.out.2 i x hx) HB5.out.size⟩, HB.out⟩
end Go.Proofs.YteajnaabbddohaaGreatDoor
namespace Go.Proofs.YteajnaabbddohaaGreatDoor
open Go.RowKit
set_option maxRecDepth 100000

theorem nofNil_calls {w : World} {base : Nat} {F : PFunc} {h : Int} : OfC w (.pointer none) base F false h := by
  intro W hW
  clear hW
  go_enter Tryz.func48, Tryz.ntmps48
  go_wp2
  refine bodyPost_ret (v := .tuple #[.agg #[.slice none 0 0, .slice none 0 0, .int .i64 0], .bool false]) (by simp [results, Tryz.results48, go_sem]) rfl ⟨ring0, rfl, .inr ⟨rfl, rfl⟩, by (focus repeat (first | assumption | exact Below.refl _ _ | refine Below.drew ?_ | refine Below.alloc ?_ (by first | omega | exact Below.size (by assumption) | (simp; done) | (simp; omega)) _ | refine Below.setCell ?_ (by first | omega | exact Below.size (by assumption) | (simp; done) | (simp; omega)) _ | refine below_setRow ?_ (by first | omega | exact Below.size (by assumption) | (simp; done) | (simp; omega)) _ | (refine Below.trans ?_ (Below.mono (by assumption) ?_); rotate_left; exact (by first | omega | exact Below.size (by assumption) | (simp; done) | (simp; omega)))))⟩
theorem loopNewNo_calls {W w : World} {fv : Value} {F : PFunc} (hU : Uni W) (hF : FnV W W.heap.size fv F) (hW : Below W.heap.size W w) (hS : Small F) (hT : typedP F = false) :
    Calls Tryz.prog 12 #[fv] w fun e w' => e = .returned (.tuple #[.pointer none, .int .i64 3]) ∧ Below w.heap.size w w' := by
  have hn := fun (w : World) (h : Below W.heap.size W w) => newNo_calls hU hF h hS hT
  have hWs := hW.size
  obtain ⟨A0, c0, A1, c1, A2, c2, rfl, -⟩ := id hF.open_
  clear hT hU hS
  have hb0 := (Below.refl w.heap.size w).alloc (Nat.le_refl _) (.cells #[.slice A0 F.vars.length c0, .slice A1 F.params.length c1, .slice A2 F.blocks.length c2] 26)
  go_enter Tryz.func12, Tryz.ntmps12
  go_wp2_with fail
  refine (hn _ (by (focus repeat (first | assumption | exact Below.refl _ _ | refine Below.drew ?_ | refine Below.alloc ?_ (by first | omega | exact Below.size (by assumption) | (simp; done) | (simp; omega)) _ | refine Below.setCell ?_ (by first | omega | exact Below.size (by assumption) | (simp; done) | (simp; omega)) _ | refine below_setRow ?_ (by first | omega | exact Below.size (by assumption) | (simp; done) | (simp; omega)) _ | (refine Below.trans ?_ (Below.mono (by assumption) ?_); rotate_left; exact (by first | omega | exact Below.size (by assumption) | (simp; done) | (simp; omega))))))).mono ?_
  rintro e w3 ⟨rfl, hb3⟩
  go_wp2
  go_ret2
  exact ⟨rfl, hb0.trans (hb3.mono (by simp))⟩
theorem depth_calls {w : World} {nv : Value} {l : List Nat} {b : Int} {f : Nat → Bool} (hH : HeadsC w nv l) (hl : l.length ≤ 64) (hI : ∀ h ∈ l, ∀ W, Below w.heap.size w W → Calls Tryz.prog 16 #[nv, .int .i64 (h : Int), .int .i64 b] W fun e W' => e = .returned (.bool (f h)) ∧ Below W.heap.size W W') :
    Calls Tryz.prog 25 #[nv, .int .i64 b] w fun e w' => e = .returned (.int .i64 ((l.filter f).length : Nat)) ∧ Below w.heap.size w w' := by
  have hh := hH w (Below.refl _ _)
  have HI := Lib.hid hI
  clear hH hI
  go_enter Tryz.func25, Tryz.ntmps25
  go_wp2_with fail
  refine hh.mono ?_
  rintro e w1 ⟨v, rfl, ho, hb1⟩
  obtain ⟨Av, cv, rfl⟩ := own_form ho
  have HO := Lib.hid ho
  have HB1 := Lib.hid hb1
  clear ho hb1 hh
  go_wp2
  go_loopw [11, 5] (fun x x5 wr => ∃ i : Nat, x = .int .i64 i ∧ x5 = .int .i64 (((l.take i).filter f).length : Nat) ∧ i ≤ l.length ∧ Below w1.heap.size w1 wr) (fun x _ _ => l.length - (intOf x).toNat)
  case atStart => exact ⟨0, rfl, rfl, Nat.zero_le _, Below.refl _ _⟩
  case round => as_aux_lemma =>
    obtain ⟨i, rfl, rfl, hi, hb⟩ := hrel
    by_cases hlt : i < l.length
    · obtain ⟨a, hai⟩ : ∃ a, l[i]? = some a := ⟨_, List.getElem?_eq_getElem hlt⟩
      have ho := own_below HO.out hb
      obtain ⟨gh, ch', hvh, hghl, -⟩ := own_pos ho (by omega)
      cases hvh
      have hca := ho.cellAt i (by omega)
      rw [show ((ints l).map (Value.int .i64))[i]? = some (.int .i64 (a : Int)) by simp [ints, hai]] at hca
      have hin := HI.out a (List.mem_of_getElem? hai) wr (HB1.out.trans (hb.mono HB1.out.size))
      have hle : ((l.take i).filter f).length ≤ i := Nat.le_trans (List.length_filter_le _ _) (by rw [List.length_take]; omega)
      have hst : ((l.take (i + 1)).filter f).length = ((l.take i).filter f).length + (f a).toNat := by
        rw [List.take_add_one, hai, List.filter_append]
        cases h : f a <;> simp [h]
      have HST := Lib.hid hst
      have HB := Lib.hid hb
      clear ho hb hst hai
      generalize f a = z at *
      generalize ((l.take i).filter f).length = N at *
      cases z
      all_goals
        as_aux_lemma =>
        go_wp2_with fail
        refine hin.mono ?_
        rintro e w8 ⟨rfl, hb8⟩
        go_wp2
        go_roundw
        case rel => exact ⟨i + 1, by go_num, by rw [HST.out]; first | rfl | go_num, by omega, HB.out.trans (hb8.mono HB.out.size)⟩
        case measure => simp [intOf]; omega
    · obtain rfl : i = l.length := by omega
      rw [List.take_length]
      have HB := Lib.hid hb
      clear hb
      obtain ⟨N, hN⟩ : ∃ N, (l.filter f).length = N := ⟨_, rfl⟩
      rw [hN]
      have HN := Lib.hid hN
      clear hN
      go_wp2
      go_ret
      rw [HN.out]
      exact ⟨rfl, HB1.out.trans (HB.out.mono HB1.out.size)⟩
section
variable {F : PFunc} {h b n : Nat} {f : Nat → Bool}
theorem filt_at (hb : b < n) (hf : f b = true) : ((List.range n).filter f)[((List.range b).filter f).length]? = some b := by
  obtain ⟨r, hr⟩ : ∃ r, List.range n = List.range b ++ b :: r := by
    obtain ⟨k, rfl⟩ := Nat.le.dest hb
    rw [show b.succ + k = (b + 1) + k from rfl, List.range_add, List.range_succ, List.append_assoc]
    exact ⟨_, rfl⟩
  rw [hr, List.filter_append, List.getElem?_append_right (Nat.le_refl _), Nat.sub_self, List.filter_cons, if_pos hf]
  rfl
theorem filt_le (hb : b ≤ n) : ((List.range b).filter f).length ≤ ((List.range n).filter f).length := by
  obtain ⟨k, rfl⟩ := Nat.le.dest hb
  rw [List.range_add, List.filter_append, List.length_append]
  omega
theorem predRow_filt {b : Nat} : ∀ i, predRow F b i = (List.range i).filter fun a => leads (F.blk a).term (b : Int)
  | 0 => rfl
  | i + 1 => by
    rw [predRow, predRow_filt i, List.range_succ, List.filter_append]
    cases h : leads (F.blk i).term (b : Int) <;> simp [h]
theorem latL_filt : latL F h = (List.range F.blocks.length).filter (latB F h) := by
  unfold latL PR
  rw [predRow_filt, List.filter_filter]
  rfl
theorem bodyL_filt : bodyL F true (h : Int) n = (List.range n).filter (inR F h) := by
  unfold bodyL
  rw [if_pos rfl, Int.toNat_natCast]
  rfl
theorem headsL_filt : headsL F n = (List.range n).filter (hdB F) := rfl
theorem hdB_head (hh : h < F.blocks.length) : headB F (h : Int) = hdB F h := by
  rw [Bool.eq_iff_iff]
  unfold headB hdB
  rw [decide_eq_true_eq, decide_eq_true_eq, Int.toNat_natCast, mem_headsL]
  exact ⟨fun e => e.2.2, fun e => ⟨by omega, hh, e⟩⟩
theorem headB_neg : headB F (-1) = false := decide_eq_false fun e => by omega
end
end Go.Proofs.YteajnaabbddohaaGreatDoor
