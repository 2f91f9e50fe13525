/- The walk of graph.preds, and of graph.Order, graph.Preds. -/
import Derived.Test.YteajnaabbddohaaGreatDoorRows2
namespace Go.Proofs.YteajnaabbddohaaGreatDoor
open Go.RowKit
set_option maxRecDepth 100000

/-- one more that leads to c. -/
def addP (i : Nat) (xss : List (List Int)) (c : Nat) : List (List Int) := xss.set c ((xss.getD c []) ++ [(i : Int)])
def predsF (F : PFunc) : Nat → List (List Int)
  | 0 => List.replicate F.blocks.length []
  | i + 1 => (EN F i).foldl (addP i) (predsF F i)
def predsOf (F : PFunc) : List (List Int) := predsF F F.blocks.length
theorem addP_len {i c : Nat} {xss : List (List Int)} : (addP i xss c).length = xss.length := by simp [addP]
theorem fold_len {i : Nat} : ∀ {l : List Nat} {xss : List (List Int)}, (l.foldl (addP i) xss).length = xss.length
  | [], _ => rfl
  | c :: l, xss => by rw [List.foldl_cons, fold_len, addP_len]
theorem predsF_len {F : PFunc} : ∀ n, (predsF F n).length = F.blocks.length
  | 0 => by simp [predsF]
  | n + 1 => by rw [predsF, fold_len, predsF_len n]
def RowsLe (m : Nat) (xss : List (List Int)) : Prop := ∀ xs ∈ xss, xs.length ≤ m
theorem RowsLe.add {m i c : Nat} {xss : List (List Int)} (h : RowsLe m xss) : RowsLe (m + 1) (addP i xss c) := by
  intro xs hx
  unfold addP at hx
  rcases List.mem_or_eq_of_mem_set hx with hx | hx
  · have := h xs hx; omega
  · subst hx
    rw [List.length_append, List.getD]
    cases he : xss[c]? with
    | none => simp
    | some ys => have := h ys (List.mem_of_getElem? he); simp; omega
theorem RowsLe.at_ {m c : Nat} {xss : List (List Int)} (h : RowsLe m xss) : (xss.getD c []).length ≤ m := by
  rw [List.getD]
  cases he : xss[c]? with
  | none => simp
  | some ys => have := h ys (List.mem_of_getElem? he); simpa using this
theorem take_fold {i k : Nat} {l : List Nat} {xss : List (List Int)} (h : k < l.length) : (l.take (k + 1)).foldl (addP i) xss = addP i ((l.take k).foldl (addP i) xss) (l.getD k 0) := by
  rw [List.take_succ_eq_append_getElem h, List.foldl_append]
  simp [List.getD, h]
theorem Tryz.info23 : (Tryz.prog.info? 23).map (fun i => (i.zero, i.size, i.bytes)) = some (some (.slice none 0 0), 1, 24) := by kernel_rfl

theorem RetNew.mk_ {w w' : World} {xs : List Int} {b n c : Nat} (h : RetInts w xs (.returned (.slice (some ⟨b, 0, none⟩) n c)) w') (hb : w.heap.size ≤ b) : RetNew w xs (.returned (.slice (some ⟨b, 0, none⟩) n c)) w' :=
  ⟨h, fun A n' c' he b' off ha => by
    simp only [Ending.returned.injEq, Value.slice.injEq] at he
    obtain ⟨rfl, -, -⟩ := he
    simp only [Option.some.injEq, Addr.mk.injEq] at ha
    omega⟩
theorem RetNew.none_ {w w' : World} (h : RetInts w [] (.returned (.slice none 0 0)) w') : RetNew w [] (.returned (.slice none 0 0)) w' :=
  ⟨h, fun A n' c' he b' off ha => by
    simp only [Ending.returned.injEq, Value.slice.injEq] at he
    rw [ha] at he
    cases he.1⟩
theorem endsN_calls {w : World} (t : PTerm) :
    Calls Tryz.prog 44 #[.agg #[.int .i64 t.kind, .int .i64 t.var, .int .i64 t.t0, .int .i64 t.t1]] w (RetNew w (endsOf t)) := by
  by_cases h0 : t.kind = 0
  · have HF := Lib.hid (show endsOf t = [t.t0] by rw [endsOf, if_pos h0])
    go_enter Tryz.func44, Tryz.ntmps44
    go_wp2
    go_ret
    rw [HF.out]
    exact RetNew.mk_ (RetInts.one (Nat.le_refl _) (by first | omega | exact Below.size (by assumption) | (simp; done) | (simp; omega)) (by simp) (by (focus repeat (first | assumption | exact Below.refl _ _ | refine Below.drew ?_ | refine Below.alloc ?_ (by first | omega | exact Below.size (by assumption) | (simp; done) | (simp; omega)) _ | refine Below.setCell ?_ (by first | omega | exact Below.size (by assumption) | (simp; done) | (simp; omega)) _ | refine below_setRow ?_ (by first | omega | exact Below.size (by assumption) | (simp; done) | (simp; omega)) _ | (refine Below.trans ?_ (Below.mono (by assumption) ?_); rotate_left; exact (by first | omega | exact Below.size (by assumption) | (simp; done) | (simp; omega))))))) (by omega)
  by_cases h1 : t.kind = 1
  · by_cases h2 : t.t0 = t.t1
    · have HF := Lib.hid (show endsOf t = [t.t0] by rw [endsOf, if_neg h0, if_pos h1, if_pos h2])
      go_enter Tryz.func44, Tryz.ntmps44
      go_wp2
      go_ret
      rw [HF.out]
      exact RetNew.mk_ (RetInts.one (Nat.le_refl _) (by first | omega | exact Below.size (by assumption) | (simp; done) | (simp; omega)) (by simp [h2]) (by (focus repeat (first | assumption | exact Below.refl _ _ | refine Below.drew ?_ | refine Below.alloc ?_ (by first | omega | exact Below.size (by assumption) | (simp; done) | (simp; omega)) _ | refine Below.setCell ?_ (by first | omega | exact Below.size (by assumption) | (simp; done) | (simp; omega)) _ | refine below_setRow ?_ (by first | omega | exact Below.size (by assumption) | (simp; done) | (simp; omega)) _ | (refine Below.trans ?_ (Below.mono (by assumption) ?_); rotate_left; exact (by first | omega | exact Below.size (by assumption) | (simp; done) | (simp; omega))))))) (by omega)
    · have HF := Lib.hid (show endsOf t = [t.t0, t.t1] by rw [endsOf, if_neg h0, if_pos h1, if_neg h2])
      go_enter Tryz.func44, Tryz.ntmps44
      go_wp2
      go_ret
      rw [HF.out]
      exact RetNew.mk_ (RetInts.two (Nat.le_refl _) (by first | omega | exact Below.size (by assumption) | (simp; done) | (simp; omega)) (by simp) (by simp) (by (focus repeat (first | assumption | exact Below.refl _ _ | refine Below.drew ?_ | refine Below.alloc ?_ (by first | omega | exact Below.size (by assumption) | (simp; done) | (simp; omega)) _ | refine Below.setCell ?_ (by first | omega | exact Below.size (by assumption) | (simp; done) | (simp; omega)) _ | refine below_setRow ?_ (by first | omega | exact Below.size (by assumption) | (simp; done) | (simp; omega)) _ | (refine Below.trans ?_ (Below.mono (by assumption) ?_); rotate_left; exact (by first | omega | exact Below.size (by assumption) | (simp; done) | (simp; omega))))))) (by omega)
  · have HF := Lib.hid (show endsOf t = [] by rw [endsOf, if_neg h0, if_neg h1])
    go_enter Tryz.func44, Tryz.ntmps44
    go_wp2
    go_ret
    rw [HF.out]
    exact RetNew.none_ (RetInts.nil_ (by (focus repeat (first | assumption | exact Below.refl _ _ | refine Below.drew ?_ | refine Below.alloc ?_ (by first | omega | exact Below.size (by assumption) | (simp; done) | (simp; omega)) _ | refine Below.setCell ?_ (by first | omega | exact Below.size (by assumption) | (simp; done) | (simp; omega)) _ | refine below_setRow ?_ (by first | omega | exact Below.size (by assumption) | (simp; done) | (simp; omega)) _ | (refine Below.trans ?_ (Below.mono (by assumption) ?_); rotate_left; exact (by first | omega | exact Below.size (by assumption) | (simp; done) | (simp; omega)))))))

set_option maxHeartbeats 4000000 in
theorem preds_calls {W w : World} {fv : Value} {F : PFunc} (hF : FnV W W.heap.size fv F) (hW : Below W.heap.size W w) (hT : typedP F = true) :
    Calls Tryz.prog 78 #[fv] w (RetRows w (predsOf F)) := by
  obtain ⟨A0, c0, A1, c1, A2, c2, rfl, l0, l1, l2, -, -, -, r0, r1, r2⟩ := id hF.open_
  obtain ⟨n1, n2⟩ := shaped_count (typed_shaped hT)
  have HT := Lib.hid hT
  clear hT
  unfold Len at *
  have hWs := hW.size
  have hb0 := (Below.refl w.heap.size w).alloc (Nat.le_refl _) (.cells #[.slice A0 F.vars.length c0, .slice A1 F.params.length c1, .slice A2 F.blocks.length c2] 26)
  obtain ⟨ib, hib, hz0, hz1, hz2⟩ := info_parts Tryz.info23
  go_enter Tryz.func78, Tryz.ntmps78
  go_wp2_with (
    at_make; refine wpList_make_full _ rfl _ _ 84 rfl (w.heap.size + 1) 23 ib _ 1 Tryz.underlying84 hib hz0 hz1 _ _ _ _ _ rfl rfl rfl rfl (by rw [hz2]; omega) (by unfold maxLen; omega) (by simp) ?_; intro w1 hs1 hg1
    have hs2 : w1.ownsRow (w.heap.size + 1) 23 1 (.slice (some ⟨w.heap.size + 1, 0, none⟩) F.blocks.length F.blocks.length) F.blocks.length (List.replicate F.blocks.length (.slice none 0 0)) := by simpa [Value.cells, toList_madeCells_one] using hs1
    have hg2 : (w.alloc (.cells #[.slice A0 F.vars.length c0, .slice A1 F.params.length c1, .slice A2 F.blocks.length c2] 26)).grownBy w1 none := hg1
    have hbx : Below (w.heap.size + 1) (w.alloc (.cells #[.slice A0 F.vars.length c0, .slice A1 F.params.length c1, .slice A2 F.blocks.length c2] 26)) w1 := (Below.refl _ _).grown hg2 (by simp) (fun k hk => by cases hk)
    obtain ⟨hq, hq0, hq1, hq2⟩ := box3 hbx
    clear hs1 hg1)
  have hO1 : OwnRows w1 (w.heap.size + 1) 23 3 (w.heap.size + 1) (fun _ => False) (predsF F 0) := OwnRows.made hs2
  go_loopw [15] (fun i wr => ∃ n : Nat, i = .int .i64 n ∧ n ≤ F.blocks.length ∧ Below (w.heap.size + 1) (w.alloc (.cells #[.slice A0 F.vars.length c0, .slice A1 F.params.length c1, .slice A2 F.blocks.length c2] 26)) wr ∧ OwnRows wr (w.heap.size + 1) 23 3 (w.heap.size + 1) (fun _ => False) (predsF F n) ∧ Hid (RowsLe (2 * n) (predsF F n))) (fun i _ => F.blocks.length - (intOf i).toNat)
  case atStart => exact ⟨0, rfl, Nat.zero_le _, hbx, hO1, fun xs hx => by obtain ⟨-, rfl⟩ := List.mem_replicate.1 hx; simp⟩
  case round => as_aux_lemma =>
    obtain ⟨n, rfl, hn, hb, hO, hR⟩ := hrel
    have hB := hb0.trans (hb.mono (Nat.le_succ _))
    have hWr : Below W.heap.size W wr := hW.trans (hB.mono hWs)
    by_cases hlt : n < F.blocks.length
    · obtain ⟨bb, off, A3, c3, A4, c4, rfl, hbb, hnz, hy0, hy1, hy2, hy3, hy4, hy5, hy6, l3, l4, k3, k4, r3, r4⟩ := r2.blk hWr hlt
      have hE := Lib.hid (EN_ints HT.out hlt)
      have hel := EN_len2 F n
      obtain ⟨wq, rfl⟩ : ∃ wq : World, wq = wr := ⟨_, rfl⟩
      go_wp2_with (go_at_call 44; refine (endsN_calls (F.blk n).term).mono ?_; rintro e w9 ⟨⟨A9, c9, rfl, l9, k9, r9, hb9⟩, hnew9⟩; obtain ⟨hc9, hf9⟩ := bcell hb9; have hz9 := hb9.size; try simp at hz9)
      replace hnew9 := Lib.hid (hnew9 _ _ _ rfl)
      have hB9 : Below wq.heap.size wq w9 := by (focus repeat (first | assumption | exact Below.refl _ _ | refine Below.drew ?_ | refine Below.alloc ?_ (by first | omega | exact Below.size (by assumption) | (simp; done) | (simp; omega)) _ | refine Below.setCell ?_ (by first | omega | exact Below.size (by assumption) | (simp; done) | (simp; omega)) _ | refine below_setRow ?_ (by first | omega | exact Below.size (by assumption) | (simp; done) | (simp; omega)) _ | (refine Below.trans ?_ (Below.mono (by assumption) ?_); rotate_left; exact (by first | omega | exact Below.size (by assumption) | (simp; done) | (simp; omega)))))
      have hO9 := hO.avoid hB9 (hi := w9.heap.size)
      have hEl : (endsOf (F.blk n).term).length = (EN F n).length := by rw [hE.out]; simp [ints]
      rw [hEl]
      have hgb := hO9.blk
      have r9' : ∀ k, k < (EN F n).length → ∃ b off, A9 = some ⟨b, off, none⟩ ∧ wq.heap.size ≤ b ∧ b < w9.heap.size ∧ w9.cell? ⟨b, off + k, none⟩ = some (.int .i64 ((EN F n).getD k 0 : Nat)) := by
        intro k hk
        obtain ⟨b, off, rfl, hbl, hc⟩ := r9.int (Below.refl _ _) (show k < (endsOf (F.blk n).term).length by rw [hEl]; exact hk)
        have hl := hnew9.out b off rfl
        simp at hl
        refine ⟨b, off, rfl, by omega, hbl, ?_⟩
        rw [hc, hE.out, ith, ints, List.getD, List.getElem?_map, List.getElem?_eq_getElem hk]
        simp [List.getD, hk]
      go_loopw [24] (fun i wr => ∃ k : Nat, i = .int .i64 k ∧ k ≤ (EN F n).length ∧ Below (w.heap.size + 1) wq wr ∧ w9.heap.size ≤ wr.heap.size ∧
        OwnRows wr (w.heap.size + 1) 23 3 (w.heap.size + 1) (fun k => wq.heap.size ≤ k ∧ k < w9.heap.size) (((EN F n).take k).foldl (addP n) (predsF F n)) ∧ Hid (RowsLe (2 * n + k) (((EN F n).take k).foldl (addP n) (predsF F n))) ∧
        (∀ b j, wq.heap.size ≤ b → b < w9.heap.size → wr.cell? ⟨b, j, none⟩ = w9.cell? ⟨b, j, none⟩)) (fun i _ => (EN F n).length - (intOf i).toNat)
      case atStart => exact ⟨0, rfl, Nat.zero_le _, hB9.mono (by simpa using hb.size), Nat.le_refl _, hO9, hR, fun _ _ _ _ => rfl⟩
      case round => as_aux_lemma =>
        clear hn
        obtain ⟨k, rfl, hk, hbk, hz, hOk, hRk, hav⟩ := hrel
        by_cases hkt : k < (EN F n).length
        · obtain ⟨b9, off9, rfl, hb9l, hb9h, hc9k⟩ := r9' k hkt
          have hm0 := (hav b9 (off9 + k) hb9l hb9h).trans hc9k
          have hb9w : b9 < wr.heap.size := Nat.lt_of_lt_of_le hb9h hz
          have htf := Lib.hid (take_fold (i := n) (xss := predsF F n) hkt)
          have hcn : (EN F n).getD k 0 < F.blocks.length := by
            refine EN_lt HT.out hlt _ ?_
            rw [getD_get hkt]
            exact List.getElem_mem hkt
          generalize (EN F n).getD k 0 = c at *
          have hlen : (((EN F n).take k).foldl (addP n) (predsF F n)).length = F.blocks.length := by rw [fold_len, predsF_len]
          have hRl := hRk.out.at_ (c := c)
          have hR2 := hRk.out.add (i := n) (c := c)
          generalize ((EN F n).take k).foldl (addP n) (predsF F n) = xss at *
          obtain ⟨v, hcv, hown⟩ := hOk.at_ (c := c) (by omega)
          have hfz := hOk.frozen c
          have hgl := hOk.blk.2
          have HL := Lib.hid hlen
          have hc2 : c < xss.length := by omega
          clear hlen
          generalize hxs : xss.getD c [] = xs at *
          have HXS := Lib.hid hxs
          clear hxs
          go_wp2_with (
            at_builtin; refine wpList_append1F _ rfl _ _ 23 rfl (w.heap.size + 1) 3 8 Tryz.underlying23 Tryz.info3 rfl v _ _ rfl hown _ rfl _ rfl rfl (by omega) (by decide) (by omega) ?_; intro v' w3 hown3 hg3 hfr3; obtain ⟨hm3, hf3, hz3⟩ := hOk.mid (by decide) hc2 hcv hg3; obtain ⟨Av, cv, hv3⟩ := own_form hown3; subst hv3)
          go_roundw
          case measure => simp [intOf]; omega
          case rel =>
            have hstep := hOk.step (by decide) hc2 hcv (v' := .slice Av (xs.length + 1) cv) (by rw [HXS.out]; exact hown3) hg3 hfr3 (fun k hk => by omega)
            refine ⟨k + 1, by go_num, by omega, (grown_below hown hg3 hbk (Nat.le_refl _) (by omega)).setCell (Nat.le_refl _) _, ?_, ?_, ?_, fun b j h1 h2 => ?_⟩
            · have := hg3.size
              simp at this ⊢
              omega
            · rw [htf.out]
              exact hstep.1
            · unfold Hid
              rw [htf.out]
              exact hR2
            · exact (hstep.2 b j ⟨h1, h2⟩ (by have := hO.blk.2; omega) (by omega)).trans (hav b j h1 h2)
        · have hkl : k = (EN F n).length := by omega
          have HF := Lib.hid (show ((EN F n).take k).foldl (addP n) (predsF F n) = predsF F (n + 1) by rw [hkl, List.take_length]; rfl)
          rw [HF.out] at hOk hRk
          clear hkl
          go_wp2
          go_roundw
          case rel => exact ⟨n + 1, by go_num, by omega, hb.trans hbk, hOk.free, fun xs hx => by have := hRk.out xs hx; omega⟩
          case measure => simp [intOf]; omega
    · obtain rfl : n = F.blocks.length := by omega
      have hlen := predsF_len (F := F) F.blocks.length
      go_wp2
      go_ret
      have := hO.ret hB (by rw [hlen]; omega) (fun xs hx => by have := hR.out xs hx; omega)
      rw [hlen] at this
      exact this
end Go.Proofs.YteajnaabbddohaaGreatDoor
