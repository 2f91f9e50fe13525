/- The walk of typing.Typed. -/
import Derived.Test.YtjijlmddalbkbaaGreatDoorTyping
namespace Go.Proofs.YtjijlmddalbkbaaGreatDoor
open Go.RowKit
set_option maxRecDepth 100000

def blkT (F : PFunc) (b : PBlock) : Bool := b.phis.all (phiT F) && b.insts.all (instT F) && termT F b.term
def typedP (F : PFunc) : Bool := shapedP F && F.blocks.all (blkT F)
def errOf (b : Bool) : Int := if b then 0 else 3
theorem mem_of_blk {F : PFunc} {i : Nat} (h : i < F.blocks.length) : F.blk i ∈ F.blocks := List.mem_of_getElem? (PFunc.blk_get h)
theorem all_of_not {α : Type} {p : α → Bool} {l : List α} (h : (!(l.any fun x => !p x)) = true) : ∀ x ∈ l, p x = true := fun x hx => by
  rw [List.not_any_eq_all_not, List.all_eq_true] at h
  have := h x hx
  simpa using this
theorem shaped_blk {F : PFunc} (h : shapedP F = true) {n : Nat} (hn : n < F.blocks.length) : (∀ x ∈ (F.blk n).phis, phiB F x = true) ∧ (∀ x ∈ (F.blk n).insts, instB F x = true) ∧ termB F (F.blk n).term = true := by
  unfold shapedP at h
  simp only [Bool.and_eq_true, List.all_eq_true] at h
  have := h.1.2 _ (mem_of_blk hn)
  unfold blockB at this
  simp only [Bool.and_eq_true] at this
  exact ⟨all_of_not this.1.1, all_of_not this.1.2, this.2⟩
theorem phiB_parts {F : PFunc} {x : PPhi} (h : phiB F x = true) : varsB F x.args = true ∧ inB x.dst F.vars.length = true := by
  unfold phiB at h
  simp only [Bool.and_eq_true] at h
  exact ⟨h.1.2, h.1.1.2⟩
theorem instB_parts {F : PFunc} {x : PInst} (h : instB F x = true) : varsB F x.args = true ∧ x.args.length = (takesOf x.op).length ∧ (makesB x.op = true → inB x.dst F.vars.length = true) := by
  unfold instB at h
  simp only [Bool.and_eq_true, decide_eq_true_eq] at h
  refine ⟨h.1.1.2, h.1.1.1.2, fun hm => ?_⟩
  have := h.1.2
  rw [dstB, if_pos hm] at this
  exact this
theorem termB_parts {F : PFunc} {t : PTerm} (h : termB F t = true) : t.kind ≠ 0 → inB t.var F.vars.length = true := fun h0 => by
  unfold termB at h
  rw [if_neg h0] at h
  by_cases h1 : t.kind = 1
  · rw [if_pos h1] at h
    simp only [Bool.and_eq_true] at h
    exact h.1.1
  · rw [if_neg h1] at h
    by_cases h2 : t.kind = 2
    · rw [if_pos h2] at h
      simp only [Bool.and_eq_true] at h
      exact h.1
    · rw [if_neg h2] at h
      cases h

set_option maxHeartbeats 4000000 in
theorem typed_calls {W w : World} {fv : Value} {F : PFunc} (hU : Uni W) (hF : FnV W W.heap.size fv F) (hW : Below W.heap.size W w) (hS : Small F) :
    Calls Tryz.prog 67 #[fv] w fun e w' => e = .returned (.int .i64 (errOf (typedP F))) ∧ Below w.heap.size w w' := by
  have hsh := fun (w : World) (h : Below W.heap.size W w) => shaped_calls hU hF h hS
  obtain ⟨A0, c0, A1, c1, A2, c2, rfl, l0, l1, l2, -, -, -, r0, r1, r2⟩ := id hF.open_
  unfold Len at *
  have hWs := hW.size
  cases hs : shapedP F
  · have HF := Lib.hid (show errOf (typedP F) = 3 by rw [typedP, hs]; rfl)
    rw [hs] at hsh
    clear hs
    go_enter Tryz.func67, Tryz.ntmps67
    go_wp2_with (go_at_call 86; refine (hsh _ (by (focus repeat (first | assumption | exact Below.refl _ _ | refine Below.drew ?_ | refine Below.alloc ?_ (by first | omega | exact Below.size (by assumption) | (simp; done) | (simp; omega)) _ | refine Below.setCell ?_ (by first | omega | exact Below.size (by assumption) | (simp; done) | (simp; omega)) _ | refine below_setRow ?_ (by first | omega | exact Below.size (by assumption) | (simp; done) | (simp; omega)) _ | (refine Below.trans ?_ (Below.mono (by assumption) ?_); rotate_left; exact (by first | omega | exact Below.size (by assumption) | (simp; done) | (simp; omega))))))).mono ?_; (rintro e w1 ⟨rfl, hb1⟩; obtain ⟨hc1, hf1⟩ := bcell hb1; have hz1 := hb1.size; try simp at hz1; try have hy1 := Nat.lt_of_succ_le hz1; try have hx1 := Nat.lt_of_succ_lt hy1; try have hw1 := Nat.lt_of_succ_lt hx1))
    go_ret
    exact ⟨ret_int HF.out.symm, by (focus repeat (first | assumption | exact Below.refl _ _ | refine Below.drew ?_ | refine Below.alloc ?_ (by first | omega | exact Below.size (by assumption) | (simp; done) | (simp; omega)) _ | refine Below.setCell ?_ (by first | omega | exact Below.size (by assumption) | (simp; done) | (simp; omega)) _ | refine below_setRow ?_ (by first | omega | exact Below.size (by assumption) | (simp; done) | (simp; omega)) _ | (refine Below.trans ?_ (Below.mono (by assumption) ?_); rotate_left; exact (by first | omega | exact Below.size (by assumption) | (simp; done) | (simp; omega)))))⟩
  have HN := Lib.hid (show typedP F = F.blocks.all (blkT F) by rw [typedP, hs]; rfl)
  have HS := Lib.hid hs
  rw [hs] at hsh
  clear hs
  have hb0 := (Below.refl w.heap.size w).alloc (Nat.le_refl _) (.cells #[.slice A0 F.vars.length c0, .slice A1 F.params.length c1, .slice A2 F.blocks.length c2] 26)
  go_enter Tryz.func67, Tryz.ntmps67
  go_wp2_with (go_at_call 86; refine (hsh _ (by (focus repeat (first | assumption | exact Below.refl _ _ | refine Below.drew ?_ | refine Below.alloc ?_ (by first | omega | exact Below.size (by assumption) | (simp; done) | (simp; omega)) _ | refine Below.setCell ?_ (by first | omega | exact Below.size (by assumption) | (simp; done) | (simp; omega)) _ | refine below_setRow ?_ (by first | omega | exact Below.size (by assumption) | (simp; done) | (simp; omega)) _ | (refine Below.trans ?_ (Below.mono (by assumption) ?_); rotate_left; exact (by first | omega | exact Below.size (by assumption) | (simp; done) | (simp; omega))))))).mono ?_; (rintro e w1 ⟨rfl, hb1⟩; obtain ⟨hc1, hf1⟩ := bcell hb1; have hz1 := hb1.size; try simp at hz1; try have hy1 := Nat.lt_of_succ_le hz1; try have hx1 := Nat.lt_of_succ_lt hy1; try have hw1 := Nat.lt_of_succ_lt hx1))
  have hbb : Below (w.heap.size + 1) (w.alloc (.cells #[.slice A0 F.vars.length c0, .slice A1 F.params.length c1, .slice A2 F.blocks.length c2] 26)) w1 := by simpa using hb1
  go_loopw [15] (fun i wr => ∃ n : Nat, i = .int .i64 n ∧ n ≤ F.blocks.length ∧ Below (w.heap.size + 1) (w.alloc (.cells #[.slice A0 F.vars.length c0, .slice A1 F.params.length c1, .slice A2 F.blocks.length c2] 26)) wr ∧
    Hid (typedP F = (F.blocks.drop n).all (blkT F))) (fun i _ => F.blocks.length - (intOf i).toNat)
  case atStart => exact ⟨0, rfl, Nat.zero_le _, hbb, HN⟩
  case round =>
    obtain ⟨n, rfl, hn, hb, hf⟩ := hrel
    have hB := hb0.trans (hb.mono (Nat.le_succ _))
    have hWr : Below W.heap.size W wr := hW.trans (hB.mono hWs)
    obtain ⟨hq, hq0, hq1, hq2⟩ := box3 hb
    by_cases hlt : n < F.blocks.length
    · obtain ⟨bb, off, A3, c3, A4, c4, rfl, hbb, hnz, hy0, hy1, hy2, hy3, hy4, hy5, hy6, l3, l4, k3, k4, r3, r4⟩ := r2.blk hWr hlt
      have hd := Lib.hid (drop_blk hlt)
      unfold Len at *
      obtain ⟨HP, HI, HT⟩ := Lib.hid (shaped_blk HS.out hlt) |>.out
      replace HP := Lib.hid HP
      replace HI := Lib.hid HI
      have hT := fun (w : World) (h : Below W.heap.size W w) => kterm_calls (F.blk n).term hF h (termB_parts HT)
      clear HT
      obtain ⟨wo, rfl⟩ : ∃ wo : World, wo = wr := ⟨_, rfl⟩
      go_wp2
      go_loopw [22] (fun i wr => ∃ m : Nat, i = .int .i64 m ∧ m ≤ (F.blk n).phis.length ∧ Below (wo.alloc (.cells #[.string (F.blk n).name, .slice A3 (F.blk n).phis.length c3, .slice A4 (F.blk n).insts.length c4, .int .i64 (F.blk n).term.kind, .int .i64 (F.blk n).term.var, .int .i64 (F.blk n).term.t0, .int .i64 (F.blk n).term.t1] 82)).heap.size (wo.alloc (.cells #[.string (F.blk n).name, .slice A3 (F.blk n).phis.length c3, .slice A4 (F.blk n).insts.length c4, .int .i64 (F.blk n).term.kind, .int .i64 (F.blk n).term.var, .int .i64 (F.blk n).term.t0, .int .i64 (F.blk n).term.t1] 82)) wr ∧
        Hid ((F.blk n).phis.all (phiT F) = ((F.blk n).phis.drop m).all (phiT F))) (fun i _ => (F.blk n).phis.length - (intOf i).toNat)
      case atStart => exact ⟨0, rfl, Nat.zero_le _, Below.refl _ _, by simp [Hid]⟩
      case round =>
        obtain ⟨m, rfl, hm, hbi, hfi⟩ := hrel
        obtain ⟨hci, hgi⟩ := bcell hbi
        have hzi := hbi.size
        simp at hzi
        have hqi := Nat.lt_of_succ_le hzi
        have hqj := Nat.lt_trans hq hqi
        have hBi : Below wo.heap.size wo wr := ((Below.refl _ _).alloc (Nat.le_refl _) _).trans (hbi.mono (by simp))
        have hWi := hWr.trans (hBi.mono hWr.size)
        by_cases hmt : m < (F.blk n).phis.length
        · obtain ⟨b5, off5, A5, c5, A6, c6, rfl, hbb5, hx0, hx1, hx2, l5, l6, k5, k6, r5, r6⟩ := r3.phi hWi hmt
          have hcl := fun (w : World) (h : Below W.heap.size W w) => kphi_calls hF (x := (F.blk n).phi m) ⟨_, _, rfl, ⟨A5, c5, rfl, l5, k5, r5⟩, A6, c6, rfl, l6, k6, r6⟩ h (phiB_parts (HP.out _ (mem_of_Phi hmt))).1 (phiB_parts (HP.out _ (mem_of_Phi hmt))).2
          have hdi := Lib.hid (drop_Phi hmt)
          cases hx : phiT F ((F.blk n).phi m)
          · have HF := Lib.hid (show errOf (typedP F) = 3 by rw [hf.out, hd.out, List.all_cons, blkT, hfi.out, hdi.out, List.all_cons, hx]; rfl)
            rw [hx] at hcl
            clear hx
            go_wp2_with (go_at_call 87; refine (hcl _ (hWi.trans (by (focus repeat (first | assumption | exact Below.refl _ _ | refine Below.drew ?_ | refine Below.alloc ?_ (by first | omega | exact Below.size (by assumption) | (simp; done) | (simp; omega)) _ | refine Below.setCell ?_ (by first | omega | exact Below.size (by assumption) | (simp; done) | (simp; omega)) _ | refine below_setRow ?_ (by first | omega | exact Below.size (by assumption) | (simp; done) | (simp; omega)) _ | (refine Below.trans ?_ (Below.mono (by assumption) ?_); rotate_left; exact (by first | omega | exact Below.size (by assumption) | (simp; done) | (simp; omega)))))))).mono ?_; (rintro e w2 ⟨rfl, hb2⟩; obtain ⟨hc2, hf2⟩ := bcell hb2; have hz2 := hb2.size; try simp at hz2; try have hy2 := Nat.lt_of_succ_le hz2; try have hx2 := Nat.lt_of_succ_lt hy2; try have hw2 := Nat.lt_of_succ_lt hx2))
            go_ret
            exact ⟨ret_int HF.out.symm, hB.trans ((hBi.trans (by (focus repeat (first | assumption | exact Below.refl _ _ | refine Below.drew ?_ | refine Below.alloc ?_ (by first | omega | exact Below.size (by assumption) | (simp; done) | (simp; omega)) _ | refine Below.setCell ?_ (by first | omega | exact Below.size (by assumption) | (simp; done) | (simp; omega)) _ | refine below_setRow ?_ (by first | omega | exact Below.size (by assumption) | (simp; done) | (simp; omega)) _ | (refine Below.trans ?_ (Below.mono (by assumption) ?_); rotate_left; exact (by first | omega | exact Below.size (by assumption) | (simp; done) | (simp; omega))))))).mono (Nat.le_of_lt hq))⟩
          · have HF := Lib.hid (show (F.blk n).phis.all (phiT F) = ((F.blk n).phis.drop (m + 1)).all (phiT F) by rw [hfi.out, hdi.out, List.all_cons, hx]; rfl)
            rw [hx] at hcl
            clear hx
            go_wp2_with (go_at_call 87; refine (hcl _ (hWi.trans (by (focus repeat (first | assumption | exact Below.refl _ _ | refine Below.drew ?_ | refine Below.alloc ?_ (by first | omega | exact Below.size (by assumption) | (simp; done) | (simp; omega)) _ | refine Below.setCell ?_ (by first | omega | exact Below.size (by assumption) | (simp; done) | (simp; omega)) _ | refine below_setRow ?_ (by first | omega | exact Below.size (by assumption) | (simp; done) | (simp; omega)) _ | (refine Below.trans ?_ (Below.mono (by assumption) ?_); rotate_left; exact (by first | omega | exact Below.size (by assumption) | (simp; done) | (simp; omega)))))))).mono ?_; (rintro e w2 ⟨rfl, hb2⟩; obtain ⟨hc2, hf2⟩ := bcell hb2; have hz2 := hb2.size; try simp at hz2; try have hy2 := Nat.lt_of_succ_le hz2; try have hx2 := Nat.lt_of_succ_lt hy2; try have hw2 := Nat.lt_of_succ_lt hx2))
            go_roundw
            case rel => exact ⟨m + 1, by go_num, by omega, hbi.trans (by (focus repeat (first | assumption | exact Below.refl _ _ | refine Below.drew ?_ | refine Below.alloc ?_ (by first | omega | exact Below.size (by assumption) | (simp; done) | (simp; omega)) _ | refine Below.setCell ?_ (by first | omega | exact Below.size (by assumption) | (simp; done) | (simp; omega)) _ | refine below_setRow ?_ (by first | omega | exact Below.size (by assumption) | (simp; done) | (simp; omega)) _ | (refine Below.trans ?_ (Below.mono (by assumption) ?_); rotate_left; exact (by first | omega | exact Below.size (by assumption) | (simp; done) | (simp; omega)))))), HF⟩
            case measure => simp [intOf]; omega
        · have hfp := Lib.hid (show (F.blk n).phis.all (phiT F) = true by rw [hfi.out, List.drop_eq_nil_of_le (by omega)]; rfl)
          clear hfi hgi
          obtain ⟨wp, rfl⟩ : ∃ wp : World, wp = wr := ⟨_, rfl⟩
          go_wp2
          go_loopw [34] (fun i wr => ∃ m : Nat, i = .int .i64 m ∧ m ≤ (F.blk n).insts.length ∧ Below wp.heap.size wp wr ∧
            Hid ((F.blk n).insts.all (instT F) = ((F.blk n).insts.drop m).all (instT F))) (fun i _ => (F.blk n).insts.length - (intOf i).toNat)
          case atStart => exact ⟨0, rfl, Nat.zero_le _, Below.refl _ _, by simp [Hid]⟩
          case round =>
            obtain ⟨m, rfl, hm, hbk, hfi⟩ := hrel
            obtain ⟨hck, hgk⟩ := bcell hbk
            have hzk := hbk.size
            have hqk := Nat.lt_of_lt_of_le hqi hzk
            have hql := Nat.lt_trans hq hqk
            have hBk : Below wo.heap.size wo wr := hBi.trans (hbk.mono hBi.size)
            have hWk := hWr.trans (hBk.mono hWr.size)
            by_cases hmt : m < (F.blk n).insts.length
            · obtain ⟨b5, off5, A5, c5, rfl, hbb5, hx0, hx1, hx2, hx3, l5, k5, r5⟩ := r4.inst hWk hmt
              have hip := instB_parts (HI.out _ (mem_of_Inst hmt))
              have hcl := fun (w : World) (h : Below W.heap.size W w) => kinst_calls hF (x := (F.blk n).inst m) ⟨_, rfl, A5, c5, rfl, l5, k5, r5⟩ h hip.1 hip.2.1 hip.2.2
              clear hip
              have hdi := Lib.hid (drop_Inst hmt)
              cases hx : instT F ((F.blk n).inst m)
              · have HF := Lib.hid (show errOf (typedP F) = 3 by rw [hf.out, hd.out, List.all_cons, blkT, hfi.out, hdi.out, List.all_cons, hx]; simp [errOf])
                rw [hx] at hcl
                clear hx
                go_wp2_with (go_at_call 88; refine (hcl _ (hWk.trans (by (focus repeat (first | assumption | exact Below.refl _ _ | refine Below.drew ?_ | refine Below.alloc ?_ (by first | omega | exact Below.size (by assumption) | (simp; done) | (simp; omega)) _ | refine Below.setCell ?_ (by first | omega | exact Below.size (by assumption) | (simp; done) | (simp; omega)) _ | refine below_setRow ?_ (by first | omega | exact Below.size (by assumption) | (simp; done) | (simp; omega)) _ | (refine Below.trans ?_ (Below.mono (by assumption) ?_); rotate_left; exact (by first | omega | exact Below.size (by assumption) | (simp; done) | (simp; omega)))))))).mono ?_; (rintro e w2 ⟨rfl, hb2⟩; obtain ⟨hc2, hf2⟩ := bcell hb2; have hz2 := hb2.size; try simp at hz2; try have hy2 := Nat.lt_of_succ_le hz2; try have hx2 := Nat.lt_of_succ_lt hy2; try have hw2 := Nat.lt_of_succ_lt hx2))
                go_ret
                exact ⟨ret_int HF.out.symm, hB.trans ((hBk.trans (by (focus repeat (first | assumption | exact Below.refl _ _ | refine Below.drew ?_ | refine Below.alloc ?_ (by first | omega | exact Below.size (by assumption) | (simp; done) | (simp; omega)) _ | refine Below.setCell ?_ (by first | omega | exact Below.size (by assumption) | (simp; done) | (simp; omega)) _ | refine below_setRow ?_ (by first | omega | exact Below.size (by assumption) | (simp; done) | (simp; omega)) _ | (refine Below.trans ?_ (Below.mono (by assumption) ?_); rotate_left; exact (by first | omega | exact Below.size (by assumption) | (simp; done) | (simp; omega))))))).mono (Nat.le_of_lt hq))⟩
              · have HF := Lib.hid (show (F.blk n).insts.all (instT F) = ((F.blk n).insts.drop (m + 1)).all (instT F) by rw [hfi.out, hdi.out, List.all_cons, hx]; rfl)
                rw [hx] at hcl
                clear hx
                go_wp2_with (go_at_call 88; refine (hcl _ (hWk.trans (by (focus repeat (first | assumption | exact Below.refl _ _ | refine Below.drew ?_ | refine Below.alloc ?_ (by first | omega | exact Below.size (by assumption) | (simp; done) | (simp; omega)) _ | refine Below.setCell ?_ (by first | omega | exact Below.size (by assumption) | (simp; done) | (simp; omega)) _ | refine below_setRow ?_ (by first | omega | exact Below.size (by assumption) | (simp; done) | (simp; omega)) _ | (refine Below.trans ?_ (Below.mono (by assumption) ?_); rotate_left; exact (by first | omega | exact Below.size (by assumption) | (simp; done) | (simp; omega)))))))).mono ?_; (rintro e w2 ⟨rfl, hb2⟩; obtain ⟨hc2, hf2⟩ := bcell hb2; have hz2 := hb2.size; try simp at hz2; try have hy2 := Nat.lt_of_succ_le hz2; try have hx2 := Nat.lt_of_succ_lt hy2; try have hw2 := Nat.lt_of_succ_lt hx2))
                go_roundw
                case rel => exact ⟨m + 1, by go_num, by omega, hbk.trans (by (focus repeat (first | assumption | exact Below.refl _ _ | refine Below.drew ?_ | refine Below.alloc ?_ (by first | omega | exact Below.size (by assumption) | (simp; done) | (simp; omega)) _ | refine Below.setCell ?_ (by first | omega | exact Below.size (by assumption) | (simp; done) | (simp; omega)) _ | refine below_setRow ?_ (by first | omega | exact Below.size (by assumption) | (simp; done) | (simp; omega)) _ | (refine Below.trans ?_ (Below.mono (by assumption) ?_); rotate_left; exact (by first | omega | exact Below.size (by assumption) | (simp; done) | (simp; omega)))))), HF⟩
                case measure => simp [intOf]; omega
            · have hfq := Lib.hid (show (F.blk n).insts.all (instT F) = true by rw [hfi.out, List.drop_eq_nil_of_le (by omega)]; rfl)
              cases hx : termT F (F.blk n).term
              · have HF := Lib.hid (show errOf (typedP F) = 3 by rw [hf.out, hd.out, List.all_cons, blkT, hx]; simp [errOf])
                rw [hx] at hT
                clear hx
                go_wp2_with (go_at_call 89; refine (hT _ hWk).mono ?_; (rintro e w2 ⟨rfl, hb2⟩; obtain ⟨hc2, hf2⟩ := bcell hb2; have hz2 := hb2.size; try simp at hz2; try have hy2 := Nat.lt_of_succ_le hz2; try have hx2 := Nat.lt_of_succ_lt hy2; try have hw2 := Nat.lt_of_succ_lt hx2))
                go_ret
                exact ⟨ret_int HF.out.symm, hB.trans ((hBk.trans (by (focus repeat (first | assumption | exact Below.refl _ _ | refine Below.drew ?_ | refine Below.alloc ?_ (by first | omega | exact Below.size (by assumption) | (simp; done) | (simp; omega)) _ | refine Below.setCell ?_ (by first | omega | exact Below.size (by assumption) | (simp; done) | (simp; omega)) _ | refine below_setRow ?_ (by first | omega | exact Below.size (by assumption) | (simp; done) | (simp; omega)) _ | (refine Below.trans ?_ (Below.mono (by assumption) ?_); rotate_left; exact (by first | omega | exact Below.size (by assumption) | (simp; done) | (simp; omega))))))).mono (Nat.le_of_lt hq))⟩
              · have HF := Lib.hid (show typedP F = (F.blocks.drop (n + 1)).all (blkT F) by rw [hf.out, hd.out, List.all_cons, blkT, hfp.out, hfq.out, hx]; rfl)
                rw [hx] at hT
                clear hx
                go_wp2_with (go_at_call 89; refine (hT _ hWk).mono ?_; (rintro e w2 ⟨rfl, hb2⟩; obtain ⟨hc2, hf2⟩ := bcell hb2; have hz2 := hb2.size; try simp at hz2; try have hy2 := Nat.lt_of_succ_le hz2; try have hx2 := Nat.lt_of_succ_lt hy2; try have hw2 := Nat.lt_of_succ_lt hx2))
                go_roundw
                case rel => exact ⟨n + 1, by go_num, by omega, hb.trans ((hBk.trans (by (focus repeat (first | assumption | exact Below.refl _ _ | refine Below.drew ?_ | refine Below.alloc ?_ (by first | omega | exact Below.size (by assumption) | (simp; done) | (simp; omega)) _ | refine Below.setCell ?_ (by first | omega | exact Below.size (by assumption) | (simp; done) | (simp; omega)) _ | refine below_setRow ?_ (by first | omega | exact Below.size (by assumption) | (simp; done) | (simp; omega)) _ | (refine Below.trans ?_ (Below.mono (by assumption) ?_); rotate_left; exact (by first | omega | exact Below.size (by assumption) | (simp; done) | (simp; omega))))))).mono (Nat.succ_le_of_lt hq)), HF⟩
                case measure => simp [intOf]; omega
    · have hf2 := Lib.hid (show errOf (typedP F) = 0 by rw [hf.out, List.drop_eq_nil_of_le (by omega)]; rfl)
      go_wp2
      go_ret
      exact ⟨ret_int hf2.out.symm, hB⟩
end Go.Proofs.YtjijlmddalbkbaaGreatDoor
