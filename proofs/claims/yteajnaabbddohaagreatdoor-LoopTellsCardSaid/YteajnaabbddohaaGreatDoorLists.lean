/- slices.IndexFunc and slices.ContainsFunc over phis and over instructions, at print's own predicates. (Both halves printed from one text.) -/
import Derived.Test.YteajnaabbddohaaGreatDoorTerm
namespace Go.Proofs.YteajnaabbddohaaGreatDoor
open Go.RowKit
set_option maxRecDepth 100000

/-- a predicate on Phi that a function value with one captured pointer is. -/
def PredPhi (W w : World) (k : FuncId) (c : Value) (ps : List PPhi) (p : PPhi → Bool) : Prop :=
  ∀ x, x ∈ ps → ∀ pv, PhiV W W.heap.size pv x → ∀ w1, Below w.heap.size w w1 → Calls Tryz.prog k #[pv, c] w1 fun e w' => e = .returned (.bool (p x)) ∧ Below w1.heap.size w1 w'
theorem mem_of_Phi {b : PBlock} {i : Nat} (h : i < b.phis.length) : b.phi i ∈ b.phis := List.mem_of_getElem? (PBlock.phi_get h)
theorem drop_Phi {b : PBlock} {i : Nat} (h : i < b.phis.length) : b.phis.drop i = b.phi i :: b.phis.drop (i + 1) := by
  rw [List.drop_eq_getElem_cons h]
  have := PBlock.phi_get h
  rw [List.getElem?_eq_getElem h] at this
  injection this with this
  rw [this]
set_option maxHeartbeats 400000 in
theorem indexPhi_calls {W w : World} {A : Option Addr} {c0 : Nat} {b : PBlock} (hr : Rd W.heap.size A b.phis 3 (PhiC W W.heap.size)) (hl : Len b.phis.length) (hW : Below W.heap.size W w) (k : FuncId) (c : Value) (p : PPhi → Bool) (eg : ∀ args w, (callFunc k args).run Tryz.prog w = .ok (.enter k args) w) (hp : PredPhi W w k c b.phis p) :
    Calls Tryz.prog 163 #[.slice A b.phis.length c0, .func (.func k) #[] #[c]] w fun e w' => e = .returned (.int .i64 (firstIdx p b.phis 0)) ∧ Below w.heap.size w w' := by
  unfold Len at hl
  go_enter Tryz.func163, Tryz.ntmps163
  go_wp2
  go_loopw [5, 8] (fun _ i wr => ∃ n : Nat, i = .int .i64 n ∧ n ≤ b.phis.length ∧ Below w.heap.size w wr ∧ Hid (firstIdx p b.phis 0 = firstIdx p (b.phis.drop n) n)) (fun _ i _ => b.phis.length - (intOf i).toNat)
  case atStart => exact ⟨0, rfl, Nat.zero_le _, Below.refl _ _, by simp [Hid]⟩
  case round =>
    obtain ⟨n, rfl, hn, hb, hf⟩ := hrel
    by_cases hlt : n < b.phis.length
    · obtain ⟨bb, off, A1, c1, A2, c2, rfl, hbs, x0, x1, x2, l1, l2, k1, k2, r1, r2⟩ := hr.phi (hW.trans (hb.mono hW.size)) hlt
      have hcl := hp _ (mem_of_Phi hlt) _ ⟨_, _, rfl, ⟨A1, c1, rfl, l1, k1, r1⟩, A2, c2, rfl, l2, k2, r2⟩ wr hb
      have hd := Lib.hid (drop_Phi hlt)
      clear l1 k1 r1 l2 k2 r2
      cases hx : p (b.phi n)
      · rw [hx] at hcl
        have hf2 := Lib.hid (show firstIdx p b.phis 0 = firstIdx p (b.phis.drop (n + 1)) (n + 1) by rw [hf.out, hd.out, firstIdx, if_neg (by rw [hx]; decide)])
        clear hx
        go_wp2_with (go_at_fn k; refine hcl.mono ?_; (rintro e w1 ⟨rfl, hb1⟩; obtain ⟨hc1, hf1⟩ := bcell hb1; have hz1 := hb1.size; try simp at hz1; try have hy1 := Nat.lt_of_succ_le hz1; try have hx1 := Nat.lt_of_succ_lt hy1; try have hw1 := Nat.lt_of_succ_lt hx1))
        go_roundw
        case rel => exact ⟨n + 1, by go_num, by omega, by (focus repeat (first | assumption | exact Below.refl _ _ | refine Below.drew ?_ | refine Below.alloc ?_ (by first | omega | exact Below.size (by assumption) | (simp; done) | (simp; omega)) _ | refine Below.setCell ?_ (by first | omega | exact Below.size (by assumption) | (simp; done) | (simp; omega)) _ | refine below_setRow ?_ (by first | omega | exact Below.size (by assumption) | (simp; done) | (simp; omega)) _ | (refine Below.trans ?_ (Below.mono (by assumption) ?_); rotate_left; exact (by first | omega | exact Below.size (by assumption) | (simp; done) | (simp; omega))))), hf2⟩
        case measure => simp [intOf]; omega
      · rw [hx] at hcl
        have hf2 := Lib.hid (show firstIdx p b.phis 0 = n by rw [hf.out, hd.out, firstIdx, if_pos hx])
        clear hx
        go_wp2_with (go_at_fn k; refine hcl.mono ?_; (rintro e w1 ⟨rfl, hb1⟩; obtain ⟨hc1, hf1⟩ := bcell hb1; have hz1 := hb1.size; try simp at hz1; try have hy1 := Nat.lt_of_succ_le hz1; try have hx1 := Nat.lt_of_succ_lt hy1; try have hw1 := Nat.lt_of_succ_lt hx1))
        go_ret
        exact ⟨ret_int hf2.out.symm, by (focus repeat (first | assumption | exact Below.refl _ _ | refine Below.drew ?_ | refine Below.alloc ?_ (by first | omega | exact Below.size (by assumption) | (simp; done) | (simp; omega)) _ | refine Below.setCell ?_ (by first | omega | exact Below.size (by assumption) | (simp; done) | (simp; omega)) _ | refine below_setRow ?_ (by first | omega | exact Below.size (by assumption) | (simp; done) | (simp; omega)) _ | (refine Below.trans ?_ (Below.mono (by assumption) ?_); rotate_left; exact (by first | omega | exact Below.size (by assumption) | (simp; done) | (simp; omega)))))⟩
    · have hf2 := Lib.hid (show firstIdx p b.phis 0 = -1 by rw [hf.out, List.drop_eq_nil_of_le (by omega)]; rfl)
      go_wp2
      go_ret
      exact ⟨ret_int hf2.out.symm, hb⟩
theorem containsPhi_calls {W w : World} {A : Option Addr} {c0 : Nat} {b : PBlock} (hr : Rd W.heap.size A b.phis 3 (PhiC W W.heap.size)) (hl : Len b.phis.length) (hW : Below W.heap.size W w) (k : FuncId) (c : Value) (p : PPhi → Bool) (eg : ∀ args w, (callFunc k args).run Tryz.prog w = .ok (.enter k args) w) (hp : PredPhi W w k c b.phis p) :
    Calls Tryz.prog 140 #[.slice A b.phis.length c0, .func (.func k) #[] #[c]] w fun e w' => e = .returned (.bool (b.phis.any p)) ∧ Below w.heap.size w w' := by
  have hi := indexPhi_calls (c0 := c0) hr hl hW k c p eg hp
  go_enter Tryz.func140, Tryz.ntmps140
  go_wp2_with (go_at_call 163; refine hi.mono ?_; rintro e w1 ⟨rfl, hb⟩)
  go_ret
  exact ⟨ret_bool' (by simp only [decide_eq_true_eq]; exact firstIdx_neg p b.phis 0), hb⟩
theorem eg_shaped1 : ∀ args w, (callFunc 141 args).run Tryz.prog w = .ok (.enter 141 args) w := fun _ _ => by kernel_rfl
theorem shaped1_calls {W w : World} {fv c pv : Value} {F : PFunc} {x : PPhi} (hF : FnV W W.heap.size fv F) (hW : Below W.heap.size W w) (hc : FnBox w c fv) (hp : PhiV W W.heap.size pv x) :
    Calls Tryz.prog 141 #[pv, c] w fun e w' => e = .returned (.bool (!phiB F x)) ∧ Below w.heap.size w w' := by
  have h1 := fun (w : World) (h : Below W.heap.size W w) => phi_calls hF hp h
  have hWs := hW.size
  obtain ⟨b, y0, y1, y2, rfl, rfl, hl, h00, h01, h02⟩ := hc
  obtain ⟨A1, c1, A2, c2, rfl, -⟩ := hp.open_
  go_enter Tryz.func141, Tryz.ntmps141
  go_wp2_with (go_at_call 142; refine (h1 _ (by (focus repeat (first | assumption | exact Below.refl _ _ | refine Below.drew ?_ | refine Below.alloc ?_ (by first | omega | exact Below.size (by assumption) | (simp; done) | (simp; omega)) _ | refine Below.setCell ?_ (by first | omega | exact Below.size (by assumption) | (simp; done) | (simp; omega)) _ | refine below_setRow ?_ (by first | omega | exact Below.size (by assumption) | (simp; done) | (simp; omega)) _ | (refine Below.trans ?_ (Below.mono (by assumption) ?_); rotate_left; exact (by first | omega | exact Below.size (by assumption) | (simp; done) | (simp; omega))))))).mono ?_; rintro e w1 ⟨rfl, hb⟩)
  go_ret
  exact ⟨rfl, by (focus repeat (first | assumption | exact Below.refl _ _ | refine Below.drew ?_ | refine Below.alloc ?_ (by first | omega | exact Below.size (by assumption) | (simp; done) | (simp; omega)) _ | refine Below.setCell ?_ (by first | omega | exact Below.size (by assumption) | (simp; done) | (simp; omega)) _ | refine below_setRow ?_ (by first | omega | exact Below.size (by assumption) | (simp; done) | (simp; omega)) _ | (refine Below.trans ?_ (Below.mono (by assumption) ?_); rotate_left; exact (by first | omega | exact Below.size (by assumption) | (simp; done) | (simp; omega)))))⟩
theorem pred_shaped1 {W w : World} {fv c : Value} {F : PFunc} (hF : FnV W W.heap.size fv F) (hW : Below W.heap.size W w) (hc : FnBox w c fv) (xs : List PPhi) : PredPhi W w 141 c xs (fun x => !phiB F x) :=
  fun _ _ _ hp _ hb => shaped1_calls hF (hW.trans (hb.mono hW.size)) (hc.later hb) hp

/-- a predicate on Inst that a function value with one captured pointer is. -/
def PredInst (W w : World) (k : FuncId) (c : Value) (ps : List PInst) (p : PInst → Bool) : Prop :=
  ∀ x, x ∈ ps → ∀ pv, InstV W W.heap.size pv x → ∀ w1, Below w.heap.size w w1 → Calls Tryz.prog k #[pv, c] w1 fun e w' => e = .returned (.bool (p x)) ∧ Below w1.heap.size w1 w'
theorem mem_of_Inst {b : PBlock} {i : Nat} (h : i < b.insts.length) : b.inst i ∈ b.insts := List.mem_of_getElem? (PBlock.inst_get h)
theorem drop_Inst {b : PBlock} {i : Nat} (h : i < b.insts.length) : b.insts.drop i = b.inst i :: b.insts.drop (i + 1) := by
  rw [List.drop_eq_getElem_cons h]
  have := PBlock.inst_get h
  rw [List.getElem?_eq_getElem h] at this
  injection this with this
  rw [this]
set_option maxHeartbeats 400000 in
theorem indexInst_calls {W w : World} {A : Option Addr} {c0 : Nat} {b : PBlock} (hr : Rd W.heap.size A b.insts 4 (InstC W W.heap.size)) (hl : Len b.insts.length) (hW : Below W.heap.size W w) (k : FuncId) (c : Value) (p : PInst → Bool) (eg : ∀ args w, (callFunc k args).run Tryz.prog w = .ok (.enter k args) w) (hp : PredInst W w k c b.insts p) :
    Calls Tryz.prog 135 #[.slice A b.insts.length c0, .func (.func k) #[] #[c]] w fun e w' => e = .returned (.int .i64 (firstIdx p b.insts 0)) ∧ Below w.heap.size w w' := by
  unfold Len at hl
  go_enter Tryz.func135, Tryz.ntmps135
  go_wp2
  go_loopw [5, 8] (fun _ i wr => ∃ n : Nat, i = .int .i64 n ∧ n ≤ b.insts.length ∧ Below w.heap.size w wr ∧ Hid (firstIdx p b.insts 0 = firstIdx p (b.insts.drop n) n)) (fun _ i _ => b.insts.length - (intOf i).toNat)
  case atStart => exact ⟨0, rfl, Nat.zero_le _, Below.refl _ _, by simp [Hid]⟩
  case round =>
    obtain ⟨n, rfl, hn, hb, hf⟩ := hrel
    by_cases hlt : n < b.insts.length
    · obtain ⟨bb, off, A1, c1, rfl, hbs, x0, x1, x2, x3, l1, k1, r1⟩ := hr.inst (hW.trans (hb.mono hW.size)) hlt
      have hcl := hp _ (mem_of_Inst hlt) _ ⟨_, rfl, A1, c1, rfl, l1, k1, r1⟩ wr hb
      have hd := Lib.hid (drop_Inst hlt)
      clear l1 k1 r1 
      cases hx : p (b.inst n)
      · rw [hx] at hcl
        have hf2 := Lib.hid (show firstIdx p b.insts 0 = firstIdx p (b.insts.drop (n + 1)) (n + 1) by rw [hf.out, hd.out, firstIdx, if_neg (by rw [hx]; decide)])
        clear hx
        go_wp2_with (go_at_fn k; refine hcl.mono ?_; (rintro e w1 ⟨rfl, hb1⟩; obtain ⟨hc1, hf1⟩ := bcell hb1; have hz1 := hb1.size; try simp at hz1; try have hy1 := Nat.lt_of_succ_le hz1; try have hx1 := Nat.lt_of_succ_lt hy1; try have hw1 := Nat.lt_of_succ_lt hx1))
        go_roundw
        case rel => exact ⟨n + 1, by go_num, by omega, by (focus repeat (first | assumption | exact Below.refl _ _ | refine Below.drew ?_ | refine Below.alloc ?_ (by first | omega | exact Below.size (by assumption) | (simp; done) | (simp; omega)) _ | refine Below.setCell ?_ (by first | omega | exact Below.size (by assumption) | (simp; done) | (simp; omega)) _ | refine below_setRow ?_ (by first | omega | exact Below.size (by assumption) | (simp; done) | (simp; omega)) _ | (refine Below.trans ?_ (Below.mono (by assumption) ?_); rotate_left; exact (by first | omega | exact Below.size (by assumption) | (simp; done) | (simp; omega))))), hf2⟩
        case measure => simp [intOf]; omega
      · rw [hx] at hcl
        have hf2 := Lib.hid (show firstIdx p b.insts 0 = n by rw [hf.out, hd.out, firstIdx, if_pos hx])
        clear hx
        go_wp2_with (go_at_fn k; refine hcl.mono ?_; (rintro e w1 ⟨rfl, hb1⟩; obtain ⟨hc1, hf1⟩ := bcell hb1; have hz1 := hb1.size; try simp at hz1; try have hy1 := Nat.lt_of_succ_le hz1; try have hx1 := Nat.lt_of_succ_lt hy1; try have hw1 := Nat.lt_of_succ_lt hx1))
        go_ret
        exact ⟨ret_int hf2.out.symm, by (focus repeat (first | assumption | exact Below.refl _ _ | refine Below.drew ?_ | refine Below.alloc ?_ (by first | omega | exact Below.size (by assumption) | (simp; done) | (simp; omega)) _ | refine Below.setCell ?_ (by first | omega | exact Below.size (by assumption) | (simp; done) | (simp; omega)) _ | refine below_setRow ?_ (by first | omega | exact Below.size (by assumption) | (simp; done) | (simp; omega)) _ | (refine Below.trans ?_ (Below.mono (by assumption) ?_); rotate_left; exact (by first | omega | exact Below.size (by assumption) | (simp; done) | (simp; omega)))))⟩
    · have hf2 := Lib.hid (show firstIdx p b.insts 0 = -1 by rw [hf.out, List.drop_eq_nil_of_le (by omega)]; rfl)
      go_wp2
      go_ret
      exact ⟨ret_int hf2.out.symm, hb⟩
theorem containsInst_calls {W w : World} {A : Option Addr} {c0 : Nat} {b : PBlock} (hr : Rd W.heap.size A b.insts 4 (InstC W W.heap.size)) (hl : Len b.insts.length) (hW : Below W.heap.size W w) (k : FuncId) (c : Value) (p : PInst → Bool) (eg : ∀ args w, (callFunc k args).run Tryz.prog w = .ok (.enter k args) w) (hp : PredInst W w k c b.insts p) :
    Calls Tryz.prog 94 #[.slice A b.insts.length c0, .func (.func k) #[] #[c]] w fun e w' => e = .returned (.bool (b.insts.any p)) ∧ Below w.heap.size w w' := by
  have hi := indexInst_calls (c0 := c0) hr hl hW k c p eg hp
  go_enter Tryz.func94, Tryz.ntmps94
  go_wp2_with (go_at_call 135; refine hi.mono ?_; rintro e w1 ⟨rfl, hb⟩)
  go_ret
  exact ⟨ret_bool' (by simp only [decide_eq_true_eq]; exact firstIdx_neg p b.insts 0), hb⟩
theorem eg_shaped2 : ∀ args w, (callFunc 143 args).run Tryz.prog w = .ok (.enter 143 args) w := fun _ _ => by kernel_rfl
theorem shaped2_calls {W w : World} {fv c pv : Value} {F : PFunc} {x : PInst} (hF : FnV W W.heap.size fv F) (hW : Below W.heap.size W w) (hc : FnBox w c fv) (hp : InstV W W.heap.size pv x) :
    Calls Tryz.prog 143 #[pv, c] w fun e w' => e = .returned (.bool (!instB F x)) ∧ Below w.heap.size w w' := by
  have h1 := fun (w : World) (h : Below W.heap.size W w) => inst_calls hF hp h
  have hWs := hW.size
  obtain ⟨b, y0, y1, y2, rfl, rfl, hl, h00, h01, h02⟩ := hc
  obtain ⟨A1, c1, rfl, -⟩ := hp.open_
  go_enter Tryz.func143, Tryz.ntmps143
  go_wp2_with (go_at_call 144; refine (h1 _ (by (focus repeat (first | assumption | exact Below.refl _ _ | refine Below.drew ?_ | refine Below.alloc ?_ (by first | omega | exact Below.size (by assumption) | (simp; done) | (simp; omega)) _ | refine Below.setCell ?_ (by first | omega | exact Below.size (by assumption) | (simp; done) | (simp; omega)) _ | refine below_setRow ?_ (by first | omega | exact Below.size (by assumption) | (simp; done) | (simp; omega)) _ | (refine Below.trans ?_ (Below.mono (by assumption) ?_); rotate_left; exact (by first | omega | exact Below.size (by assumption) | (simp; done) | (simp; omega))))))).mono ?_; rintro e w1 ⟨rfl, hb⟩)
  go_ret
  exact ⟨rfl, by (focus repeat (first | assumption | exact Below.refl _ _ | refine Below.drew ?_ | refine Below.alloc ?_ (by first | omega | exact Below.size (by assumption) | (simp; done) | (simp; omega)) _ | refine Below.setCell ?_ (by first | omega | exact Below.size (by assumption) | (simp; done) | (simp; omega)) _ | refine below_setRow ?_ (by first | omega | exact Below.size (by assumption) | (simp; done) | (simp; omega)) _ | (refine Below.trans ?_ (Below.mono (by assumption) ?_); rotate_left; exact (by first | omega | exact Below.size (by assumption) | (simp; done) | (simp; omega)))))⟩
theorem pred_shaped2 {W w : World} {fv c : Value} {F : PFunc} (hF : FnV W W.heap.size fv F) (hW : Below W.heap.size W w) (hc : FnBox w c fv) (xs : List PInst) : PredInst W w 143 c xs (fun x => !instB F x) :=
  fun _ _ _ hp _ hb => shaped2_calls hF (hW.trans (hb.mono hW.size)) (hc.later hb) hp
end Go.Proofs.YteajnaabbddohaaGreatDoor
