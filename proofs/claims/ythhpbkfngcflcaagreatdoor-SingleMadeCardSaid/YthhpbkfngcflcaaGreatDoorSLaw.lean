/- The walks of single.Plain, ref16.Plain, and of the law's Single and Plain. -/
import Derived.Test.YthhpbkfngcflcaaGreatDoorSRight
import Derived.Test.YthhpbkfngcflcaaGreatDoorSRef
import Derived.Test.YthhpbkfngcflcaaGreatDoorGraph
namespace Go.Proofs.YthhpbkfngcflcaaGreatDoor
open Go.RowKit
set_option maxRecDepth 100000
theorem phisFew_each : ∀ {l : List PPhi} {m : Nat}, phisFew m l = true → ∀ p ∈ l, p.args.length ≤ 400 ∧ p.froms.length ≤ 400
 | [], _, _, p, hp => by simp at hp
 | c :: r, m, h, p, hp => by
  unfold phisFew at h
  simp only [Bool.and_eq_true, decide_eq_true_eq] at h
  rcases List.mem_cons.1 hp with rfl | hp
  · exact ⟨h.1.1.2, h.1.2⟩
  · exact phisFew_each h.2 p hp
theorem instsFew_each : ∀ {l : List PInst} {m : Nat}, instsFew m l = true → ∀ x ∈ l, x.args.length ≤ 400
 | [], _, _, p, hp => by simp at hp
 | c :: r, m, h, p, hp => by
  unfold instsFew at h
  simp only [Bool.and_eq_true, decide_eq_true_eq] at h
  rcases List.mem_cons.1 hp with rfl | hp
  · exact h.1.2
  · exact instsFew_each h.2 p hp
theorem blksFew_in : ∀ {l : List PBlock} {m : Nat}, blksFew m l = true → ∀ b ∈ l, (∀ p ∈ b.phis, p.args.length ≤ 400 ∧ p.froms.length ≤ 400) ∧ ∀ x ∈ b.insts, x.args.length ≤ 400
 | [], _, _, b, hb => by simp at hb
 | c :: r, m, h, b, hb => by
  unfold blksFew at h
  simp only [Bool.and_eq_true] at h
  rcases List.mem_cons.1 hb with rfl | hb
  · have := h.1
    unfold blkFew at this
    simp only [Bool.and_eq_true, decide_eq_true_eq] at this
    exact ⟨phisFew_each this.1.1.2, instsFew_each this.1.2⟩
  · exact blksFew_in h.2 b hb
theorem few_bnd {F : PFunc} (h : fewB F = true) : Bnd F := by
 unfold fewB at h
 simp only [Bool.and_eq_true, decide_eq_true_eq] at h
 refine ⟨ZO, ZO, ZO, fun b hb => ?_, fun b hb p hp => ?_, fun b hb x hx => ?_⟩
 · have := blksFew_each h.2 b hb
   omega
 · have := (blksFew_in h.2 b hb).1 p hp
   omega
 · have := (blksFew_in h.2 b hb).2 x hx
   omega
theorem typed_op {F : PFunc} (hT : typedP F = true) {i k : Nat} (hi : i < F.blocks.length) (hk : k < (F.blk i).insts.length) : 0 ≤ ((F.blk i).inst k).op ∧ ((F.blk i).inst k).op < 27 := by
 have h1 := (shaped_blk (typed_shaped hT) hi).2.1 _ (mem_of_Inst hk)
 unfold instB at h1
 simp only [Bool.and_eq_true] at h1
 have := inB_true h1.1.1.1.1
 omega
def isPi (x : PInst) : Bool := decide (x.op = 25) || decide (x.op = 26)
theorem eg_plain1 : ∀ args w, (callFunc 103 args).run Tryz.prog w = .ok (.enter 103 args) w := fun _ _ => by kernel_rfl
theorem plain1_calls {W w : World} {pv : Value} {x : PInst} (hp : InstV W W.heap.size pv x) :
 Calls Tryz.prog 103 #[pv] w fun e w' => e = .returned (.bool (isPi x)) ∧ Below w.heap.size w w' := by
 obtain ⟨A1, c1, rfl, -⟩ := hp.open_
 have HD := Lib.hid (show isPi x = (decide (x.op = 25) || decide (x.op = 26)) from rfl)
 by_cases h1 : x.op = 25
 · have h1' : (x.op == 25) = true := by simp [h1]
   have HF := Lib.hid (show isPi x = true by rw [HD.out, decide_eq_true h1]; rfl)
   clear h1
   go_enter Tryz.func103, Tryz.ntmps103
   go_wp2
   go_ret
   exact ⟨ret_bool HF.out.symm, by (focus repeat (first | assumption | exact Below.refl _ _ | refine Below.drew ?_ | refine Below.alloc ?_ (by first | omega | exact Below.size ZA | (simp; done) | (simp; omega)) _ | (refine Below.trans ?_ (Below.mono ZA ?_); rotate_left; exact (by first | omega | exact Below.size ZA | (simp; done) | (simp; omega)))))⟩
 · have h1' : (x.op == 25) = false := by simp [h1]
   have HF := Lib.hid (show isPi x = (x.op == 26) by rw [HD.out, decide_eq_false h1, Bool.false_or]; rfl)
   clear h1
   go_enter Tryz.func103, Tryz.ntmps103
   go_wp2
   go_ret
   exact ⟨ret_bool HF.out.symm, by (focus repeat (first | assumption | exact Below.refl _ _ | refine Below.drew ?_ | refine Below.alloc ?_ (by first | omega | exact Below.size ZA | (simp; done) | (simp; omega)) _ | (refine Below.trans ?_ (Below.mono ZA ?_); rotate_left; exact (by first | omega | exact Below.size ZA | (simp; done) | (simp; omega)))))⟩
def PredInst0 (W w : World) (k : FuncId) (ps : List PInst) (p : PInst → Bool) : Prop :=
 ∀ x, x ∈ ps → ∀ pv, InstV W W.heap.size pv x → ∀ w1, Below w.heap.size w w1 → Calls Tryz.prog k #[pv] w1 fun e w' => e = .returned (.bool (p x)) ∧ Below w1.heap.size w1 w'
set_option maxHeartbeats 400000 in
theorem indexInst0_calls {W w : World} {A : Option Addr} {c0 : Nat} {b : PBlock} (hr : Rd W.heap.size A b.insts 4 (InstC W W.heap.size)) (hl : Len b.insts.length) (hW : Below W.heap.size W w) (k : FuncId) (p : PInst → Bool) (eg : ∀ args w, (callFunc k args).run Tryz.prog w = .ok (.enter k args) w) (hp : PredInst0 W w k b.insts p) :
 Calls Tryz.prog 144 #[.slice A b.insts.length c0, .func (.func k) #[] #[]] w fun e w' => e = .returned (.int .i64 (firstIdx p b.insts 0)) ∧ Below w.heap.size w w' := by
 unfold Len at hl
 go_enter Tryz.func144, Tryz.ntmps144
 go_wp2
 go_loopw [5, 8] (fun _ i wr => ∃ n : Nat, i = .int .i64 n ∧ n ≤ b.insts.length ∧ Below w.heap.size w wr ∧ Hid (firstIdx p b.insts 0 = firstIdx p (b.insts.drop n) n)) (fun _ i _ => b.insts.length - (intOf i).toNat)
 case atStart => exact ⟨0, rfl, Nat.zero_le _, Below.refl _ _, by simp [Hid]⟩
 case round =>
  obtain ⟨n, rfl, hn, hb, hf⟩ := hrel
  by_cases hlt : n < b.insts.length
  · obtain ⟨bb, off, A1, c1, rfl, hbs, x0, x1, x2, x3, l1, k1, r1⟩ := hr.inst (hW.trans (hb.mono hW.size)) hlt
    have hcl := hp _ (mem_of_Inst hlt) _ ⟨_, rfl, A1, c1, rfl, l1, k1, r1⟩ wr hb
    have hd := Lib.hid (drop_Inst hlt)
    clear l1 k1 r1
    cases hx : p (b.inst n)
    · rw [hx] at hcl
      have hf2 := Lib.hid (show firstIdx p b.insts 0 = firstIdx p (b.insts.drop (n + 1)) (n + 1) by rw [hf.out, hd.out, firstIdx, if_neg (by rw [hx]; decide)])
      clear hx
      go_wp2_with (go_at_fn k; refine hcl.mono ?_; (rintro e w1 ⟨rfl, hb1⟩; obtain ⟨hc1, hf1⟩ := bcell hb1; have hz1 := hb1.size; try simp at hz1; try have hy1 := Nat.lt_of_succ_le hz1; try have hx1 := Nat.lt_of_succ_lt hy1; try have hw1 := Nat.lt_of_succ_lt hx1))
      go_roundw
      case rel => exact ⟨n + 1, ZN, ZO, by (focus repeat (first | assumption | exact Below.refl _ _ | refine Below.drew ?_ | refine Below.alloc ?_ (by first | omega | exact Below.size ZA | (simp; done) | (simp; omega)) _ | (refine Below.trans ?_ (Below.mono ZA ?_); rotate_left; exact (by first | omega | exact Below.size ZA | (simp; done) | (simp; omega))))), hf2⟩
      case measure => simp [intOf]; omega
    · rw [hx] at hcl
      have hf2 := Lib.hid (show firstIdx p b.insts 0 = n by rw [hf.out, hd.out, firstIdx, if_pos hx])
      clear hx
      go_wp2_with (go_at_fn k; refine hcl.mono ?_; (rintro e w1 ⟨rfl, hb1⟩; obtain ⟨hc1, hf1⟩ := bcell hb1; have hz1 := hb1.size; try simp at hz1; try have hy1 := Nat.lt_of_succ_le hz1; try have hx1 := Nat.lt_of_succ_lt hy1; try have hw1 := Nat.lt_of_succ_lt hx1))
      go_ret
      exact ⟨ret_int hf2.out.symm, by (focus repeat (first | assumption | exact Below.refl _ _ | refine Below.drew ?_ | refine Below.alloc ?_ (by first | omega | exact Below.size ZA | (simp; done) | (simp; omega)) _ | (refine Below.trans ?_ (Below.mono ZA ?_); rotate_left; exact (by first | omega | exact Below.size ZA | (simp; done) | (simp; omega)))))⟩
  · have hf2 := Lib.hid (show firstIdx p b.insts 0 = -1 by rw [hf.out, List.drop_eq_nil_of_le ZO]; rfl)
    go_wp2
    go_ret
    exact ⟨ret_int hf2.out.symm, hb⟩
theorem containsInst0_calls {W w : World} {A : Option Addr} {c0 : Nat} {b : PBlock} (hr : Rd W.heap.size A b.insts 4 (InstC W W.heap.size)) (hl : Len b.insts.length) (hW : Below W.heap.size W w) (k : FuncId) (p : PInst → Bool) (eg : ∀ args w, (callFunc k args).run Tryz.prog w = .ok (.enter k args) w) (hp : PredInst0 W w k b.insts p) :
 Calls Tryz.prog 102 #[.slice A b.insts.length c0, .func (.func k) #[] #[]] w fun e w' => e = .returned (.bool (b.insts.any p)) ∧ Below w.heap.size w w' := by
 have hi := indexInst0_calls (c0 := c0) hr hl hW k p eg hp
 go_enter Tryz.func102, Tryz.ntmps102
 go_wp2_with (go_at_call 144; refine hi.mono ?_; rintro e w1 ⟨rfl, hb⟩)
 go_ret
 exact ⟨ret_bool' (by simp only [decide_eq_true_eq]; exact firstIdx_neg p b.insts 0), hb⟩
def blkNoPi (b : PBlock) : Bool := b.insts.all fun x => decide (x.op < 25)
theorem pi_any {F : PFunc} (hT : typedP F = true) {i : Nat} (hi : i < F.blocks.length) : (F.blk i).insts.any isPi = !blkNoPi (F.blk i) := by
 unfold blkNoPi
 rw [List.not_all_eq_any_not, Bool.eq_iff_iff, List.any_eq_true, List.any_eq_true]
 have key : ∀ x ∈ (F.blk i).insts, isPi x = !decide (x.op < 25) := fun x hx => by
  obtain ⟨k, hk, rfl⟩ := List.getElem_of_mem hx
  have h1 := typed_op hT hi hk
  rw [PBlock.inst, getD_get hk] at h1
  unfold isPi
  rw [Bool.eq_iff_iff]
  simp only [Bool.or_eq_true, decide_eq_true_eq, Bool.not_eq_true', decide_eq_false_iff_not]
  omega
 constructor
 · rintro ⟨x, hx, h⟩
   exact ⟨x, hx, by rw [← key x hx]; exact h⟩
 · rintro ⟨x, hx, h⟩
   exact ⟨x, hx, by rw [key x hx]; exact h⟩
theorem noPi_no {F : PFunc} {i : Nat} (hi : i < F.blocks.length) (h : blkNoPi (F.blk i) = false) : noPi F = false := by
 rw [← Bool.not_eq_true]
 intro hh
 unfold noPi at hh
 rw [List.all_eq_true] at hh
 have := hh _ (mem_of_blk hi)
 unfold blkNoPi at h
 rw [h] at this
 cases this
theorem noPi_yes {F : PFunc} (h : ∀ i, i < F.blocks.length → blkNoPi (F.blk i) = true) : noPi F = true := by
 unfold noPi
 rw [List.all_eq_true]
 intro b hb
 obtain ⟨i, hi, rfl⟩ := List.getElem_of_mem hb
 have := h i hi
 rwa [PFunc.blk, getD_get hi] at this
noncomputable def plainS (F : PFunc) : Bool := rightS F && noPi F
set_option maxHeartbeats 4000000 in
theorem plainS_calls {W w : World} {fv : Value} {F : PFunc} (hU : Uni W) (hF : FnV W W.heap.size fv F) (hW : Below W.heap.size W w) (hS : Small F) (hB : Bnd F) :
 Calls Tryz.prog 67 #[fv] w fun e w' => e = .returned (.int .i64 (errOf (plainS F))) ∧ Below w.heap.size w w' := by
 have hr := fun (w' : World) (h : Below W.heap.size W w') => rightS_calls hU hF h hS hB
 have hWs := hW.size
 obtain ⟨X, hX⟩ : ∃ X, rightS F = X := ⟨_, rfl⟩
 rw [hX] at hr
 have HX := Lib.hid hX
 clear hX
 obtain ⟨A0, c0, A1, c1, A2, c2, rfl, l0, l1, l2, -, -, -, r0, r1, r2⟩ := id hF.open_
 unfold Len at *
 have hb0 := (Below.refl w.heap.size w).alloc (Nat.le_refl _) (.cells #[.slice A0 F.vars.length c0, .slice A1 F.params.length c1, .slice A2 F.blocks.length c2] 26)
 cases X
 · have HF := Lib.hid (show errOf (plainS F) = 3 by rw [plainS, HX.out]; rfl)
   replace hr : ∀ w', Below W.heap.size W w' → Calls Tryz.prog 25 #[.agg #[.slice A0 F.vars.length c0, .slice A1 F.params.length c1, .slice A2 F.blocks.length c2]] w' fun e w'' => e = .returned (.int .i64 3) ∧ Below w'.heap.size w' w'' := hr
   go_enter Tryz.func67, Tryz.ntmps67
   go_wp2_with fail
   refine (hr _ (by (focus repeat (first | assumption | exact Below.refl _ _ | refine Below.drew ?_ | refine Below.alloc ?_ (by first | omega | exact Below.size ZA | (simp; done) | (simp; omega)) _ | (refine Below.trans ?_ (Below.mono ZA ?_); rotate_left; exact (by first | omega | exact Below.size ZA | (simp; done) | (simp; omega))))))).mono ?_
   (rintro e w1 ⟨rfl, hb1⟩; obtain ⟨hc1, hf1⟩ := bcell hb1; have hz1 := hb1.size; try simp at hz1; try have hy1 := Nat.lt_of_succ_le hz1; try have hx1 := Nat.lt_of_succ_lt hy1; try have hw1 := Nat.lt_of_succ_lt hx1)
   go_wp2
   go_ret
   exact ⟨ret_int HF.out.symm, by (focus repeat (first | assumption | exact Below.refl _ _ | refine Below.drew ?_ | refine Below.alloc ?_ (by first | omega | exact Below.size ZA | (simp; done) | (simp; omega)) _ | (refine Below.trans ?_ (Below.mono ZA ?_); rotate_left; exact (by first | omega | exact Below.size ZA | (simp; done) | (simp; omega)))))⟩
 replace hr : ∀ w', Below W.heap.size W w' → Calls Tryz.prog 25 #[.agg #[.slice A0 F.vars.length c0, .slice A1 F.params.length c1, .slice A2 F.blocks.length c2]] w' fun e w'' => e = .returned (.int .i64 0) ∧ Below w'.heap.size w' w'' := hr
 have HT := Lib.hid (show typedP F = true by have := HX.out; unfold rightS at this; rw [Bool.and_eq_true] at this; exact this.1)
 obtain ⟨n1, n2⟩ := shaped_count (typed_shaped HT.out)
 have HPL := Lib.hid (show plainS F = noPi F by rw [plainS, HX.out]; rfl)
 go_enter Tryz.func67, Tryz.ntmps67
 go_wp2_with fail
 refine (hr _ (by (focus repeat (first | assumption | exact Below.refl _ _ | refine Below.drew ?_ | refine Below.alloc ?_ (by first | omega | exact Below.size ZA | (simp; done) | (simp; omega)) _ | (refine Below.trans ?_ (Below.mono ZA ?_); rotate_left; exact (by first | omega | exact Below.size ZA | (simp; done) | (simp; omega))))))).mono ?_
 rintro e w4 ⟨rfl, hb4⟩
 have hX4 : Below (w.heap.size + 1) (w.alloc (.cells #[.slice A0 F.vars.length c0, .slice A1 F.params.length c1, .slice A2 F.blocks.length c2] 26)) w4 := by simpa using hb4
 have hB4 := hb0.trans (hX4.mono (Nat.le_succ _))
 obtain ⟨q, q0, q1, q2⟩ := box3 hX4
 go_wp2
 clear q q0 q1 q2
 go_loopw [14] (fun x wr => ∃ n : Nat, x = .int .i64 n ∧ n ≤ F.blocks.length ∧ Hid (∀ m, m < n → blkNoPi (F.blk m) = true) ∧ Below w4.heap.size w4 wr) (fun x _ => F.blocks.length - (intOf x).toNat)
 case atStart => exact ⟨0, rfl, Nat.zero_le _, fun m hm => absurd hm (Nat.not_lt_zero _), Below.refl _ _⟩
 case round => as_aux_lemma =>
  obtain ⟨n, rfl, hn, HA, hb⟩ := hrel
  have hB := hB4.trans (hb.mono hB4.size)
  have hWr : Below W.heap.size W wr := hW.trans (hB.mono hWs)
  by_cases hlt : n < F.blocks.length
  · obtain ⟨bb, off, A3, c3, A4, c4, rfl, hbb, hnz, hy0, hy1, hy2, hy3, hy4, hy5, hy6, l3, l4, k3, k4, r3, r4⟩ := r2.blk hWr hlt
    have hcl := fun (w' : World) (h : Below W.heap.size W w') => containsInst0_calls (c0 := c4) r4 l4 h 103 isPi eg_plain1 (fun x _ pv hp w1 _ => plain1_calls hp)
    rw [pi_any HT.out hlt] at hcl
    obtain ⟨X, hX⟩ : ∃ X, blkNoPi (F.blk n) = X := ⟨_, rfl⟩
    rw [hX] at hcl
    have HXX := Lib.hid hX
    clear hX
    unfold Len at l3 l4
    have HBA := Lib.hid ((Below.refl wr.heap.size wr).alloc (Nat.le_refl _) (.cells #[.string (F.blk n).name, .slice A3 (F.blk n).phis.length c3, .slice A4 (F.blk n).insts.length c4, .int .i64 (F.blk n).term.kind, .int .i64 (F.blk n).term.var, .int .i64 (F.blk n).term.t0, .int .i64 (F.blk n).term.t1] 69))
    cases X
    · as_aux_lemma =>
      have HF := Lib.hid (show errOf (plainS F) = 3 by rw [HPL.out, noPi_no hlt HXX.out]; rfl)
      go_wp2_with fail
      refine (hcl _ (by (focus repeat (first | assumption | exact Below.refl _ _ | refine Below.drew ?_ | refine Below.alloc ?_ (by first | omega | exact Below.size ZA | (simp; done) | (simp; omega)) _ | (refine Below.trans ?_ (Below.mono ZA ?_); rotate_left; exact (by first | omega | exact Below.size ZA | (simp; done) | (simp; omega))))))).mono ?_
      rintro e w9 ⟨rfl, hb9⟩
      go_wp2
      go_ret
      exact ⟨ret_int HF.out.symm, hB.trans ((HBA.out.trans (hb9.mono HBA.out.size)).mono hB.size)⟩
    · as_aux_lemma =>
      go_wp2_with fail
      refine (hcl _ (by (focus repeat (first | assumption | exact Below.refl _ _ | refine Below.drew ?_ | refine Below.alloc ?_ (by first | omega | exact Below.size ZA | (simp; done) | (simp; omega)) _ | (refine Below.trans ?_ (Below.mono ZA ?_); rotate_left; exact (by first | omega | exact Below.size ZA | (simp; done) | (simp; omega))))))).mono ?_
      rintro e w9 ⟨rfl, hb9⟩
      go_wp2
      go_roundw
      case rel => exact ⟨n + 1, ZN, ZO, fun t ht => if h : t < n then HA.out t h else by
       obtain rfl : t = n := by omega
       exact HXX.out, hb.trans ((HBA.out.trans (hb9.mono HBA.out.size)).mono hb.size)⟩
      case measure => simp [intOf]; omega
  · obtain rfl : n = F.blocks.length := by omega
    have HF := Lib.hid (show errOf (plainS F) = 0 by rw [HPL.out, noPi_yes HA.out]; rfl)
    go_wp2
    go_ret
    exact ⟨ret_int HF.out.symm, hB⟩
theorem lawSingle_calls {W w : World} {fv : Value} {F : PFunc} (hU : Uni W) (hF : FnV W W.heap.size fv F) (hW : Below W.heap.size W w) :
 Calls Tryz.prog 26 #[fv] w fun e w' => e = .returned (.bool (lawT F && singleB F)) ∧ Below w.heap.size w w' := by
 have hty := fun (w : World) (h : Below W.heap.size W w) => lawTyped_calls hU hF h
 have hWs := hW.size
 obtain ⟨A0, c0, A1, c1, A2, c2, rfl, -⟩ := id hF.open_
 cases hx : lawT F
 · rw [hx] at hty
   clear hx
   go_enter Tryz.func26, Tryz.ntmps26
   go_wp2_with fail
   refine (hty _ (by (focus repeat (first | assumption | exact Below.refl _ _ | refine Below.drew ?_ | refine Below.alloc ?_ (by first | omega | exact Below.size ZA | (simp; done) | (simp; omega)) _ | (refine Below.trans ?_ (Below.mono ZA ?_); rotate_left; exact (by first | omega | exact Below.size ZA | (simp; done) | (simp; omega))))))).mono ?_
   (rintro e w1 ⟨rfl, hb1⟩; obtain ⟨hc1, hf1⟩ := bcell hb1; have hz1 := hb1.size; try simp at hz1; try have hy1 := Nat.lt_of_succ_le hz1; try have hx1 := Nat.lt_of_succ_lt hy1; try have hw1 := Nat.lt_of_succ_lt hx1)
   go_wp2
   go_ret
   exact ⟨rfl, by (focus repeat (first | assumption | exact Below.refl _ _ | refine Below.drew ?_ | refine Below.alloc ?_ (by first | omega | exact Below.size ZA | (simp; done) | (simp; omega)) _ | (refine Below.trans ?_ (Below.mono ZA ?_); rotate_left; exact (by first | omega | exact Below.size ZA | (simp; done) | (simp; omega)))))⟩
 · rw [hx] at hty
   have hT : typedP F = true := by unfold lawT at hx; rw [Bool.and_eq_true] at hx; exact hx.2
   have hs := fun (w : World) (h : Below W.heap.size W w) => refSingle_calls hF h hT
   rw [single_eq hT] at hs
   clear hx hT
   generalize singleB F = X at *
   go_enter Tryz.func26, Tryz.ntmps26
   go_wp2_with fail
   refine (hty _ (by (focus repeat (first | assumption | exact Below.refl _ _ | refine Below.drew ?_ | refine Below.alloc ?_ (by first | omega | exact Below.size ZA | (simp; done) | (simp; omega)) _ | (refine Below.trans ?_ (Below.mono ZA ?_); rotate_left; exact (by first | omega | exact Below.size ZA | (simp; done) | (simp; omega))))))).mono ?_
   (rintro e w1 ⟨rfl, hb1⟩; obtain ⟨hc1, hf1⟩ := bcell hb1; have hz1 := hb1.size; try simp at hz1; try have hy1 := Nat.lt_of_succ_le hz1; try have hx1 := Nat.lt_of_succ_lt hy1; try have hw1 := Nat.lt_of_succ_lt hx1)
   go_wp2_with fail
   refine (hs _ (by (focus repeat (first | assumption | exact Below.refl _ _ | refine Below.drew ?_ | refine Below.alloc ?_ (by first | omega | exact Below.size ZA | (simp; done) | (simp; omega)) _ | (refine Below.trans ?_ (Below.mono ZA ?_); rotate_left; exact (by first | omega | exact Below.size ZA | (simp; done) | (simp; omega))))))).mono ?_
   (rintro e w2 ⟨rfl, hb2⟩; obtain ⟨hc2, hf2⟩ := bcell hb2; have hz2 := hb2.size; try simp at hz2; try have hy2 := Nat.lt_of_succ_le hz2; try have hx2 := Nat.lt_of_succ_lt hy2; try have hw2 := Nat.lt_of_succ_lt hx2)
   go_wp2
   go_ret
   exact ⟨rfl, by (focus repeat (first | assumption | exact Below.refl _ _ | refine Below.drew ?_ | refine Below.alloc ?_ (by first | omega | exact Below.size ZA | (simp; done) | (simp; omega)) _ | (refine Below.trans ?_ (Below.mono ZA ?_); rotate_left; exact (by first | omega | exact Below.size ZA | (simp; done) | (simp; omega)))))⟩
def fnS1 : PFunc := ⟨[⟨⟨#[110]⟩, 0⟩, ⟨⟨#[109]⟩, 0⟩], [0], [⟨⟨#[97]⟩, [], [⟨2, 1, [0, 0], 0⟩, ⟨2, 1, [1, 0], 0⟩], ⟨2, 0, 0, 0⟩⟩]⟩
def fnS2 : PFunc := ⟨[⟨⟨#[110]⟩, 0⟩, ⟨⟨#[109]⟩, 0⟩], [0], [⟨⟨#[97]⟩, [], [⟨2, 1, [0, 0], 0⟩], ⟨2, 1, 0, 0⟩⟩]⟩
theorem fnS1_small : Small fnS1 := ⟨ZD, ZD, fun i hi => by
 have : i < 1 := hi
 match i, this with
 | 0, _ => decide⟩
theorem fnS2_small : Small fnS2 := ⟨ZD, ZD, fun i hi => by
 have : i < 1 := hi
 match i, this with
 | 0, _ => decide⟩
theorem fnS1_bnd : Bnd fnS1 := few_bnd (by decide +kernel)
theorem fnS2_bnd : Bnd fnS2 := few_bnd (by decide +kernel)
theorem fnS1_right : rightS fnS1 = false := by
 rw [rightS, single_no (.inr (.inr (by decide +kernel)))]
 simp
theorem fnS2_be (T : Nat → Nat → Bool) : behindB fnS2 T 0 = true := by rfl
theorem fnS2_right : rightS fnS2 = true := by
 rw [rightS, single_yes (by decide +kernel) (by decide +kernel) (by decide +kernel) (fun i hi => by
  have : i < 1 := hi
  obtain rfl : i = 0 := by omega
  exact fnS2_be _)]
 decide +kernel
theorem fnS2_plain : plainS fnS2 = true := by
 rw [plainS, fnS2_right]
 decide +kernel
def varsS : Array Value := #[.string ⟨#[110]⟩, .int .i64 0, .string ⟨#[109]⟩, .int .i64 0]
theorem fnS1_at {w : World} {b : Nat} (hl : b + 5 < w.heap.size) (c0 : ∀ j, w.cell? ⟨b, j, none⟩ = varsS[j]?) (c1 : ∀ j, w.cell? ⟨b + 1, j, none⟩ = (#[.int .i64 0] : Array Value)[j]?) (c2 : ∀ j, w.cell? ⟨b + 2, j, none⟩ = (#[.int .i64 0, .int .i64 0] : Array Value)[j]?)
 (c3 : ∀ j, w.cell? ⟨b + 3, j, none⟩ = (#[.int .i64 1, .int .i64 0] : Array Value)[j]?) (c4 : ∀ j, w.cell? ⟨b + 4, j, none⟩ = (#[.int .i64 2, .int .i64 1, .slice (some ⟨b + 2, 0, none⟩) 2 2, .int .i64 0, .int .i64 2, .int .i64 1, .slice (some ⟨b + 3, 0, none⟩) 2 2, .int .i64 0] : Array Value)[j]?)
 (c5 : ∀ j, w.cell? ⟨b + 5, j, none⟩ = (#[.string ⟨#[97]⟩, .slice none 0 0, .slice (some ⟨b + 4, 0, none⟩) 2 2, .int .i64 2, .int .i64 0, .int .i64 0, .int .i64 0] : Array Value)[j]?) :
 FnV w w.heap.size (.agg #[.slice (some ⟨b, 0, none⟩) 2 2, .slice (some ⟨b + 1, 0, none⟩) 1 1, .slice (some ⟨b + 5, 0, none⟩) 1 1]) fnS1 := by
 refine ⟨_, _, _, rfl, ⟨_, _, rfl, by simp [Len, fnS1], ZD, fun i x hx => ?_⟩, ⟨_, _, rfl, by simp [Len, fnS1], ZD, fun i x hx => ?_⟩, ⟨_, _, rfl, by simp [Len, fnS1], ZD, fun i x hx => ?_⟩⟩
 · refine ⟨b, 0, rfl, ZO, ?_⟩
   match i, hx with
   | 0, hx => cases hx; exact ⟨ZD, c0 0, c0 1⟩
   | 1, hx => cases hx; exact ⟨ZD, c0 2, c0 3⟩
 · refine ⟨b + 1, 0, rfl, ZO, ?_⟩
   match i, hx with
   | 0, hx => cases hx; exact c1 0
 · refine ⟨b + 5, 0, rfl, ZO, ?_⟩
   match i, hx with
   | 0, hx =>
    cases hx
    refine ⟨ZD, c5 0, ⟨_, c5 1, sl_nil⟩, ⟨_, c5 2, _, _, rfl, by simp [Len], ZD, fun i x hx => ⟨b + 4, 0, rfl, ZO, ?_⟩⟩, c5 3, c5 4, c5 5, c5 6⟩
    match i, hx with
    | 0, hx =>
     cases hx
     refine ⟨c4 0, c4 1, ⟨_, c4 2, _, _, rfl, by simp [Len], ZD, fun i x hx => ⟨b + 2, 0, rfl, ZO, ?_⟩⟩, c4 3⟩
     match i, hx with
     | 0, hx => cases hx; exact c2 0
     | 1, hx => cases hx; exact c2 1
    | 1, hx =>
     cases hx
     refine ⟨c4 4, c4 5, ⟨_, c4 6, _, _, rfl, by simp [Len], ZD, fun i x hx => ⟨b + 3, 0, rfl, ZO, ?_⟩⟩, c4 7⟩
     match i, hx with
     | 0, hx => cases hx; exact c3 0
     | 1, hx => cases hx; exact c3 1
theorem fnS2_at {w : World} {b b8 : Nat} (hl : b + 5 < w.heap.size) (h8 : b8 < w.heap.size) (c0 : ∀ j, w.cell? ⟨b, j, none⟩ = varsS[j]?) (c1 : ∀ j, w.cell? ⟨b + 1, j, none⟩ = (#[.int .i64 0] : Array Value)[j]?) (c2 : ∀ j, w.cell? ⟨b + 2, j, none⟩ = (#[.int .i64 0, .int .i64 0] : Array Value)[j]?)
 (c4 : ∀ j, w.cell? ⟨b + 4, j, none⟩ = (#[.int .i64 2, .int .i64 1, .slice (some ⟨b + 2, 0, none⟩) 2 2, .int .i64 0, .int .i64 2, .int .i64 1, .slice (some ⟨b + 3, 0, none⟩) 2 2, .int .i64 0] : Array Value)[j]?)
 (c5 : ∀ j, w.cell? ⟨b8, j, none⟩ = (#[.string ⟨#[97]⟩, .slice none 0 0, .slice (some ⟨b + 4, 0, none⟩) 1 2, .int .i64 2, .int .i64 1, .int .i64 0, .int .i64 0] : Array Value)[j]?) :
 FnV w w.heap.size (.agg #[.slice (some ⟨b, 0, none⟩) 2 2, .slice (some ⟨b + 1, 0, none⟩) 1 1, .slice (some ⟨b8, 0, none⟩) 1 1]) fnS2 := by
 refine ⟨_, _, _, rfl, ⟨_, _, rfl, by simp [Len, fnS2], ZD, fun i x hx => ?_⟩, ⟨_, _, rfl, by simp [Len, fnS2], ZD, fun i x hx => ?_⟩, ⟨_, _, rfl, by simp [Len, fnS2], ZD, fun i x hx => ?_⟩⟩
 · refine ⟨b, 0, rfl, ZO, ?_⟩
   match i, hx with
   | 0, hx => cases hx; exact ⟨ZD, c0 0, c0 1⟩
   | 1, hx => cases hx; exact ⟨ZD, c0 2, c0 3⟩
 · refine ⟨b + 1, 0, rfl, ZO, ?_⟩
   match i, hx with
   | 0, hx => cases hx; exact c1 0
 · refine ⟨b8, 0, rfl, h8, ?_⟩
   match i, hx with
   | 0, hx =>
    cases hx
    refine ⟨ZD, c5 0, ⟨_, c5 1, sl_nil⟩, ⟨_, c5 2, _, _, rfl, by simp [Len], ZD, fun i x hx => ⟨b + 4, 0, rfl, ZO, ?_⟩⟩, c5 3, c5 4, c5 5, c5 6⟩
    match i, hx with
    | 0, hx =>
     cases hx
     refine ⟨c4 0, c4 1, ⟨_, c4 2, _, _, rfl, by simp [Len], ZD, fun i x hx => ⟨b + 2, 0, rfl, ZO, ?_⟩⟩, c4 3⟩
     match i, hx with
     | 0, hx => cases hx; exact c2 0
     | 1, hx => cases hx; exact c2 1
theorem box9 {w V : World} {b0 b1 b2 b3 b4 b5 b6 b7 b8 : Array Value} {t0 t1 t2 t3 t4 t5 t6 t7 t8 : TypeId} (hV : V = (((((((((w.alloc (.cells b0 t0)).alloc (.cells b1 t1)).alloc (.cells b2 t2)).alloc (.cells b3 t3)).alloc (.cells b4 t4)).alloc (.cells b5 t5)).alloc (.cells b6 t6)).alloc (.cells b7 t7)).alloc (.cells b8 t8))) :
 BoxAt V (w.heap.size) b0 t0 ∧ BoxAt V (w.heap.size + 1) b1 t1 ∧ BoxAt V (w.heap.size + 1 + 1) b2 t2 ∧ BoxAt V (w.heap.size + 1 + 1 + 1) b3 t3 ∧ BoxAt V (w.heap.size + 1 + 1 + 1 + 1) b4 t4 ∧ BoxAt V (w.heap.size + 1 + 1 + 1 + 1 + 1) b5 t5 ∧ BoxAt V (w.heap.size + 1 + 1 + 1 + 1 + 1 + 1) b6 t6 ∧ BoxAt V (w.heap.size + 1 + 1 + 1 + 1 + 1 + 1 + 1) b7 t7 ∧ BoxAt V (w.heap.size + 1 + 1 + 1 + 1 + 1 + 1 + 1 + 1) b8 t8 := by
 subst hV
 have h0 := BoxAt.new w b0 t0
 have h1 := BoxAt.new (w.alloc (.cells b0 t0)) b1 t1
 replace h0 := h0.alloc (.cells b1 t1)
 have h2 := BoxAt.new ((w.alloc (.cells b0 t0)).alloc (.cells b1 t1)) b2 t2
 replace h0 := h0.alloc (.cells b2 t2)
 replace h1 := h1.alloc (.cells b2 t2)
 have h3 := BoxAt.new (((w.alloc (.cells b0 t0)).alloc (.cells b1 t1)).alloc (.cells b2 t2)) b3 t3
 replace h0 := h0.alloc (.cells b3 t3)
 replace h1 := h1.alloc (.cells b3 t3)
 replace h2 := h2.alloc (.cells b3 t3)
 have h4 := BoxAt.new ((((w.alloc (.cells b0 t0)).alloc (.cells b1 t1)).alloc (.cells b2 t2)).alloc (.cells b3 t3)) b4 t4
 replace h0 := h0.alloc (.cells b4 t4)
 replace h1 := h1.alloc (.cells b4 t4)
 replace h2 := h2.alloc (.cells b4 t4)
 replace h3 := h3.alloc (.cells b4 t4)
 have h5 := BoxAt.new (((((w.alloc (.cells b0 t0)).alloc (.cells b1 t1)).alloc (.cells b2 t2)).alloc (.cells b3 t3)).alloc (.cells b4 t4)) b5 t5
 replace h0 := h0.alloc (.cells b5 t5)
 replace h1 := h1.alloc (.cells b5 t5)
 replace h2 := h2.alloc (.cells b5 t5)
 replace h3 := h3.alloc (.cells b5 t5)
 replace h4 := h4.alloc (.cells b5 t5)
 have h6 := BoxAt.new ((((((w.alloc (.cells b0 t0)).alloc (.cells b1 t1)).alloc (.cells b2 t2)).alloc (.cells b3 t3)).alloc (.cells b4 t4)).alloc (.cells b5 t5)) b6 t6
 replace h0 := h0.alloc (.cells b6 t6)
 replace h1 := h1.alloc (.cells b6 t6)
 replace h2 := h2.alloc (.cells b6 t6)
 replace h3 := h3.alloc (.cells b6 t6)
 replace h4 := h4.alloc (.cells b6 t6)
 replace h5 := h5.alloc (.cells b6 t6)
 have h7 := BoxAt.new (((((((w.alloc (.cells b0 t0)).alloc (.cells b1 t1)).alloc (.cells b2 t2)).alloc (.cells b3 t3)).alloc (.cells b4 t4)).alloc (.cells b5 t5)).alloc (.cells b6 t6)) b7 t7
 replace h0 := h0.alloc (.cells b7 t7)
 replace h1 := h1.alloc (.cells b7 t7)
 replace h2 := h2.alloc (.cells b7 t7)
 replace h3 := h3.alloc (.cells b7 t7)
 replace h4 := h4.alloc (.cells b7 t7)
 replace h5 := h5.alloc (.cells b7 t7)
 replace h6 := h6.alloc (.cells b7 t7)
 have h8 := BoxAt.new ((((((((w.alloc (.cells b0 t0)).alloc (.cells b1 t1)).alloc (.cells b2 t2)).alloc (.cells b3 t3)).alloc (.cells b4 t4)).alloc (.cells b5 t5)).alloc (.cells b6 t6)).alloc (.cells b7 t7)) b8 t8
 replace h0 := h0.alloc (.cells b8 t8)
 replace h1 := h1.alloc (.cells b8 t8)
 replace h2 := h2.alloc (.cells b8 t8)
 replace h3 := h3.alloc (.cells b8 t8)
 replace h4 := h4.alloc (.cells b8 t8)
 replace h5 := h5.alloc (.cells b8 t8)
 replace h6 := h6.alloc (.cells b8 t8)
 replace h7 := h7.alloc (.cells b8 t8)
 simp only [World.size_alloc] at h1 h2 h3 h4 h5 h6 h7 h8
 exact ⟨h0, h1, h2, h3, h4, h5, h6, h7, h8⟩
set_option maxHeartbeats 8000000 in
theorem livesS_calls {W w : World} (hU : Uni W) (hW : Below W.heap.size W w) :
 Calls Tryz.prog 24 #[] w fun e w' => e = .returned (.bool true) ∧ Below w.heap.size w w' := by
 obtain ⟨V9, hV9⟩ : ∃ V9 : World, V9 = (((((((((w.alloc (.cells #[.string ⟨#[110]⟩, .int .i64 0, .string ⟨#[109]⟩, .int .i64 0] 86)).alloc (.cells #[.int .i64 0] 3)).alloc (.cells #[.int .i64 0, .int .i64 0] 3)).alloc (.cells #[.int .i64 1, .int .i64 0] 3)).alloc (.cells #[.int .i64 2, .int .i64 1, .slice (some ⟨w.heap.size + 1 + 1, 0, none⟩) 2 2, .int .i64 0, .int .i64 2, .int .i64 1, .slice (some ⟨w.heap.size + 1 + 1 + 1, 0, none⟩) 2 2, .int .i64 0] 102)).alloc (.cells #[.string ⟨#[97]⟩, .slice none 0 0, .slice (some ⟨w.heap.size + 1 + 1 + 1 + 1, 0, none⟩) 2 2, .int .i64 2, .int .i64 0, .int .i64 0, .int .i64 0] 69)).alloc (.cells #[.slice (some ⟨w.heap.size, 0, none⟩) 2 2, .slice (some ⟨w.heap.size + 1, 0, none⟩) 1 1, .slice (some ⟨w.heap.size + 1 + 1 + 1 + 1 + 1, 0, none⟩) 1 1] 26)).alloc (.cells #[.slice (some ⟨w.heap.size, 0, none⟩) 2 2, .slice (some ⟨w.heap.size + 1, 0, none⟩) 1 1, .slice (some ⟨w.heap.size + 1 + 1 + 1 + 1 + 1 + 1 + 1 + 1, 0, none⟩) 1 1] 26)).alloc (.cells #[.string ⟨#[97]⟩, .slice none 0 0, .slice (some ⟨w.heap.size + 1 + 1 + 1 + 1, 0, none⟩) 1 2, .int .i64 2, .int .i64 1, .int .i64 0, .int .i64 0] 69)) := ⟨_, rfl⟩
 have hb0 : Below w.heap.size w V9 := by subst hV9; (focus repeat (first | assumption | exact Below.refl _ _ | refine Below.drew ?_ | refine Below.alloc ?_ (by first | omega | exact Below.size ZA | (simp; done) | (simp; omega)) _ | (refine Below.trans ?_ (Below.mono ZA ?_); rotate_left; exact (by first | omega | exact Below.size ZA | (simp; done) | (simp; omega)))))
 have hU9 := (hU.below hW).below hb0
 have hs9 : V9.heap.size = w.heap.size + 9 := by subst hV9; simp
 obtain ⟨x0, x1, x2, x3, x4, x5, -, x7, x8⟩ := box9 hV9
 have hF1 : FnV V9 V9.heap.size (.agg #[.slice (some ⟨w.heap.size, 0, none⟩) 2 2, .slice (some ⟨w.heap.size + 1, 0, none⟩) 1 1, .slice (some ⟨w.heap.size + 1 + 1 + 1 + 1 + 1, 0, none⟩) 1 1]) fnS1 :=
  fnS1_at (b := w.heap.size) ZO x0.cell x1.cell x2.cell x3.cell x4.cell x5.cell
 have hF2 : FnV V9 V9.heap.size (.agg #[.slice (some ⟨w.heap.size, 0, none⟩) 2 2, .slice (some ⟨w.heap.size + 1, 0, none⟩) 1 1, .slice (some ⟨w.heap.size + 1 + 1 + 1 + 1 + 1 + 1 + 1 + 1, 0, none⟩) 1 1]) fnS2 :=
  fnS2_at (b := w.heap.size) (b8 := w.heap.size + 1 + 1 + 1 + 1 + 1 + 1 + 1 + 1) ZO ZO x0.cell x1.cell x2.cell x4.cell x8.cell
 have h1 := rightS_calls hU9 hF1 (Below.refl _ _) fnS1_small fnS1_bnd
 have h2 := fun (w' : World) (h : Below V9.heap.size V9 w') => plainS_calls hU9 hF2 h fnS2_small fnS2_bnd
 have h3 := fun (w' : World) (h : Below V9.heap.size V9 w') => rightS_calls hU9 hF2 h fnS2_small fnS2_bnd
 rw [fnS1_right] at h1
 rw [fnS2_plain] at h2
 rw [fnS2_right] at h3
 have HG := Lib.hid (fun (w' : World) (h : Below V9.heap.size V9 w') => show (w.heap.size + 1 + 1 + 1 + 1 + 1 + 1 + 1) < w'.heap.size ∧ w'.cell? ⟨w.heap.size + 1 + 1 + 1 + 1 + 1 + 1 + 1, 0, none⟩ = _ ∧ w'.cell? ⟨w.heap.size + 1 + 1 + 1 + 1 + 1 + 1 + 1, 1, none⟩ = _ ∧ w'.cell? ⟨w.heap.size + 1 + 1 + 1 + 1 + 1 + 1 + 1, 2, none⟩ = _ from ⟨Nat.lt_of_lt_of_le x7.lt h.size, (h.cell (p := ⟨w.heap.size + 1 + 1 + 1 + 1 + 1 + 1 + 1, 0, none⟩) x7.lt).trans (x7.cell 0), (h.cell (p := ⟨w.heap.size + 1 + 1 + 1 + 1 + 1 + 1 + 1, 1, none⟩) x7.lt).trans (x7.cell 1), (h.cell (p := ⟨w.heap.size + 1 + 1 + 1 + 1 + 1 + 1 + 1, 2, none⟩) x7.lt).trans (x7.cell 2)⟩)
 replace h1 : Calls Tryz.prog 25 _ V9 fun e w'' => e = .returned (.int .i64 3) ∧ Below V9.heap.size V9 w'' := h1
 replace h2 : ∀ w', Below V9.heap.size V9 w' → Calls Tryz.prog 67 _ w' fun e w'' => e = .returned (.int .i64 0) ∧ Below w'.heap.size w' w'' := h2
 replace h3 : ∀ w', Below V9.heap.size V9 w' → Calls Tryz.prog 25 _ w' fun e w'' => e = .returned (.int .i64 0) ∧ Below w'.heap.size w' w'' := h3
 have HB0 := Lib.hid hb0
 have h9 : w.heap.size ≤ V9.heap.size := by omega
 clear x0 x1 x2 x3 x4 x5 x7 x8 hF1 hF2 hU9 hU hW hs9 hb0
 go_enter Tryz.func24, Tryz.ntmps24
 go_wp2_with fail
 rw [← hV9]
 clear hV9
 refine h1.mono ?_
 rintro e w5 ⟨rfl, hb5⟩
 obtain ⟨g0, g1, g2, g3⟩ := HG.out w5 hb5
 simp only [List.getElem?_toArray, List.getElem?_cons_zero, List.getElem?_cons_succ] at g1 g2 g3
 go_wp2_with fail
 refine (h2 _ hb5).mono ?_
 rintro e w6 ⟨rfl, hb6⟩
 have hb6' := hb5.trans (hb6.mono hb5.size)
 clear g0 g1 g2 g3
 obtain ⟨g0, g1, g2, g3⟩ := HG.out w6 hb6'
 simp only [List.getElem?_toArray, List.getElem?_cons_zero, List.getElem?_cons_succ] at g1 g2 g3
 go_wp2_with fail
 refine (h3 _ hb6').mono ?_
 rintro e w7 ⟨rfl, hb7⟩
 go_wp2
 go_ret
 exact ⟨rfl, HB0.out.trans ((hb6'.trans (hb7.mono hb6'.size)).mono h9)⟩
end Go.Proofs.YthhpbkfngcflcaaGreatDoor
