/- Typing: kind, phi$1, and slices.ContainsFunc over []int with a function value of two captured pointers. Typing: phi, term, inst. The walk of typing.Typed. -/
import Derived.Test.YteajnaabbddohaaGreatDoorShaped
namespace Go.Proofs.YteajnaabbddohaaGreatDoor
open Go.RowKit
set_option maxRecDepth 100000

def tyOf (F : PFunc) (v : Int) : Int := (F.var v.toNat).ty
theorem inB_nat {v : Int} {n : Nat} (h : inB v n = true) : ∃ k : Nat, v = k ∧ k < n := by
  unfold inB at h
  simp at h
  exact ⟨v.toNat, by omega, by omega⟩
theorem kindIn_calls {W w : World} {fv : Value} {F : PFunc} (hF : FnV W W.heap.size fv F) (hW : Below W.heap.size W w) {v : Int} (hv : inB v F.vars.length = true) :
    Calls Tryz.prog 147 #[fv, .int .i64 v] w fun e w' => e = .returned (.int .i64 (tyOf F v)) ∧ Below w.heap.size w w' := kind_calls hF hW v (inB_true hv).1 (inB_true hv).2
theorem ofIn_calls {W w : World} {fv : Value} {F : PFunc} (hF : FnV W W.heap.size fv F) (hW : Below W.heap.size W w) {v : Int} (hv : inB v F.vars.length = true) :
    Calls Tryz.prog 109 #[fv, .int .i64 v] w fun e w' => e = .returned (.int .i64 (tyOf F v)) ∧ Below w.heap.size w w' := of_calls hF hW v (inB_true hv).1 (inB_true hv).2

/-- a predicate on numbers that a function value with two captured pointers is. -/
def PredI2 (w : World) (k : FuncId) (c d : Value) (xs : List Int) (p : Int → Bool) : Prop :=
  ∀ x, x ∈ xs → ∀ w1, Below w.heap.size w w1 → Calls Tryz.prog k #[.int .i64 x, c, d] w1 fun e w' => e = .returned (.bool (p x)) ∧ Below w1.heap.size w1 w'
set_option maxHeartbeats 400000 in
theorem indexI2_calls {W w : World} {A : Option Addr} {c0 : Nat} {xs : List Int} (hr : Rd W.heap.size A xs 1 (IntC W)) (hl : Len xs.length) (hW : Below W.heap.size W w) (k : FuncId) (c d : Value) (p : Int → Bool) (eg : ∀ args w, (callFunc k args).run Tryz.prog w = .ok (.enter k args) w) (hp : PredI2 w k c d xs p) :
    Calls Tryz.prog 137 #[.slice A xs.length c0, .func (.func k) #[] #[c, d]] w fun e w' => e = .returned (.int .i64 (firstIdx p xs 0)) ∧ Below w.heap.size w w' := by
  unfold Len at hl
  go_enter Tryz.func137, Tryz.ntmps137
  go_wp2
  go_loopw [5, 8] (fun _ i wr => ∃ n : Nat, i = .int .i64 n ∧ n ≤ xs.length ∧ Below w.heap.size w wr ∧ Hid (firstIdx p xs 0 = firstIdx p (xs.drop n) n)) (fun _ i _ => xs.length - (intOf i).toNat)
  case atStart => exact ⟨0, rfl, Nat.zero_le _, Below.refl _ _, by simp [Hid]⟩
  case round =>
    obtain ⟨n, rfl, hn, hb, hf⟩ := hrel
    by_cases hlt : n < xs.length
    · obtain ⟨b, off, rfl, hbs, hc⟩ := hr.int (hW.trans (hb.mono hW.size)) hlt
      have hcl := hp _ (mem_of_ith hlt) wr hb
      have hd := Lib.hid (drop_ith hlt)
      cases hx : p (ith xs n)
      · rw [hx] at hcl
        have hf2 := Lib.hid (show firstIdx p xs 0 = firstIdx p (xs.drop (n + 1)) (n + 1) by rw [hf.out, hd.out, firstIdx, if_neg (by rw [hx]; decide)])
        clear hx
        go_wp2_with (go_at_fn k; refine hcl.mono ?_; (rintro e w1 ⟨rfl, hb1⟩; obtain ⟨hc1, hf1⟩ := bcell hb1; have hz1 := hb1.size; try simp at hz1; try have hy1 := Nat.lt_of_succ_le hz1; try have hx1 := Nat.lt_of_succ_lt hy1; try have hw1 := Nat.lt_of_succ_lt hx1))
        go_roundw
        case rel => exact ⟨n + 1, by go_num, by omega, by (focus repeat (first | assumption | exact Below.refl _ _ | refine Below.drew ?_ | refine Below.alloc ?_ (by first | omega | exact Below.size (by assumption) | (simp; done) | (simp; omega)) _ | refine Below.setCell ?_ (by first | omega | exact Below.size (by assumption) | (simp; done) | (simp; omega)) _ | refine below_setRow ?_ (by first | omega | exact Below.size (by assumption) | (simp; done) | (simp; omega)) _ | (refine Below.trans ?_ (Below.mono (by assumption) ?_); rotate_left; exact (by first | omega | exact Below.size (by assumption) | (simp; done) | (simp; omega))))), hf2⟩
        case measure => simp [intOf]; omega
      · rw [hx] at hcl
        have hf2 := Lib.hid (show firstIdx p xs 0 = n by rw [hf.out, hd.out, firstIdx, if_pos hx])
        clear hx
        go_wp2_with (go_at_fn k; refine hcl.mono ?_; (rintro e w1 ⟨rfl, hb1⟩; obtain ⟨hc1, hf1⟩ := bcell hb1; have hz1 := hb1.size; try simp at hz1; try have hy1 := Nat.lt_of_succ_le hz1; try have hx1 := Nat.lt_of_succ_lt hy1; try have hw1 := Nat.lt_of_succ_lt hx1))
        go_ret
        exact ⟨ret_int hf2.out.symm, by (focus repeat (first | assumption | exact Below.refl _ _ | refine Below.drew ?_ | refine Below.alloc ?_ (by first | omega | exact Below.size (by assumption) | (simp; done) | (simp; omega)) _ | refine Below.setCell ?_ (by first | omega | exact Below.size (by assumption) | (simp; done) | (simp; omega)) _ | refine below_setRow ?_ (by first | omega | exact Below.size (by assumption) | (simp; done) | (simp; omega)) _ | (refine Below.trans ?_ (Below.mono (by assumption) ?_); rotate_left; exact (by first | omega | exact Below.size (by assumption) | (simp; done) | (simp; omega)))))⟩
    · have hf2 := Lib.hid (show firstIdx p xs 0 = -1 by rw [hf.out, List.drop_eq_nil_of_le (by omega)]; rfl)
      go_wp2
      go_ret
      exact ⟨ret_int hf2.out.symm, hb⟩
theorem containsI2_calls {W w : World} {A : Option Addr} {c0 : Nat} {xs : List Int} (hr : Rd W.heap.size A xs 1 (IntC W)) (hl : Len xs.length) (hW : Below W.heap.size W w) (k : FuncId) (c d : Value) (p : Int → Bool) (eg : ∀ args w, (callFunc k args).run Tryz.prog w = .ok (.enter k args) w) (hp : PredI2 w k c d xs p) :
    Calls Tryz.prog 99 #[.slice A xs.length c0, .func (.func k) #[] #[c, d]] w fun e w' => e = .returned (.bool (xs.any p)) ∧ Below w.heap.size w w' := by
  have hi := indexI2_calls (c0 := c0) hr hl hW k c d p eg hp
  go_enter Tryz.func99, Tryz.ntmps99
  go_wp2_with (go_at_call 137; refine hi.mono ?_; rintro e w1 ⟨rfl, hb⟩)
  go_ret
  exact ⟨ret_bool' (by simp only [decide_eq_true_eq]; exact firstIdx_neg p xs 0), hb⟩

theorem eg_kphi1 : ∀ args w, (callFunc 146 args).run Tryz.prog w = .ok (.enter 146 args) w := fun _ _ => by kernel_rfl
theorem kphi1_calls {W w : World} {fv pv c d : Value} {F : PFunc} {x : PPhi} (hF : FnV W W.heap.size fv F) (hW : Below W.heap.size W w) (hc : FnBox w c fv) (hd : FnBox w d pv) (hp : PhiV W W.heap.size pv x)
    {v : Int} (hv : inB v F.vars.length = true) (hx : inB x.dst F.vars.length = true) :
    Calls Tryz.prog 146 #[.int .i64 v, c, d] w fun e w' => e = .returned (.bool (tyOf F v != tyOf F x.dst)) ∧ Below w.heap.size w w' := by
  have h1 := fun (w : World) (h : Below W.heap.size W w) => kindIn_calls hF h hv
  have h2 := fun (w : World) (h : Below W.heap.size W w) => kindIn_calls hF h hx
  have hWs := hW.size
  obtain ⟨b, y0, y1, y2, rfl, rfl, hl, h00, h01, h02⟩ := hc
  obtain ⟨b', z0, z1, z2, rfl, rfl, hl', h10, h11, h12⟩ := hd
  obtain ⟨A1, c1, A2, c2, hpe, -⟩ := hp.open_
  simp only [Value.agg.injEq, Array.mk.injEq, List.cons.injEq, and_true] at hpe
  obtain ⟨rfl, rfl, rfl⟩ := hpe
  go_enter Tryz.func146, Tryz.ntmps146
  go_wp2_with fail
  obtain ⟨S0, hS0⟩ : ∃ S0 : World → Prop, S0 = fun w' => w'.cell? ⟨b, 0, none⟩ = some y0 ∧ w'.cell? ⟨b, 1, none⟩ = some y1 ∧ w'.cell? ⟨b, 2, none⟩ = some y2 ∧ w'.cell? ⟨b', 0, none⟩ = some (.int .i64 x.dst) ∧ Below w.heap.size w w' ∧ b < w'.heap.size ∧ b' < w'.heap.size := ⟨_, rfl⟩
  have HS0 := Lib.hid hS0
  clear hS0
  have k0 : ∀ xw : WS S0, xw.w.cell? ⟨b, 0, none⟩ = some y0 := fun xw => by have hp := cast (congrFun HS0.out xw.w) xw.h; exact hp.1
  have k1 : ∀ xw : WS S0, xw.w.cell? ⟨b, 1, none⟩ = some y1 := fun xw => by have hp := cast (congrFun HS0.out xw.w) xw.h; exact hp.2.1
  have k2 : ∀ xw : WS S0, xw.w.cell? ⟨b, 2, none⟩ = some y2 := fun xw => by have hp := cast (congrFun HS0.out xw.w) xw.h; exact hp.2.2.1
  have k3 : ∀ xw : WS S0, xw.w.cell? ⟨b', 0, none⟩ = some (.int .i64 x.dst) := fun xw => by have hp := cast (congrFun HS0.out xw.w) xw.h; exact hp.2.2.2.1
  have k4 : ∀ xw : WS S0, Below w.heap.size w xw.w := fun xw => by have hp := cast (congrFun HS0.out xw.w) xw.h; exact hp.2.2.2.2.1
  have k5 : ∀ xw : WS S0, b < xw.w.heap.size := fun xw => by have hp := cast (congrFun HS0.out xw.w) xw.h; exact hp.2.2.2.2.2.1
  have k6 : ∀ xw : WS S0, b' < xw.w.heap.size := fun xw => by have hp := cast (congrFun HS0.out xw.w) xw.h; exact hp.2.2.2.2.2.2
  refine wp_region_sched (S := S0) [0, 1, 3, 4, 5, 2, 6, 7, 8] (by kernel_rfl) (by kernel_rfl) (fun _ _ _ _ _ h => h) ?hS (fun hSc => ?_)
  case hS =>
    rw [HS0.out]
    refine ⟨?_, ?_, ?_, ?_, ?_, ?_, ?_⟩
    · first | assumption | (go_keep; done) | (go_simp; done)
    · first | assumption | (go_keep; done) | (go_simp; done)
    · first | assumption | (go_keep; done) | (go_simp; done)
    · first | assumption | (go_keep; done) | (go_simp; done)
    · (focus repeat (first | assumption | exact Below.refl _ _ | refine Below.drew ?_ | refine Below.alloc ?_ (by first | omega | exact Below.size (by assumption) | (simp; done) | (simp; omega)) _ | refine Below.setCell ?_ (by first | omega | exact Below.size (by assumption) | (simp; done) | (simp; omega)) _ | refine below_setRow ?_ (by first | omega | exact Below.size (by assumption) | (simp; done) | (simp; omega)) _ | (refine Below.trans ?_ (Below.mono (by assumption) ?_); rotate_left; exact (by first | omega | exact Below.size (by assumption) | (simp; done) | (simp; omega)))))
    · first | omega | (rw [heap_drew]; omega) | (simp; done) | (simp; omega)
    · first | omega | (rw [heap_drew]; omega) | (simp; done) | (simp; omega)
  have hne0 : Nonempty (WS S0) := ⟨⟨_, hSc⟩⟩
  simp only [List.map_cons, List.map_nil, List.getD_cons_succ, List.getD_cons_zero]
  refine wpSch_looks (L1 := [_, _, _, _, _]) (L2 := _) rfl ?_
  iterate 5 (go_big_quiet_step (fail))
  refine wpQuiet_nil ?_
  (try dsimp only)
  refine wpSch_act rfl rfl (fun K hK => ?_)
  go_simp
  go_wp2_with (first | (go_at_call 147; first | (with_reducible refine (h1 _ (hW.trans ((k4 ⟨_, hSc⟩).mono hWs))).mono ?_; (rintro e w9 ⟨rfl, hb9⟩; obtain ⟨hc9, hf9⟩ := bcell hb9; have hz9 := hb9.size; try simp at hz9; try have hy9 := Nat.lt_of_succ_le hz9; try have hx9 := Nat.lt_of_succ_lt hy9; try have hw9 := Nat.lt_of_succ_lt hx9)) | (with_reducible refine (h2 _ (hW.trans ((k4 ⟨_, hSc⟩).mono hWs))).mono ?_; (rintro e w9 ⟨rfl, hb9⟩; obtain ⟨hc9, hf9⟩ := bcell hb9; have hz9 := hb9.size; try simp at hz9; try have hy9 := Nat.lt_of_succ_le hz9; try have hx9 := Nat.lt_of_succ_lt hy9; try have hw9 := Nat.lt_of_succ_lt hx9))))
  refine hK.out _ _ ?hS (fun hSc => ?_)
  case hS =>
    first
    | exact hSc
    | (rw [HS0.out] at hSc ⊢; obtain ⟨p0, p1, p2, p3, p4, p5, p6⟩ := hSc; exact ⟨(hc9 _ _ (by first | assumption | omega)).trans p0, (hc9 _ _ (by first | assumption | omega)).trans p1, (hc9 _ _ (by first | assumption | omega)).trans p2, (hc9 _ _ (by first | assumption | omega)).trans p3, p4.trans (hb9.mono (by have := p4.size; first | omega | (simp at this ⊢; omega))), by first | exact Nat.lt_of_lt_of_le p5 hb9.size | omega | (simp; done) | (simp; omega), by first | exact Nat.lt_of_lt_of_le p6 hb9.size | omega | (simp; done) | (simp; omega)⟩)
  clear hK K
  refine wpSch_act rfl rfl (fun K hK => ?_)
  go_simp
  go_wp2_with (first | (go_at_call 147; first | (with_reducible refine (h1 _ (hW.trans ((k4 ⟨_, hSc⟩).mono hWs))).mono ?_; (rintro e w9 ⟨rfl, hb9⟩; obtain ⟨hc9, hf9⟩ := bcell hb9; have hz9 := hb9.size; try simp at hz9; try have hy9 := Nat.lt_of_succ_le hz9; try have hx9 := Nat.lt_of_succ_lt hy9; try have hw9 := Nat.lt_of_succ_lt hx9)) | (with_reducible refine (h2 _ (hW.trans ((k4 ⟨_, hSc⟩).mono hWs))).mono ?_; (rintro e w9 ⟨rfl, hb9⟩; obtain ⟨hc9, hf9⟩ := bcell hb9; have hz9 := hb9.size; try simp at hz9; try have hy9 := Nat.lt_of_succ_le hz9; try have hx9 := Nat.lt_of_succ_lt hy9; try have hw9 := Nat.lt_of_succ_lt hx9))))
  refine hK.out _ _ ?hS (fun hSc => ?_)
  case hS =>
    first
    | exact hSc
    | (rw [HS0.out] at hSc ⊢; obtain ⟨p0, p1, p2, p3, p4, p5, p6⟩ := hSc; exact ⟨(hc9 _ _ (by first | assumption | omega)).trans p0, (hc9 _ _ (by first | assumption | omega)).trans p1, (hc9 _ _ (by first | assumption | omega)).trans p2, (hc9 _ _ (by first | assumption | omega)).trans p3, p4.trans (hb9.mono (by have := p4.size; first | omega | (simp at this ⊢; omega))), by first | exact Nat.lt_of_lt_of_le p5 hb9.size | omega | (simp; done) | (simp; omega), by first | exact Nat.lt_of_lt_of_le p6 hb9.size | omega | (simp; done) | (simp; omega)⟩)
  clear hK K
  refine wpSch_looks (L1 := [_, _]) (L2 := _) rfl ?_
  iterate 2 (go_big_quiet_step (fail))
  refine wpQuiet_nil ?_
  (try dsimp only)
  refine wpSch_nil ?_
  rw [HS0.out] at hSc
  obtain ⟨p0, p1, p2, p3, p4, p5, p6⟩ := hSc
  clear hne0 HS0 k0 k1 k2 k3 k4 k5 k6
  go_wp2
  go_ret
  exact ⟨rfl, p4⟩
end Go.Proofs.YteajnaabbddohaaGreatDoor
namespace Go.Proofs.YteajnaabbddohaaGreatDoor
open Go.RowKit
set_option maxRecDepth 100000

theorem FnBox.newP (w : World) (x y z : Value) (t : TypeId) {w' : World} (hb : Below (w.heap.size + 1) (w.alloc (.cells #[x, y, z] t)) w') : FnBox w' (.pointer (some ⟨w.heap.size, 0, none⟩)) (.agg #[x, y, z]) := FnBox.of3 hb
/-- a phi's arguments have its type. -/
def phiT (F : PFunc) (x : PPhi) : Bool := x.args.all fun v => tyOf F v == tyOf F x.dst
def termT (F : PFunc) (t : PTerm) : Bool :=
  if t.kind = 0 then t.t0 != 0 else if t.kind = 1 then tyOf F t.var == 1 && t.t0 != 0 && t.t1 != 0 else tyOf F t.var == 0
set_option maxHeartbeats 400000 in
theorem kphi_calls {W w : World} {fv pv : Value} {F : PFunc} {x : PPhi} (hF : FnV W W.heap.size fv F) (hp : PhiV W W.heap.size pv x) (hW : Below W.heap.size W w)
    (ha : varsB F x.args = true) (hx : inB x.dst F.vars.length = true) :
    Calls Tryz.prog 105 #[fv, pv] w fun e w' => e = .returned (.bool (phiT F x)) ∧ Below w.heap.size w w' := by
  have hWs := hW.size
  obtain ⟨A0, c0, A1, c1, A2, c2, rfl, -⟩ := id hF.open_
  obtain ⟨A3, c3, A4, c4, rfl, l3, l4, k3, k4, r3, r4⟩ := id hp.open_
  have hpr : PredI2 ((w.alloc (.cells #[.slice A0 F.vars.length c0, .slice A1 F.params.length c1, .slice A2 F.blocks.length c2] 26)).alloc (.cells #[.int .i64 x.dst, .slice A3 x.args.length c3, .slice A4 x.froms.length c4] 111)) 146 (.pointer (some ⟨w.heap.size, 0, none⟩)) (.pointer (some ⟨w.heap.size + 1, 0, none⟩)) x.args (fun v => tyOf F v != tyOf F x.dst) := by
    intro v hv w1 hb1
    have hz := hb1.size
    simp at hz
    refine kphi1_calls hF (hW.trans ?_) (FnBox.of3 (w := w) (t := 26) ?_) ?_ hp (List.all_eq_true.1 ha v hv) hx
    · refine Below.mono (((Below.refl w.heap.size w).alloc (Nat.le_refl _) (.cells #[.slice A0 F.vars.length c0, .slice A1 F.params.length c1, .slice A2 F.blocks.length c2] 26)).alloc (by simp) (.cells #[.int .i64 x.dst, .slice A3 x.args.length c3, .slice A4 x.froms.length c4] 111) |>.trans (hb1.mono (by simp; omega))) hWs
    · refine Below.trans ?_ (hb1.mono (by simp))
      exact (Below.refl _ _).alloc (by simp) _
    · have := FnBox.of3 (w := w.alloc (.cells #[.slice A0 F.vars.length c0, .slice A1 F.params.length c1, .slice A2 F.blocks.length c2] 26)) (t := 111) (hb1.mono (by simp))
      simpa using this
  go_enter Tryz.func105, Tryz.ntmps105
  go_wp2_with (go_at_call 99; refine (containsI2_calls r3 l3 (by (focus repeat (first | assumption | exact Below.refl _ _ | refine Below.drew ?_ | refine Below.alloc ?_ (by first | omega | exact Below.size (by assumption) | (simp; done) | (simp; omega)) _ | refine Below.setCell ?_ (by first | omega | exact Below.size (by assumption) | (simp; done) | (simp; omega)) _ | refine below_setRow ?_ (by first | omega | exact Below.size (by assumption) | (simp; done) | (simp; omega)) _ | (refine Below.trans ?_ (Below.mono (by assumption) ?_); rotate_left; exact (by first | omega | exact Below.size (by assumption) | (simp; done) | (simp; omega)))))) _ _ _ _ eg_kphi1 hpr).mono ?_; rintro e w1 ⟨rfl, hb⟩)
  go_ret
  exact ⟨ret_bool (by unfold phiT; rw [List.all_eq_not_any_not]; simp [bne]), by (focus repeat (first | assumption | exact Below.refl _ _ | refine Below.drew ?_ | refine Below.alloc ?_ (by first | omega | exact Below.size (by assumption) | (simp; done) | (simp; omega)) _ | refine Below.setCell ?_ (by first | omega | exact Below.size (by assumption) | (simp; done) | (simp; omega)) _ | refine below_setRow ?_ (by first | omega | exact Below.size (by assumption) | (simp; done) | (simp; omega)) _ | (refine Below.trans ?_ (Below.mono (by assumption) ?_); rotate_left; exact (by first | omega | exact Below.size (by assumption) | (simp; done) | (simp; omega)))))⟩
set_option maxHeartbeats 400000 in
theorem kterm_calls {W w : World} {fv : Value} {F : PFunc} (t : PTerm) (hF : FnV W W.heap.size fv F) (hW : Below W.heap.size W w) (hv : t.kind ≠ 0 → inB t.var F.vars.length = true) :
    Calls Tryz.prog 107 #[fv, .agg #[.int .i64 t.kind, .int .i64 t.var, .int .i64 t.t0, .int .i64 t.t1]] w fun e w' => e = .returned (.bool (termT F t)) ∧ Below w.heap.size w w' := by
  have hWs := hW.size
  obtain ⟨A0, c0, A1, c1, A2, c2, rfl, -⟩ := id hF.open_
  by_cases h0 : t.kind = 0
  · have HF := Lib.hid (show termT F t = (t.t0 != 0) by rw [termT, if_pos h0])
    by_cases h1 : t.t0 = 0
    all_goals
      go_enter Tryz.func107, Tryz.ntmps107
      go_wp2
      go_ret
      exact ⟨ret_bool (by rw [HF.out] <;> simp [h1]), by (focus repeat (first | assumption | exact Below.refl _ _ | refine Below.drew ?_ | refine Below.alloc ?_ (by first | omega | exact Below.size (by assumption) | (simp; done) | (simp; omega)) _ | refine Below.setCell ?_ (by first | omega | exact Below.size (by assumption) | (simp; done) | (simp; omega)) _ | refine below_setRow ?_ (by first | omega | exact Below.size (by assumption) | (simp; done) | (simp; omega)) _ | (refine Below.trans ?_ (Below.mono (by assumption) ?_); rotate_left; exact (by first | omega | exact Below.size (by assumption) | (simp; done) | (simp; omega)))))⟩
  have hk := fun (w : World) (h : Below W.heap.size W w) => kindIn_calls hF h (hv h0)
  by_cases h1 : t.kind = 1
  · have HF := Lib.hid (show termT F t = (tyOf F t.var == 1 && t.t0 != 0 && t.t1 != 0) by rw [termT, if_neg h0, if_pos h1])
    by_cases h2 : tyOf F t.var = 1
    · by_cases h3 : t.t0 = 0
      all_goals
        go_enter Tryz.func107, Tryz.ntmps107
        go_wp2_with (go_at_call 147; refine (hk _ (by (focus repeat (first | assumption | exact Below.refl _ _ | refine Below.drew ?_ | refine Below.alloc ?_ (by first | omega | exact Below.size (by assumption) | (simp; done) | (simp; omega)) _ | refine Below.setCell ?_ (by first | omega | exact Below.size (by assumption) | (simp; done) | (simp; omega)) _ | refine below_setRow ?_ (by first | omega | exact Below.size (by assumption) | (simp; done) | (simp; omega)) _ | (refine Below.trans ?_ (Below.mono (by assumption) ?_); rotate_left; exact (by first | omega | exact Below.size (by assumption) | (simp; done) | (simp; omega))))))).mono ?_; (rintro e w1 ⟨rfl, hb1⟩; obtain ⟨hc1, hf1⟩ := bcell hb1; have hz1 := hb1.size; try simp at hz1; try have hy1 := Nat.lt_of_succ_le hz1; try have hx1 := Nat.lt_of_succ_lt hy1; try have hw1 := Nat.lt_of_succ_lt hx1))
        go_ret
        exact ⟨ret_bool (by rw [HF.out]; simp [h2, h3]), by (focus repeat (first | assumption | exact Below.refl _ _ | refine Below.drew ?_ | refine Below.alloc ?_ (by first | omega | exact Below.size (by assumption) | (simp; done) | (simp; omega)) _ | refine Below.setCell ?_ (by first | omega | exact Below.size (by assumption) | (simp; done) | (simp; omega)) _ | refine below_setRow ?_ (by first | omega | exact Below.size (by assumption) | (simp; done) | (simp; omega)) _ | (refine Below.trans ?_ (Below.mono (by assumption) ?_); rotate_left; exact (by first | omega | exact Below.size (by assumption) | (simp; done) | (simp; omega)))))⟩
    · go_enter Tryz.func107, Tryz.ntmps107
      go_wp2_with (go_at_call 147; refine (hk _ (by (focus repeat (first | assumption | exact Below.refl _ _ | refine Below.drew ?_ | refine Below.alloc ?_ (by first | omega | exact Below.size (by assumption) | (simp; done) | (simp; omega)) _ | refine Below.setCell ?_ (by first | omega | exact Below.size (by assumption) | (simp; done) | (simp; omega)) _ | refine below_setRow ?_ (by first | omega | exact Below.size (by assumption) | (simp; done) | (simp; omega)) _ | (refine Below.trans ?_ (Below.mono (by assumption) ?_); rotate_left; exact (by first | omega | exact Below.size (by assumption) | (simp; done) | (simp; omega))))))).mono ?_; (rintro e w1 ⟨rfl, hb1⟩; obtain ⟨hc1, hf1⟩ := bcell hb1; have hz1 := hb1.size; try simp at hz1; try have hy1 := Nat.lt_of_succ_le hz1; try have hx1 := Nat.lt_of_succ_lt hy1; try have hw1 := Nat.lt_of_succ_lt hx1))
      go_ret
      exact ⟨ret_bool (by rw [HF.out]; simp [h2]), by (focus repeat (first | assumption | exact Below.refl _ _ | refine Below.drew ?_ | refine Below.alloc ?_ (by first | omega | exact Below.size (by assumption) | (simp; done) | (simp; omega)) _ | refine Below.setCell ?_ (by first | omega | exact Below.size (by assumption) | (simp; done) | (simp; omega)) _ | refine below_setRow ?_ (by first | omega | exact Below.size (by assumption) | (simp; done) | (simp; omega)) _ | (refine Below.trans ?_ (Below.mono (by assumption) ?_); rotate_left; exact (by first | omega | exact Below.size (by assumption) | (simp; done) | (simp; omega)))))⟩
  · have HF := Lib.hid (show termT F t = (tyOf F t.var == 0) by rw [termT, if_neg h0, if_neg h1])
    go_enter Tryz.func107, Tryz.ntmps107
    go_wp2_with (go_at_call 147; refine (hk _ (by (focus repeat (first | assumption | exact Below.refl _ _ | refine Below.drew ?_ | refine Below.alloc ?_ (by first | omega | exact Below.size (by assumption) | (simp; done) | (simp; omega)) _ | refine Below.setCell ?_ (by first | omega | exact Below.size (by assumption) | (simp; done) | (simp; omega)) _ | refine below_setRow ?_ (by first | omega | exact Below.size (by assumption) | (simp; done) | (simp; omega)) _ | (refine Below.trans ?_ (Below.mono (by assumption) ?_); rotate_left; exact (by first | omega | exact Below.size (by assumption) | (simp; done) | (simp; omega))))))).mono ?_; (rintro e w1 ⟨rfl, hb1⟩; obtain ⟨hc1, hf1⟩ := bcell hb1; have hz1 := hb1.size; try simp at hz1; try have hy1 := Nat.lt_of_succ_le hz1; try have hx1 := Nat.lt_of_succ_lt hy1; try have hw1 := Nat.lt_of_succ_lt hx1))
    go_ret
    exact ⟨ret_bool HF.out.symm, by (focus repeat (first | assumption | exact Below.refl _ _ | refine Below.drew ?_ | refine Below.alloc ?_ (by first | omega | exact Below.size (by assumption) | (simp; done) | (simp; omega)) _ | refine Below.setCell ?_ (by first | omega | exact Below.size (by assumption) | (simp; done) | (simp; omega)) _ | refine below_setRow ?_ (by first | omega | exact Below.size (by assumption) | (simp; done) | (simp; omega)) _ | (refine Below.trans ?_ (Below.mono (by assumption) ?_); rotate_left; exact (by first | omega | exact Below.size (by assumption) | (simp; done) | (simp; omega)))))⟩
/-- an instruction is typed. -/
def takesT (F : PFunc) : List Int → List Int → Bool
  | a :: l, t :: m => tyOf F a == t && takesT F l m
  | _, _ => true
def instT (F : PFunc) (x : PInst) : Bool :=
  if x.op = 1 then tyOf F x.dst == tyOf F (ith x.args 0) else takesT F x.args (takesOf x.op) && (!makesB x.op || tyOf F x.dst == makesT x.op)
theorem takesT_drop {F : PFunc} {l m : List Int} {n : Nat} (ha : n < l.length) (ht : n < m.length) : takesT F (l.drop n) (m.drop n) = (tyOf F (ith l n) == ith m n && takesT F (l.drop (n + 1)) (m.drop (n + 1))) := by
  rw [drop_ith ha, drop_ith ht]; rfl
theorem takesT_end {F : PFunc} {l m : List Int} {n : Nat} (ht : m.length ≤ n) : takesT F (l.drop n) (m.drop n) = true := by
  rw [List.drop_eq_nil_of_le ht]
  cases l.drop n <;> rfl
set_option maxHeartbeats 1000000 in
theorem kinst_calls {W w : World} {fv xv : Value} {F : PFunc} {x : PInst} (hF : FnV W W.heap.size fv F) (hx : InstV W W.heap.size xv x) (hW : Below W.heap.size W w)
    (hv : varsB F x.args = true) (hl : x.args.length = (takesOf x.op).length) (hd : makesB x.op = true → inB x.dst F.vars.length = true) :
    Calls Tryz.prog 106 #[fv, xv] w fun e w' => e = .returned (.bool (instT F x)) ∧ Below w.heap.size w w' := by
  have hWs := hW.size
  obtain ⟨A0, c0, A1, c1, A2, c2, rfl, -⟩ := id hF.open_
  obtain ⟨A3, c3, rfl, l3, k3, r3⟩ := id hx.open_
  unfold Len at *
  have hany := fun w => any_calls (w := w) x.op
  by_cases h0 : x.op = 1
  · have HF := Lib.hid (show instT F x = (tyOf F x.dst == tyOf F (ith x.args 0)) by rw [instT, if_pos h0])
    have hlt : 0 < x.args.length := by rw [hl, h0]; decide +kernel
    have h1 := fun (w : World) (h : Below W.heap.size W w) => kindIn_calls hF h (hd (by rw [h0]; decide +kernel))
    have h2 := fun (w : World) (h : Below W.heap.size W w) => kindIn_calls hF h (List.all_eq_true.1 hv _ (mem_of_ith hlt))
    obtain ⟨b, off, rfl, hbs, hc⟩ := r3.int hW hlt
    rw [show decide (x.op = 1) = true by simp [h0]] at hany
    rw [Nat.add_zero] at hc
    clear h0 hl hd
    go_enter Tryz.func106, Tryz.ntmps106
    go_wp2_with (go_at_call 148; refine (hany _).mono ?_; rintro e w1 ⟨rfl, rfl⟩)
    obtain ⟨S0, hS0⟩ : ∃ S0 : World → Prop, S0 = fun w' => w'.cell? ⟨w.heap.size, 0, none⟩ = some (.slice A0 F.vars.length c0) ∧ w'.cell? ⟨w.heap.size, 1, none⟩ = some (.slice A1 F.params.length c1) ∧ w'.cell? ⟨w.heap.size, 2, none⟩ = some (.slice A2 F.blocks.length c2) ∧ w'.cell? ⟨w.heap.size + 1, 1, none⟩ = some (.int .i64 x.dst) ∧ w'.cell? ⟨w.heap.size + 1, 2, none⟩ = some (.slice (some ⟨b, off, none⟩) x.args.length c3) ∧ w'.cell? ⟨b, off, none⟩ = some (.int .i64 (ith x.args 0)) ∧ Below w.heap.size w w' ∧ w.heap.size + 1 < w'.heap.size ∧ b < w'.heap.size := ⟨_, rfl⟩
    have HS0 := Lib.hid hS0
    clear hS0
    have k0 : ∀ xw : WS S0, xw.w.cell? ⟨w.heap.size, 0, none⟩ = some (.slice A0 F.vars.length c0) := fun xw => by have hp := cast (congrFun HS0.out xw.w) xw.h; exact hp.1
    have k1 : ∀ xw : WS S0, xw.w.cell? ⟨w.heap.size, 1, none⟩ = some (.slice A1 F.params.length c1) := fun xw => by have hp := cast (congrFun HS0.out xw.w) xw.h; exact hp.2.1
    have k2 : ∀ xw : WS S0, xw.w.cell? ⟨w.heap.size, 2, none⟩ = some (.slice A2 F.blocks.length c2) := fun xw => by have hp := cast (congrFun HS0.out xw.w) xw.h; exact hp.2.2.1
    have k3 : ∀ xw : WS S0, xw.w.cell? ⟨w.heap.size + 1, 1, none⟩ = some (.int .i64 x.dst) := fun xw => by have hp := cast (congrFun HS0.out xw.w) xw.h; exact hp.2.2.2.1
    have k4 : ∀ xw : WS S0, xw.w.cell? ⟨w.heap.size + 1, 2, none⟩ = some (.slice (some ⟨b, off, none⟩) x.args.length c3) := fun xw => by have hp := cast (congrFun HS0.out xw.w) xw.h; exact hp.2.2.2.2.1
    have k5 : ∀ xw : WS S0, xw.w.cell? ⟨b, off, none⟩ = some (.int .i64 (ith x.args 0)) := fun xw => by have hp := cast (congrFun HS0.out xw.w) xw.h; exact hp.2.2.2.2.2.1
    have k6 : ∀ xw : WS S0, Below w.heap.size w xw.w := fun xw => by have hp := cast (congrFun HS0.out xw.w) xw.h; exact hp.2.2.2.2.2.2.1
    have k7 : ∀ xw : WS S0, w.heap.size + 1 < xw.w.heap.size := fun xw => by have hp := cast (congrFun HS0.out xw.w) xw.h; exact hp.2.2.2.2.2.2.2.1
    have k8 : ∀ xw : WS S0, b < xw.w.heap.size := fun xw => by have hp := cast (congrFun HS0.out xw.w) xw.h; exact hp.2.2.2.2.2.2.2.2
    refine wp_region_sched (S := S0) [0, 1, 2, 4, 5, 6, 7, 8, 3, 9, 10, 11] (by kernel_rfl) (by kernel_rfl) (fun _ _ _ _ _ h => h) ?hS (fun hSc => ?_)
    case hS =>
      rw [HS0.out]
      refine ⟨?_, ?_, ?_, ?_, ?_, ?_, ?_, ?_, ?_⟩
      · first | assumption | (go_keep; done) | (go_simp; done)
      · first | assumption | (go_keep; done) | (go_simp; done)
      · first | assumption | (go_keep; done) | (go_simp; done)
      · first | assumption | (go_keep; done) | (go_simp; done)
      · first | assumption | (go_keep; done) | (go_simp; done)
      · first | assumption | (go_keep; done) | (go_simp; done)
      · (focus repeat (first | assumption | exact Below.refl _ _ | refine Below.drew ?_ | refine Below.alloc ?_ (by first | omega | exact Below.size (by assumption) | (simp; done) | (simp; omega)) _ | refine Below.setCell ?_ (by first | omega | exact Below.size (by assumption) | (simp; done) | (simp; omega)) _ | refine below_setRow ?_ (by first | omega | exact Below.size (by assumption) | (simp; done) | (simp; omega)) _ | (refine Below.trans ?_ (Below.mono (by assumption) ?_); rotate_left; exact (by first | omega | exact Below.size (by assumption) | (simp; done) | (simp; omega)))))
      · first | omega | (rw [heap_drew]; omega) | (simp; done) | (simp; omega)
      · first | omega | (rw [heap_drew]; omega) | (simp; done) | (simp; omega)
    have hne0 : Nonempty (WS S0) := ⟨⟨_, hSc⟩⟩
    simp only [List.map_cons, List.map_nil, List.getD_cons_succ, List.getD_cons_zero]
    refine wpSch_looks (L1 := [_, _, _, _, _, _, _, _]) (L2 := _) rfl ?_
    iterate 8 (go_big_quiet_step (fail))
    refine wpQuiet_nil ?_
    (try dsimp only)
    refine wpSch_act rfl rfl (fun K hK => ?_)
    go_simp
    go_wp2_with (first | (go_at_call 147; first | (with_reducible refine (h1 _ (hW.trans ((k6 ⟨_, hSc⟩).mono hWs))).mono ?_; (rintro e w9 ⟨rfl, hb9⟩; obtain ⟨hc9, hf9⟩ := bcell hb9; have hz9 := hb9.size; try simp at hz9; try have hy9 := Nat.lt_of_succ_le hz9; try have hx9 := Nat.lt_of_succ_lt hy9; try have hw9 := Nat.lt_of_succ_lt hx9)) | (with_reducible refine (h2 _ (hW.trans ((k6 ⟨_, hSc⟩).mono hWs))).mono ?_; (rintro e w9 ⟨rfl, hb9⟩; obtain ⟨hc9, hf9⟩ := bcell hb9; have hz9 := hb9.size; try simp at hz9; try have hy9 := Nat.lt_of_succ_le hz9; try have hx9 := Nat.lt_of_succ_lt hy9; try have hw9 := Nat.lt_of_succ_lt hx9))))
    refine hK.out _ _ ?hS (fun hSc => ?_)
    case hS =>
      first
      | exact hSc
      | (rw [HS0.out] at hSc ⊢; obtain ⟨p0, p1, p2, p3, p4, p5, p6, p7, p8⟩ := hSc; exact ⟨(hc9 _ _ (by first | assumption | omega)).trans p0, (hc9 _ _ (by first | assumption | omega)).trans p1, (hc9 _ _ (by first | assumption | omega)).trans p2, (hc9 _ _ (by first | assumption | omega)).trans p3, (hc9 _ _ (by first | assumption | omega)).trans p4, (hc9 _ _ (by first | assumption | omega)).trans p5, p6.trans (hb9.mono (by have := p6.size; first | omega | (simp at this ⊢; omega))), by first | exact Nat.lt_of_lt_of_le p7 hb9.size | omega | (simp; done) | (simp; omega), by first | exact Nat.lt_of_lt_of_le p8 hb9.size | omega | (simp; done) | (simp; omega)⟩)
    clear hK K
    refine wpSch_act rfl rfl (fun K hK => ?_)
    go_simp
    go_wp2_with (first | (go_at_call 147; first | (with_reducible refine (h1 _ (hW.trans ((k6 ⟨_, hSc⟩).mono hWs))).mono ?_; (rintro e w9 ⟨rfl, hb9⟩; obtain ⟨hc9, hf9⟩ := bcell hb9; have hz9 := hb9.size; try simp at hz9; try have hy9 := Nat.lt_of_succ_le hz9; try have hx9 := Nat.lt_of_succ_lt hy9; try have hw9 := Nat.lt_of_succ_lt hx9)) | (with_reducible refine (h2 _ (hW.trans ((k6 ⟨_, hSc⟩).mono hWs))).mono ?_; (rintro e w9 ⟨rfl, hb9⟩; obtain ⟨hc9, hf9⟩ := bcell hb9; have hz9 := hb9.size; try simp at hz9; try have hy9 := Nat.lt_of_succ_le hz9; try have hx9 := Nat.lt_of_succ_lt hy9; try have hw9 := Nat.lt_of_succ_lt hx9))))
    refine hK.out _ _ ?hS (fun hSc => ?_)
    case hS =>
      first
      | exact hSc
      | (rw [HS0.out] at hSc ⊢; obtain ⟨p0, p1, p2, p3, p4, p5, p6, p7, p8⟩ := hSc; exact ⟨(hc9 _ _ (by first | assumption | omega)).trans p0, (hc9 _ _ (by first | assumption | omega)).trans p1, (hc9 _ _ (by first | assumption | omega)).trans p2, (hc9 _ _ (by first | assumption | omega)).trans p3, (hc9 _ _ (by first | assumption | omega)).trans p4, (hc9 _ _ (by first | assumption | omega)).trans p5, p6.trans (hb9.mono (by have := p6.size; first | omega | (simp at this ⊢; omega))), by first | exact Nat.lt_of_lt_of_le p7 hb9.size | omega | (simp; done) | (simp; omega), by first | exact Nat.lt_of_lt_of_le p8 hb9.size | omega | (simp; done) | (simp; omega)⟩)
    clear hK K
    refine wpSch_looks (L1 := [_, _]) (L2 := _) rfl ?_
    iterate 2 (go_big_quiet_step (fail))
    refine wpQuiet_nil ?_
    (try dsimp only)
    refine wpSch_nil ?_
    rw [HS0.out] at hSc
    obtain ⟨p0, p1, p2, p3, p4, p5, p6, p7, p8⟩ := hSc
    clear hne0 HS0 k0 k1 k2 k3 k4 k5 k6 k7 k8
    go_wp2
    go_ret
    exact ⟨ret_bool HF.out.symm, p6⟩
  have HF := Lib.hid (show instT F x = (takesT F (x.args.drop 0) ((takesOf x.op).drop 0) && (!makesB x.op || tyOf F x.dst == makesT x.op)) by rw [instT, if_neg h0]; rfl)
  rw [show decide (x.op = 1) = false by simp [h0]] at hany
  have htk := fun w => takes_calls (w := w) x.op
  have hmk := fun w => makes_calls (w := w) x.op
  have HL := Lib.hid hl
  clear h0 hl
  go_enter Tryz.func106, Tryz.ntmps106
  go_wp2_with (first | (go_at_call 148; refine (hany _).mono ?_; rintro e w1 ⟨rfl, rfl⟩) | (go_at_call 149; refine (htk _).mono ?_; (rintro e w5 ⟨A5, c5, rfl, l5, k5, r5, hb5⟩; obtain ⟨hc5, hf5⟩ := bcell hb5; have hz5 := hb5.size; try simp at hz5; try have hy5 := Nat.lt_of_succ_le hz5; try have hx5 := Nat.lt_of_succ_lt hy5; try have hw5 := Nat.lt_of_succ_lt hx5)))
  have hW5 : Below w.heap.size w w5 := by (focus repeat (first | assumption | exact Below.refl _ _ | refine Below.drew ?_ | refine Below.alloc ?_ (by first | omega | exact Below.size (by assumption) | (simp; done) | (simp; omega)) _ | refine Below.setCell ?_ (by first | omega | exact Below.size (by assumption) | (simp; done) | (simp; omega)) _ | refine below_setRow ?_ (by first | omega | exact Below.size (by assumption) | (simp; done) | (simp; omega)) _ | (refine Below.trans ?_ (Below.mono (by assumption) ?_); rotate_left; exact (by first | omega | exact Below.size (by assumption) | (simp; done) | (simp; omega)))))
  have hq5 : w.heap.size + 1 < w5.heap.size := by omega
  go_loopw [5, 6, 27] (fun _ _ i wr => ∃ n : Nat, i = .int .i64 n ∧ n ≤ (takesOf x.op).length ∧ Below w5.heap.size w5 wr ∧ Hid (instT F x = (takesT F (x.args.drop n) ((takesOf x.op).drop n) && (!makesB x.op || tyOf F x.dst == makesT x.op)))) (fun _ _ i _ => (takesOf x.op).length - (intOf i).toNat)
  case atStart => exact ⟨0, rfl, Nat.zero_le _, Below.refl _ _, HF⟩
  case round =>
    obtain ⟨n, rfl, hn, hb, hf⟩ := hrel
    obtain ⟨hcr, hfr⟩ := bcell hb
    have hqr := Nat.lt_of_lt_of_le hq5 hb.size
    have hqr1 := Nat.lt_of_succ_lt hqr
    have hq51 := Nat.lt_of_succ_lt hq5
    have hB := hW5.trans (hb.mono hW5.size)
    have hWr := hW.trans (hB.mono hWs)
    by_cases hlt : n < (takesOf x.op).length
    · have hlt2 : n < x.args.length := by rw [HL.out]; exact hlt
      obtain ⟨b, off, rfl, hbs, hc⟩ := r3.int hWr hlt2
      obtain ⟨b2, off2, rfl, hbs2, hc2⟩ := r5.int hb hlt
      have h1 := fun (w : World) (h : Below W.heap.size W w) => kindIn_calls hF h (List.all_eq_true.1 hv _ (mem_of_ith hlt2))
      have hd2 := Lib.hid (takesT_drop (F := F) (l := x.args) (m := takesOf x.op) (n := n) hlt2 hlt)
      by_cases hx : tyOf F (ith x.args n) = ith (takesOf x.op) n
      · have HF2 := Lib.hid (show instT F x = (takesT F (x.args.drop (n + 1)) ((takesOf x.op).drop (n + 1)) && (!makesB x.op || tyOf F x.dst == makesT x.op)) by rw [hf.out, hd2.out, hx]; simp)
        have hx' : (tyOf F (ith x.args n) != ith (takesOf x.op) n) = false := by simpa using hx
        clear hx
        go_wp2_with fail
        obtain ⟨S0, hS0⟩ : ∃ S0 : World → Prop, S0 = fun w' => w'.cell? ⟨w.heap.size, 0, none⟩ = some (.slice A0 F.vars.length c0) ∧ w'.cell? ⟨w.heap.size, 1, none⟩ = some (.slice A1 F.params.length c1) ∧ w'.cell? ⟨w.heap.size, 2, none⟩ = some (.slice A2 F.blocks.length c2) ∧ w'.cell? ⟨w.heap.size + 1, 0, none⟩ = some (.int .i64 x.op) ∧ w'.cell? ⟨w.heap.size + 1, 2, none⟩ = some (.slice (some ⟨b, off, none⟩) x.args.length c3) ∧ w'.cell? ⟨b, off + n, none⟩ = some (.int .i64 (ith x.args n)) ∧ Below wr.heap.size wr w' ∧ w.heap.size + 1 < w'.heap.size ∧ b < w'.heap.size := ⟨_, rfl⟩
        have HS0 := Lib.hid hS0
        clear hS0
        have k0 : ∀ xw : WS S0, xw.w.cell? ⟨w.heap.size, 0, none⟩ = some (.slice A0 F.vars.length c0) := fun xw => by have hp := cast (congrFun HS0.out xw.w) xw.h; exact hp.1
        have k1 : ∀ xw : WS S0, xw.w.cell? ⟨w.heap.size, 1, none⟩ = some (.slice A1 F.params.length c1) := fun xw => by have hp := cast (congrFun HS0.out xw.w) xw.h; exact hp.2.1
        have k2 : ∀ xw : WS S0, xw.w.cell? ⟨w.heap.size, 2, none⟩ = some (.slice A2 F.blocks.length c2) := fun xw => by have hp := cast (congrFun HS0.out xw.w) xw.h; exact hp.2.2.1
        have k3 : ∀ xw : WS S0, xw.w.cell? ⟨w.heap.size + 1, 0, none⟩ = some (.int .i64 x.op) := fun xw => by have hp := cast (congrFun HS0.out xw.w) xw.h; exact hp.2.2.2.1
        have k4 : ∀ xw : WS S0, xw.w.cell? ⟨w.heap.size + 1, 2, none⟩ = some (.slice (some ⟨b, off, none⟩) x.args.length c3) := fun xw => by have hp := cast (congrFun HS0.out xw.w) xw.h; exact hp.2.2.2.2.1
        have k5 : ∀ xw : WS S0, xw.w.cell? ⟨b, off + n, none⟩ = some (.int .i64 (ith x.args n)) := fun xw => by have hp := cast (congrFun HS0.out xw.w) xw.h; exact hp.2.2.2.2.2.1
        have k6 : ∀ xw : WS S0, Below wr.heap.size wr xw.w := fun xw => by have hp := cast (congrFun HS0.out xw.w) xw.h; exact hp.2.2.2.2.2.2.1
        have k7 : ∀ xw : WS S0, w.heap.size + 1 < xw.w.heap.size := fun xw => by have hp := cast (congrFun HS0.out xw.w) xw.h; exact hp.2.2.2.2.2.2.2.1
        have k8 : ∀ xw : WS S0, b < xw.w.heap.size := fun xw => by have hp := cast (congrFun HS0.out xw.w) xw.h; exact hp.2.2.2.2.2.2.2.2
        refine wp_region_sched (S := S0) [0, 1, 2, 3, 4, 5, 7, 6, 8] (by kernel_rfl) (by kernel_rfl) (fun _ _ _ _ _ h => h) ?hS (fun hSc => ?_)
        case hS =>
          rw [HS0.out]
          refine ⟨?_, ?_, ?_, ?_, ?_, ?_, ?_, ?_, ?_⟩
          · first | assumption | (go_keep; done) | (go_simp; done)
          · first | assumption | (go_keep; done) | (go_simp; done)
          · first | assumption | (go_keep; done) | (go_simp; done)
          · first | assumption | (go_keep; done) | (go_simp; done)
          · first | assumption | (go_keep; done) | (go_simp; done)
          · first | assumption | (go_keep; done) | (go_simp; done)
          · (focus repeat (first | assumption | exact Below.refl _ _ | refine Below.drew ?_ | refine Below.alloc ?_ (by first | omega | exact Below.size (by assumption) | (simp; done) | (simp; omega)) _ | refine Below.setCell ?_ (by first | omega | exact Below.size (by assumption) | (simp; done) | (simp; omega)) _ | refine below_setRow ?_ (by first | omega | exact Below.size (by assumption) | (simp; done) | (simp; omega)) _ | (refine Below.trans ?_ (Below.mono (by assumption) ?_); rotate_left; exact (by first | omega | exact Below.size (by assumption) | (simp; done) | (simp; omega)))))
          · first | omega | (rw [heap_drew]; omega) | (simp; done) | (simp; omega)
          · first | omega | (rw [heap_drew]; omega) | (simp; done) | (simp; omega)
        have hne0 : Nonempty (WS S0) := ⟨⟨_, hSc⟩⟩
        simp only [List.map_cons, List.map_nil, List.getD_cons_succ, List.getD_cons_zero]
        refine wpSch_looks (L1 := [_, _, _, _, _, _, _]) (L2 := _) rfl ?_
        iterate 7 (go_big_quiet_step (fail))
        refine wpQuiet_nil ?_
        (try dsimp only)
        refine wpSch_act rfl rfl (fun K hK => ?_)
        go_simp
        go_wp2_with (first | (go_at_call 147; refine (h1 _ (hWr.trans ((k6 ⟨_, hSc⟩).mono hWr.size))).mono ?_; (rintro e w9 ⟨rfl, hb9⟩; obtain ⟨hc9, hf9⟩ := bcell hb9; have hz9 := hb9.size; try simp at hz9; try have hy9 := Nat.lt_of_succ_le hz9; try have hx9 := Nat.lt_of_succ_lt hy9; try have hw9 := Nat.lt_of_succ_lt hx9)))
        refine hK.out _ _ ?hS (fun hSc => ?_)
        case hS =>
          first
          | exact hSc
          | (rw [HS0.out] at hSc ⊢; obtain ⟨p0, p1, p2, p3, p4, p5, p6, p7, p8⟩ := hSc; exact ⟨(hc9 _ _ (by first | assumption | omega)).trans p0, (hc9 _ _ (by first | assumption | omega)).trans p1, (hc9 _ _ (by first | assumption | omega)).trans p2, (hc9 _ _ (by first | assumption | omega)).trans p3, (hc9 _ _ (by first | assumption | omega)).trans p4, (hc9 _ _ (by first | assumption | omega)).trans p5, p6.trans (hb9.mono (by have := p6.size; first | omega | (simp at this ⊢; omega))), by first | exact Nat.lt_of_lt_of_le p7 hb9.size | omega | (simp; done) | (simp; omega), by first | exact Nat.lt_of_lt_of_le p8 hb9.size | omega | (simp; done) | (simp; omega)⟩)
        clear hK K
        refine wpSch_looks (L1 := [_]) (L2 := _) rfl ?_
        iterate 1 (go_big_quiet_step (fail))
        refine wpQuiet_nil ?_
        (try dsimp only)
        refine wpSch_nil ?_
        rw [HS0.out] at hSc
        obtain ⟨p0, p1, p2, p3, p4, p5, p6, p7, p8⟩ := hSc
        clear hne0 HS0 k0 k1 k2 k3 k4 k5 k6 k7 k8
        go_wp2
        go_roundw
        case rel => exact ⟨n + 1, by go_num, by omega, hb.trans (p6.mono hb.size), HF2⟩
        case measure => simp [intOf]; omega
      · have HF2 := Lib.hid (show instT F x = false by rw [hf.out, hd2.out, beq_eq_false_iff_ne.2 hx]; rfl)
        have hx' : (tyOf F (ith x.args n) != ith (takesOf x.op) n) = true := by simpa using hx
        clear hx
        go_wp2_with fail
        obtain ⟨S0, hS0⟩ : ∃ S0 : World → Prop, S0 = fun w' => w'.cell? ⟨w.heap.size, 0, none⟩ = some (.slice A0 F.vars.length c0) ∧ w'.cell? ⟨w.heap.size, 1, none⟩ = some (.slice A1 F.params.length c1) ∧ w'.cell? ⟨w.heap.size, 2, none⟩ = some (.slice A2 F.blocks.length c2) ∧ w'.cell? ⟨w.heap.size + 1, 0, none⟩ = some (.int .i64 x.op) ∧ w'.cell? ⟨w.heap.size + 1, 2, none⟩ = some (.slice (some ⟨b, off, none⟩) x.args.length c3) ∧ w'.cell? ⟨b, off + n, none⟩ = some (.int .i64 (ith x.args n)) ∧ Below wr.heap.size wr w' ∧ w.heap.size + 1 < w'.heap.size ∧ b < w'.heap.size := ⟨_, rfl⟩
        have HS0 := Lib.hid hS0
        clear hS0
        have k0 : ∀ xw : WS S0, xw.w.cell? ⟨w.heap.size, 0, none⟩ = some (.slice A0 F.vars.length c0) := fun xw => by have hp := cast (congrFun HS0.out xw.w) xw.h; exact hp.1
        have k1 : ∀ xw : WS S0, xw.w.cell? ⟨w.heap.size, 1, none⟩ = some (.slice A1 F.params.length c1) := fun xw => by have hp := cast (congrFun HS0.out xw.w) xw.h; exact hp.2.1
        have k2 : ∀ xw : WS S0, xw.w.cell? ⟨w.heap.size, 2, none⟩ = some (.slice A2 F.blocks.length c2) := fun xw => by have hp := cast (congrFun HS0.out xw.w) xw.h; exact hp.2.2.1
        have k3 : ∀ xw : WS S0, xw.w.cell? ⟨w.heap.size + 1, 0, none⟩ = some (.int .i64 x.op) := fun xw => by have hp := cast (congrFun HS0.out xw.w) xw.h; exact hp.2.2.2.1
        have k4 : ∀ xw : WS S0, xw.w.cell? ⟨w.heap.size + 1, 2, none⟩ = some (.slice (some ⟨b, off, none⟩) x.args.length c3) := fun xw => by have hp := cast (congrFun HS0.out xw.w) xw.h; exact hp.2.2.2.2.1
        have k5 : ∀ xw : WS S0, xw.w.cell? ⟨b, off + n, none⟩ = some (.int .i64 (ith x.args n)) := fun xw => by have hp := cast (congrFun HS0.out xw.w) xw.h; exact hp.2.2.2.2.2.1
        have k6 : ∀ xw : WS S0, Below wr.heap.size wr xw.w := fun xw => by have hp := cast (congrFun HS0.out xw.w) xw.h; exact hp.2.2.2.2.2.2.1
        have k7 : ∀ xw : WS S0, w.heap.size + 1 < xw.w.heap.size := fun xw => by have hp := cast (congrFun HS0.out xw.w) xw.h; exact hp.2.2.2.2.2.2.2.1
        have k8 : ∀ xw : WS S0, b < xw.w.heap.size := fun xw => by have hp := cast (congrFun HS0.out xw.w) xw.h; exact hp.2.2.2.2.2.2.2.2
        refine wp_region_sched (S := S0) [0, 1, 2, 3, 4, 5, 7, 6, 8] (by kernel_rfl) (by kernel_rfl) (fun _ _ _ _ _ h => h) ?hS (fun hSc => ?_)
        case hS =>
          rw [HS0.out]
          refine ⟨?_, ?_, ?_, ?_, ?_, ?_, ?_, ?_, ?_⟩
          · first | assumption | (go_keep; done) | (go_simp; done)
          · first | assumption | (go_keep; done) | (go_simp; done)
          · first | assumption | (go_keep; done) | (go_simp; done)
          · first | assumption | (go_keep; done) | (go_simp; done)
          · first | assumption | (go_keep; done) | (go_simp; done)
          · first | assumption | (go_keep; done) | (go_simp; done)
          · (focus repeat (first | assumption | exact Below.refl _ _ | refine Below.drew ?_ | refine Below.alloc ?_ (by first | omega | exact Below.size (by assumption) | (simp; done) | (simp; omega)) _ | refine Below.setCell ?_ (by first | omega | exact Below.size (by assumption) | (simp; done) | (simp; omega)) _ | refine below_setRow ?_ (by first | omega | exact Below.size (by assumption) | (simp; done) | (simp; omega)) _ | (refine Below.trans ?_ (Below.mono (by assumption) ?_); rotate_left; exact (by first | omega | exact Below.size (by assumption) | (simp; done) | (simp; omega)))))
          · first | omega | (rw [heap_drew]; omega) | (simp; done) | (simp; omega)
          · first | omega | (rw [heap_drew]; omega) | (simp; done) | (simp; omega)
        have hne0 : Nonempty (WS S0) := ⟨⟨_, hSc⟩⟩
        simp only [List.map_cons, List.map_nil, List.getD_cons_succ, List.getD_cons_zero]
        refine wpSch_looks (L1 := [_, _, _, _, _, _, _]) (L2 := _) rfl ?_
        iterate 7 (go_big_quiet_step (fail))
        refine wpQuiet_nil ?_
        (try dsimp only)
        refine wpSch_act rfl rfl (fun K hK => ?_)
        go_simp
        go_wp2_with (first | (go_at_call 147; refine (h1 _ (hWr.trans ((k6 ⟨_, hSc⟩).mono hWr.size))).mono ?_; (rintro e w9 ⟨rfl, hb9⟩; obtain ⟨hc9, hf9⟩ := bcell hb9; have hz9 := hb9.size; try simp at hz9; try have hy9 := Nat.lt_of_succ_le hz9; try have hx9 := Nat.lt_of_succ_lt hy9; try have hw9 := Nat.lt_of_succ_lt hx9)))
        refine hK.out _ _ ?hS (fun hSc => ?_)
        case hS =>
          first
          | exact hSc
          | (rw [HS0.out] at hSc ⊢; obtain ⟨p0, p1, p2, p3, p4, p5, p6, p7, p8⟩ := hSc; exact ⟨(hc9 _ _ (by first | assumption | omega)).trans p0, (hc9 _ _ (by first | assumption | omega)).trans p1, (hc9 _ _ (by first | assumption | omega)).trans p2, (hc9 _ _ (by first | assumption | omega)).trans p3, (hc9 _ _ (by first | assumption | omega)).trans p4, (hc9 _ _ (by first | assumption | omega)).trans p5, p6.trans (hb9.mono (by have := p6.size; first | omega | (simp at this ⊢; omega))), by first | exact Nat.lt_of_lt_of_le p7 hb9.size | omega | (simp; done) | (simp; omega), by first | exact Nat.lt_of_lt_of_le p8 hb9.size | omega | (simp; done) | (simp; omega)⟩)
        clear hK K
        refine wpSch_looks (L1 := [_]) (L2 := _) rfl ?_
        iterate 1 (go_big_quiet_step (fail))
        refine wpQuiet_nil ?_
        (try dsimp only)
        refine wpSch_nil ?_
        rw [HS0.out] at hSc
        obtain ⟨p0, p1, p2, p3, p4, p5, p6, p7, p8⟩ := hSc
        clear hne0 HS0 k0 k1 k2 k3 k4 k5 k6 k7 k8
        go_wp2
        go_ret
        exact ⟨ret_bool HF2.out.symm, hB.trans (p6.mono (by omega))⟩
    · have HE := Lib.hid (show instT F x = (!makesB x.op || tyOf F x.dst == makesT x.op) by rw [hf.out, takesT_end (by omega), Bool.true_and])
      clear hf hn
      cases hm : makesB x.op
      · rw [hm] at HE hmk
        clear hm
        go_wp2_with (go_at_call 150; refine (hmk _).mono ?_; (rintro e w1 ⟨rfl, hb1⟩; obtain ⟨hc1, hf1⟩ := bcell hb1; have hz1 := hb1.size; try simp at hz1; try have hy1 := Nat.lt_of_succ_le hz1; try have hx1 := Nat.lt_of_succ_lt hy1; try have hw1 := Nat.lt_of_succ_lt hx1))
        go_ret
        exact ⟨ret_bool HE.out.symm, by (focus repeat (first | assumption | exact Below.refl _ _ | refine Below.drew ?_ | refine Below.alloc ?_ (by first | omega | exact Below.size (by assumption) | (simp; done) | (simp; omega)) _ | refine Below.setCell ?_ (by first | omega | exact Below.size (by assumption) | (simp; done) | (simp; omega)) _ | refine below_setRow ?_ (by first | omega | exact Below.size (by assumption) | (simp; done) | (simp; omega)) _ | (refine Below.trans ?_ (Below.mono (by assumption) ?_); rotate_left; exact (by first | omega | exact Below.size (by assumption) | (simp; done) | (simp; omega)))))⟩
      · have h1 := fun (w : World) (h : Below W.heap.size W w) => kindIn_calls hF h (hd hm)
        rw [hm] at HE hmk
        clear hm
        go_wp2_with (first | (go_at_call 150; refine (hmk _).mono ?_; (rintro e w1 ⟨rfl, hb1⟩; obtain ⟨hc1, hf1⟩ := bcell hb1; have hz1 := hb1.size; try simp at hz1; try have hy1 := Nat.lt_of_succ_le hz1; try have hx1 := Nat.lt_of_succ_lt hy1; try have hw1 := Nat.lt_of_succ_lt hx1)) | (go_at_call 147; refine (h1 _ (by (focus repeat (first | assumption | exact Below.refl _ _ | refine Below.drew ?_ | refine Below.alloc ?_ (by first | omega | exact Below.size (by assumption) | (simp; done) | (simp; omega)) _ | refine Below.setCell ?_ (by first | omega | exact Below.size (by assumption) | (simp; done) | (simp; omega)) _ | refine below_setRow ?_ (by first | omega | exact Below.size (by assumption) | (simp; done) | (simp; omega)) _ | (refine Below.trans ?_ (Below.mono (by assumption) ?_); rotate_left; exact (by first | omega | exact Below.size (by assumption) | (simp; done) | (simp; omega))))))).mono ?_; (rintro e w2 ⟨rfl, hb2⟩; obtain ⟨hc2, hf2⟩ := bcell hb2; have hz2 := hb2.size; try simp at hz2; try have hy2 := Nat.lt_of_succ_le hz2; try have hx2 := Nat.lt_of_succ_lt hy2; try have hw2 := Nat.lt_of_succ_lt hx2)))
        go_ret
        exact ⟨ret_bool HE.out.symm, by (focus repeat (first | assumption | exact Below.refl _ _ | refine Below.drew ?_ | refine Below.alloc ?_ (by first | omega | exact Below.size (by assumption) | (simp; done) | (simp; omega)) _ | refine Below.setCell ?_ (by first | omega | exact Below.size (by assumption) | (simp; done) | (simp; omega)) _ | refine below_setRow ?_ (by first | omega | exact Below.size (by assumption) | (simp; done) | (simp; omega)) _ | (refine Below.trans ?_ (Below.mono (by assumption) ?_); rotate_left; exact (by first | omega | exact Below.size (by assumption) | (simp; done) | (simp; omega)))))⟩
end Go.Proofs.YteajnaabbddohaaGreatDoor
namespace Go.Proofs.YteajnaabbddohaaGreatDoor
open Go.RowKit
set_option maxRecDepth 100000

def blkT (F : PFunc) (b : PBlock) : Bool := b.phis.all (phiT F) && b.insts.all (instT F) && termT F b.term
def typedP (F : PFunc) : Bool := shapedP F && F.blocks.all (blkT F)
def errOf (b : Bool) : Int := if b then 0 else 3
theorem mem_of_blk {F : PFunc} {i : Nat} (h : i < F.blocks.length) : F.blk i ∈ F.blocks := List.mem_of_getElem? (PFunc.blk_get h)
theorem all_of_not {α : Type} {p : α → Bool} {l : List α} (h : (!(l.any fun x => !p x)) = true) : ∀ x ∈ l, p x = true := fun x hx => by
  rw [List.not_any_eq_all_not, List.all_eq_true] at h
  have := h x hx
  simpa using this
theorem shaped_blk {F : PFunc} (h : shapedP F = true) {n : Nat} (hn : n < F.blocks.length) : (∀ x ∈ (F.blk n).phis, phiB F x = true) ∧ (∀ x ∈ (F.blk n).insts, instB F x = true) ∧ termB F (F.blk n).term = true := by
  unfold shapedP at h
  simp only [Bool.and_eq_true, List.all_eq_true] at h
  have := h.1.2 _ (mem_of_blk hn)
  unfold blockB at this
  simp only [Bool.and_eq_true] at this
  exact ⟨all_of_not this.1.1, all_of_not this.1.2, this.2⟩
theorem phiB_parts {F : PFunc} {x : PPhi} (h : phiB F x = true) : varsB F x.args = true ∧ inB x.dst F.vars.length = true := by
  unfold phiB at h
  simp only [Bool.and_eq_true] at h
  exact ⟨h.1.2, h.1.1.2⟩
theorem instB_parts {F : PFunc} {x : PInst} (h : instB F x = true) : varsB F x.args = true ∧ x.args.length = (takesOf x.op).length ∧ (makesB x.op = true → inB x.dst F.vars.length = true) := by
  unfold instB at h
  simp only [Bool.and_eq_true, decide_eq_true_eq] at h
  refine ⟨h.1.1.2, h.1.1.1.2, fun hm => ?_⟩
  have := h.1.2
  rw [dstB, if_pos hm] at this
  exact this
theorem termB_parts {F : PFunc} {t : PTerm} (h : termB F t = true) : t.kind ≠ 0 → inB t.var F.vars.length = true := fun h0 => by
  unfold termB at h
  rw [if_neg h0] at h
  by_cases h1 : t.kind = 1
  · rw [if_pos h1] at h
    simp only [Bool.and_eq_true] at h
    exact h.1.1
  · rw [if_neg h1] at h
    by_cases h2 : t.kind = 2
    · rw [if_pos h2] at h
      simp only [Bool.and_eq_true] at h
      exact h.1
    · rw [if_neg h2] at h
      cases h

set_option maxHeartbeats 4000000 in
theorem typed_calls {W w : World} {fv : Value} {F : PFunc} (hU : Uni W) (hF : FnV W W.heap.size fv F) (hW : Below W.heap.size W w) (hS : Small F) :
    Calls Tryz.prog 72 #[fv] w fun e w' => e = .returned (.int .i64 (errOf (typedP F))) ∧ Below w.heap.size w w' := by
  have hsh := fun (w : World) (h : Below W.heap.size W w) => shaped_calls hU hF h hS
  obtain ⟨A0, c0, A1, c1, A2, c2, rfl, l0, l1, l2, -, -, -, r0, r1, r2⟩ := id hF.open_
  unfold Len at *
  have hWs := hW.size
  cases hs : shapedP F
  · have HF := Lib.hid (show errOf (typedP F) = 3 by rw [typedP, hs]; rfl)
    rw [hs] at hsh
    clear hs
    go_enter Tryz.func72, Tryz.ntmps72
    go_wp2_with (go_at_call 104; refine (hsh _ (by (focus repeat (first | assumption | exact Below.refl _ _ | refine Below.drew ?_ | refine Below.alloc ?_ (by first | omega | exact Below.size (by assumption) | (simp; done) | (simp; omega)) _ | refine Below.setCell ?_ (by first | omega | exact Below.size (by assumption) | (simp; done) | (simp; omega)) _ | refine below_setRow ?_ (by first | omega | exact Below.size (by assumption) | (simp; done) | (simp; omega)) _ | (refine Below.trans ?_ (Below.mono (by assumption) ?_); rotate_left; exact (by first | omega | exact Below.size (by assumption) | (simp; done) | (simp; omega))))))).mono ?_; (rintro e w1 ⟨rfl, hb1⟩; obtain ⟨hc1, hf1⟩ := bcell hb1; have hz1 := hb1.size; try simp at hz1; try have hy1 := Nat.lt_of_succ_le hz1; try have hx1 := Nat.lt_of_succ_lt hy1; try have hw1 := Nat.lt_of_succ_lt hx1))
    go_ret
    exact ⟨ret_int HF.out.symm, by (focus repeat (first | assumption | exact Below.refl _ _ | refine Below.drew ?_ | refine Below.alloc ?_ (by first | omega | exact Below.size (by assumption) | (simp; done) | (simp; omega)) _ | refine Below.setCell ?_ (by first | omega | exact Below.size (by assumption) | (simp; done) | (simp; omega)) _ | refine below_setRow ?_ (by first | omega | exact Below.size (by assumption) | (simp; done) | (simp; omega)) _ | (refine Below.trans ?_ (Below.mono (by assumption) ?_); rotate_left; exact (by first | omega | exact Below.size (by assumption) | (simp; done) | (simp; omega)))))⟩
  have HN := Lib.hid (show typedP F = F.blocks.all (blkT F) by rw [typedP, hs]; rfl)
  have HS := Lib.hid hs
  rw [hs] at hsh
  clear hs
  have hb0 := (Below.refl w.heap.size w).alloc (Nat.le_refl _) (.cells #[.slice A0 F.vars.length c0, .slice A1 F.params.length c1, .slice A2 F.blocks.length c2] 26)
  go_enter Tryz.func72, Tryz.ntmps72
  go_wp2_with (go_at_call 104; refine (hsh _ (by (focus repeat (first | assumption | exact Below.refl _ _ | refine Below.drew ?_ | refine Below.alloc ?_ (by first | omega | exact Below.size (by assumption) | (simp; done) | (simp; omega)) _ | refine Below.setCell ?_ (by first | omega | exact Below.size (by assumption) | (simp; done) | (simp; omega)) _ | refine below_setRow ?_ (by first | omega | exact Below.size (by assumption) | (simp; done) | (simp; omega)) _ | (refine Below.trans ?_ (Below.mono (by assumption) ?_); rotate_left; exact (by first | omega | exact Below.size (by assumption) | (simp; done) | (simp; omega))))))).mono ?_; (rintro e w1 ⟨rfl, hb1⟩; obtain ⟨hc1, hf1⟩ := bcell hb1; have hz1 := hb1.size; try simp at hz1; try have hy1 := Nat.lt_of_succ_le hz1; try have hx1 := Nat.lt_of_succ_lt hy1; try have hw1 := Nat.lt_of_succ_lt hx1))
  have hbb : Below (w.heap.size + 1) (w.alloc (.cells #[.slice A0 F.vars.length c0, .slice A1 F.params.length c1, .slice A2 F.blocks.length c2] 26)) w1 := by simpa using hb1
  go_loopw [15] (fun i wr => ∃ n : Nat, i = .int .i64 n ∧ n ≤ F.blocks.length ∧ Below (w.heap.size + 1) (w.alloc (.cells #[.slice A0 F.vars.length c0, .slice A1 F.params.length c1, .slice A2 F.blocks.length c2] 26)) wr ∧
    Hid (typedP F = (F.blocks.drop n).all (blkT F))) (fun i _ => F.blocks.length - (intOf i).toNat)
  case atStart => exact ⟨0, rfl, Nat.zero_le _, hbb, HN⟩
  case round =>
    obtain ⟨n, rfl, hn, hb, hf⟩ := hrel
    have hB := hb0.trans (hb.mono (Nat.le_succ _))
    have hWr : Below W.heap.size W wr := hW.trans (hB.mono hWs)
    obtain ⟨hq, hq0, hq1, hq2⟩ := box3 hb
    by_cases hlt : n < F.blocks.length
    · obtain ⟨bb, off, A3, c3, A4, c4, rfl, hbb, hnz, hy0, hy1, hy2, hy3, hy4, hy5, hy6, l3, l4, k3, k4, r3, r4⟩ := r2.blk hWr hlt
      have hd := Lib.hid (drop_blk hlt)
      unfold Len at *
      obtain ⟨HP, HI, HT⟩ := Lib.hid (shaped_blk HS.out hlt) |>.out
      replace HP := Lib.hid HP
      replace HI := Lib.hid HI
      have hT := fun (w : World) (h : Below W.heap.size W w) => kterm_calls (F.blk n).term hF h (termB_parts HT)
      clear HT
      obtain ⟨wo, rfl⟩ : ∃ wo : World, wo = wr := ⟨_, rfl⟩
      go_wp2
      go_loopw [22] (fun i wr => ∃ m : Nat, i = .int .i64 m ∧ m ≤ (F.blk n).phis.length ∧ Below (wo.alloc (.cells #[.string (F.blk n).name, .slice A3 (F.blk n).phis.length c3, .slice A4 (F.blk n).insts.length c4, .int .i64 (F.blk n).term.kind, .int .i64 (F.blk n).term.var, .int .i64 (F.blk n).term.t0, .int .i64 (F.blk n).term.t1] 60)).heap.size (wo.alloc (.cells #[.string (F.blk n).name, .slice A3 (F.blk n).phis.length c3, .slice A4 (F.blk n).insts.length c4, .int .i64 (F.blk n).term.kind, .int .i64 (F.blk n).term.var, .int .i64 (F.blk n).term.t0, .int .i64 (F.blk n).term.t1] 60)) wr ∧
        Hid ((F.blk n).phis.all (phiT F) = ((F.blk n).phis.drop m).all (phiT F))) (fun i _ => (F.blk n).phis.length - (intOf i).toNat)
      case atStart => exact ⟨0, rfl, Nat.zero_le _, Below.refl _ _, by simp [Hid]⟩
      case round =>
        obtain ⟨m, rfl, hm, hbi, hfi⟩ := hrel
        obtain ⟨hci, hgi⟩ := bcell hbi
        have hzi := hbi.size
        simp at hzi
        have hqi := Nat.lt_of_succ_le hzi
        have hqj := Nat.lt_trans hq hqi
        have hBi : Below wo.heap.size wo wr := ((Below.refl _ _).alloc (Nat.le_refl _) _).trans (hbi.mono (by simp))
        have hWi := hWr.trans (hBi.mono hWr.size)
        by_cases hmt : m < (F.blk n).phis.length
        · obtain ⟨b5, off5, A5, c5, A6, c6, rfl, hbb5, hx0, hx1, hx2, l5, l6, k5, k6, r5, r6⟩ := r3.phi hWi hmt
          have hcl := fun (w : World) (h : Below W.heap.size W w) => kphi_calls hF (x := (F.blk n).phi m) ⟨_, _, rfl, ⟨A5, c5, rfl, l5, k5, r5⟩, A6, c6, rfl, l6, k6, r6⟩ h (phiB_parts (HP.out _ (mem_of_Phi hmt))).1 (phiB_parts (HP.out _ (mem_of_Phi hmt))).2
          have hdi := Lib.hid (drop_Phi hmt)
          cases hx : phiT F ((F.blk n).phi m)
          · have HF := Lib.hid (show errOf (typedP F) = 3 by rw [hf.out, hd.out, List.all_cons, blkT, hfi.out, hdi.out, List.all_cons, hx]; rfl)
            rw [hx] at hcl
            clear hx
            go_wp2_with (go_at_call 105; refine (hcl _ (hWi.trans (by (focus repeat (first | assumption | exact Below.refl _ _ | refine Below.drew ?_ | refine Below.alloc ?_ (by first | omega | exact Below.size (by assumption) | (simp; done) | (simp; omega)) _ | refine Below.setCell ?_ (by first | omega | exact Below.size (by assumption) | (simp; done) | (simp; omega)) _ | refine below_setRow ?_ (by first | omega | exact Below.size (by assumption) | (simp; done) | (simp; omega)) _ | (refine Below.trans ?_ (Below.mono (by assumption) ?_); rotate_left; exact (by first | omega | exact Below.size (by assumption) | (simp; done) | (simp; omega)))))))).mono ?_; (rintro e w2 ⟨rfl, hb2⟩; obtain ⟨hc2, hf2⟩ := bcell hb2; have hz2 := hb2.size; try simp at hz2; try have hy2 := Nat.lt_of_succ_le hz2; try have hx2 := Nat.lt_of_succ_lt hy2; try have hw2 := Nat.lt_of_succ_lt hx2))
            go_ret
            exact ⟨ret_int HF.out.symm, hB.trans ((hBi.trans (by (focus repeat (first | assumption | exact Below.refl _ _ | refine Below.drew ?_ | refine Below.alloc ?_ (by first | omega | exact Below.size (by assumption) | (simp; done) | (simp; omega)) _ | refine Below.setCell ?_ (by first | omega | exact Below.size (by assumption) | (simp; done) | (simp; omega)) _ | refine below_setRow ?_ (by first | omega | exact Below.size (by assumption) | (simp; done) | (simp; omega)) _ | (refine Below.trans ?_ (Below.mono (by assumption) ?_); rotate_left; exact (by first | omega | exact Below.size (by assumption) | (simp; done) | (simp; omega))))))).mono (Nat.le_of_lt hq))⟩
          · have HF := Lib.hid (show (F.blk n).phis.all (phiT F) = ((F.blk n).phis.drop (m + 1)).all (phiT F) by rw [hfi.out, hdi.out, List.all_cons, hx]; rfl)
            rw [hx] at hcl
            clear hx
            go_wp2_with (go_at_call 105; refine (hcl _ (hWi.trans (by (focus repeat (first | assumption | exact Below.refl _ _ | refine Below.drew ?_ | refine Below.alloc ?_ (by first | omega | exact Below.size (by assumption) | (simp; done) | (simp; omega)) _ | refine Below.setCell ?_ (by first | omega | exact Below.size (by assumption) | (simp; done) | (simp; omega)) _ | refine below_setRow ?_ (by first | omega | exact Below.size (by assumption) | (simp; done) | (simp; omega)) _ | (refine Below.trans ?_ (Below.mono (by assumption) ?_); rotate_left; exact (by first | omega | exact Below.size (by assumption) | (simp; done) | (simp; omega)))))))).mono ?_; (rintro e w2 ⟨rfl, hb2⟩; obtain ⟨hc2, hf2⟩ := bcell hb2; have hz2 := hb2.size; try simp at hz2; try have hy2 := Nat.lt_of_succ_le hz2; try have hx2 := Nat.lt_of_succ_lt hy2; try have hw2 := Nat.lt_of_succ_lt hx2))
            go_roundw
            case rel => exact ⟨m + 1, by go_num, by omega, hbi.trans (by (focus repeat (first | assumption | exact Below.refl _ _ | refine Below.drew ?_ | refine Below.alloc ?_ (by first | omega | exact Below.size (by assumption) | (simp; done) | (simp; omega)) _ | refine Below.setCell ?_ (by first | omega | exact Below.size (by assumption) | (simp; done) | (simp; omega)) _ | refine below_setRow ?_ (by first | omega | exact Below.size (by assumption) | (simp; done) | (simp; omega)) _ | (refine Below.trans ?_ (Below.mono (by assumption) ?_); rotate_left; exact (by first | omega | exact Below.size (by assumption) | (simp; done) | (simp; omega)))))), HF⟩
            case measure => simp [intOf]; omega
        · have hfp := Lib.hid (show (F.blk n).phis.all (phiT F) = true by rw [hfi.out, List.drop_eq_nil_of_le (by omega)]; rfl)
          clear hfi hgi
          obtain ⟨wp, rfl⟩ : ∃ wp : World, wp = wr := ⟨_, rfl⟩
          go_wp2
          go_loopw [34] (fun i wr => ∃ m : Nat, i = .int .i64 m ∧ m ≤ (F.blk n).insts.length ∧ Below wp.heap.size wp wr ∧
            Hid ((F.blk n).insts.all (instT F) = ((F.blk n).insts.drop m).all (instT F))) (fun i _ => (F.blk n).insts.length - (intOf i).toNat)
          case atStart => exact ⟨0, rfl, Nat.zero_le _, Below.refl _ _, by simp [Hid]⟩
          case round =>
            obtain ⟨m, rfl, hm, hbk, hfi⟩ := hrel
            obtain ⟨hck, hgk⟩ := bcell hbk
            have hzk := hbk.size
            have hqk := Nat.lt_of_lt_of_le hqi hzk
            have hql := Nat.lt_trans hq hqk
            have hBk : Below wo.heap.size wo wr := hBi.trans (hbk.mono hBi.size)
            have hWk := hWr.trans (hBk.mono hWr.size)
            by_cases hmt : m < (F.blk n).insts.length
            · obtain ⟨b5, off5, A5, c5, rfl, hbb5, hx0, hx1, hx2, hx3, l5, k5, r5⟩ := r4.inst hWk hmt
              have hip := instB_parts (HI.out _ (mem_of_Inst hmt))
              have hcl := fun (w : World) (h : Below W.heap.size W w) => kinst_calls hF (x := (F.blk n).inst m) ⟨_, rfl, A5, c5, rfl, l5, k5, r5⟩ h hip.1 hip.2.1 hip.2.2
              clear hip
              have hdi := Lib.hid (drop_Inst hmt)
              cases hx : instT F ((F.blk n).inst m)
              · have HF := Lib.hid (show errOf (typedP F) = 3 by rw [hf.out, hd.out, List.all_cons, blkT, hfi.out, hdi.out, List.all_cons, hx]; simp [errOf])
                rw [hx] at hcl
                clear hx
                go_wp2_with (go_at_call 106; refine (hcl _ (hWk.trans (by (focus repeat (first | assumption | exact Below.refl _ _ | refine Below.drew ?_ | refine Below.alloc ?_ (by first | omega | exact Below.size (by assumption) | (simp; done) | (simp; omega)) _ | refine Below.setCell ?_ (by first | omega | exact Below.size (by assumption) | (simp; done) | (simp; omega)) _ | refine below_setRow ?_ (by first | omega | exact Below.size (by assumption) | (simp; done) | (simp; omega)) _ | (refine Below.trans ?_ (Below.mono (by assumption) ?_); rotate_left; exact (by first | omega | exact Below.size (by assumption) | (simp; done) | (simp; omega)))))))).mono ?_; (rintro e w2 ⟨rfl, hb2⟩; obtain ⟨hc2, hf2⟩ := bcell hb2; have hz2 := hb2.size; try simp at hz2; try have hy2 := Nat.lt_of_succ_le hz2; try have hx2 := Nat.lt_of_succ_lt hy2; try have hw2 := Nat.lt_of_succ_lt hx2))
                go_ret
                exact ⟨ret_int HF.out.symm, hB.trans ((hBk.trans (by (focus repeat (first | assumption | exact Below.refl _ _ | refine Below.drew ?_ | refine Below.alloc ?_ (by first | omega | exact Below.size (by assumption) | (simp; done) | (simp; omega)) _ | refine Below.setCell ?_ (by first | omega | exact Below.size (by assumption) | (simp; done) | (simp; omega)) _ | refine below_setRow ?_ (by first | omega | exact Below.size (by assumption) | (simp; done) | (simp; omega)) _ | (refine Below.trans ?_ (Below.mono (by assumption) ?_); rotate_left; exact (by first | omega | exact Below.size (by assumption) | (simp; done) | (simp; omega))))))).mono (Nat.le_of_lt hq))⟩
              · have HF := Lib.hid (show (F.blk n).insts.all (instT F) = ((F.blk n).insts.drop (m + 1)).all (instT F) by rw [hfi.out, hdi.out, List.all_cons, hx]; rfl)
                rw [hx] at hcl
                clear hx
                go_wp2_with (go_at_call 106; refine (hcl _ (hWk.trans (by (focus repeat (first | assumption | exact Below.refl _ _ | refine Below.drew ?_ | refine Below.alloc ?_ (by first | omega | exact Below.size (by assumption) | (simp; done) | (simp; omega)) _ | refine Below.setCell ?_ (by first | omega | exact Below.size (by assumption) | (simp; done) | (simp; omega)) _ | refine below_setRow ?_ (by first | omega | exact Below.size (by assumption) | (simp; done) | (simp; omega)) _ | (refine Below.trans ?_ (Below.mono (by assumption) ?_); rotate_left; exact (by first | omega | exact Below.size (by assumption) | (simp; done) | (simp; omega)))))))).mono ?_; (rintro e w2 ⟨rfl, hb2⟩; obtain ⟨hc2, hf2⟩ := bcell hb2; have hz2 := hb2.size; try simp at hz2; try have hy2 := Nat.lt_of_succ_le hz2; try have hx2 := Nat.lt_of_succ_lt hy2; try have hw2 := Nat.lt_of_succ_lt hx2))
                go_roundw
                case rel => exact ⟨m + 1, by go_num, by omega, hbk.trans (by (focus repeat (first | assumption | exact Below.refl _ _ | refine Below.drew ?_ | refine Below.alloc ?_ (by first | omega | exact Below.size (by assumption) | (simp; done) | (simp; omega)) _ | refine Below.setCell ?_ (by first | omega | exact Below.size (by assumption) | (simp; done) | (simp; omega)) _ | refine below_setRow ?_ (by first | omega | exact Below.size (by assumption) | (simp; done) | (simp; omega)) _ | (refine Below.trans ?_ (Below.mono (by assumption) ?_); rotate_left; exact (by first | omega | exact Below.size (by assumption) | (simp; done) | (simp; omega)))))), HF⟩
                case measure => simp [intOf]; omega
            · have hfq := Lib.hid (show (F.blk n).insts.all (instT F) = true by rw [hfi.out, List.drop_eq_nil_of_le (by omega)]; rfl)
              cases hx : termT F (F.blk n).term
              · have HF := Lib.hid (show errOf (typedP F) = 3 by rw [hf.out, hd.out, List.all_cons, blkT, hx]; simp [errOf])
                rw [hx] at hT
                clear hx
                go_wp2_with (go_at_call 107; refine (hT _ hWk).mono ?_; (rintro e w2 ⟨rfl, hb2⟩; obtain ⟨hc2, hf2⟩ := bcell hb2; have hz2 := hb2.size; try simp at hz2; try have hy2 := Nat.lt_of_succ_le hz2; try have hx2 := Nat.lt_of_succ_lt hy2; try have hw2 := Nat.lt_of_succ_lt hx2))
                go_ret
                exact ⟨ret_int HF.out.symm, hB.trans ((hBk.trans (by (focus repeat (first | assumption | exact Below.refl _ _ | refine Below.drew ?_ | refine Below.alloc ?_ (by first | omega | exact Below.size (by assumption) | (simp; done) | (simp; omega)) _ | refine Below.setCell ?_ (by first | omega | exact Below.size (by assumption) | (simp; done) | (simp; omega)) _ | refine below_setRow ?_ (by first | omega | exact Below.size (by assumption) | (simp; done) | (simp; omega)) _ | (refine Below.trans ?_ (Below.mono (by assumption) ?_); rotate_left; exact (by first | omega | exact Below.size (by assumption) | (simp; done) | (simp; omega))))))).mono (Nat.le_of_lt hq))⟩
              · have HF := Lib.hid (show typedP F = (F.blocks.drop (n + 1)).all (blkT F) by rw [hf.out, hd.out, List.all_cons, blkT, hfp.out, hfq.out, hx]; rfl)
                rw [hx] at hT
                clear hx
                go_wp2_with (go_at_call 107; refine (hT _ hWk).mono ?_; (rintro e w2 ⟨rfl, hb2⟩; obtain ⟨hc2, hf2⟩ := bcell hb2; have hz2 := hb2.size; try simp at hz2; try have hy2 := Nat.lt_of_succ_le hz2; try have hx2 := Nat.lt_of_succ_lt hy2; try have hw2 := Nat.lt_of_succ_lt hx2))
                go_roundw
                case rel => exact ⟨n + 1, by go_num, by omega, hb.trans ((hBk.trans (by (focus repeat (first | assumption | exact Below.refl _ _ | refine Below.drew ?_ | refine Below.alloc ?_ (by first | omega | exact Below.size (by assumption) | (simp; done) | (simp; omega)) _ | refine Below.setCell ?_ (by first | omega | exact Below.size (by assumption) | (simp; done) | (simp; omega)) _ | refine below_setRow ?_ (by first | omega | exact Below.size (by assumption) | (simp; done) | (simp; omega)) _ | (refine Below.trans ?_ (Below.mono (by assumption) ?_); rotate_left; exact (by first | omega | exact Below.size (by assumption) | (simp; done) | (simp; omega))))))).mono (Nat.succ_le_of_lt hq)), HF⟩
                case measure => simp [intOf]; omega
    · have hf2 := Lib.hid (show errOf (typedP F) = 0 by rw [hf.out, List.drop_eq_nil_of_le (by omega)]; rfl)
      go_wp2
      go_ret
      exact ⟨ret_int hf2.out.symm, hB⟩
end Go.Proofs.YteajnaabbddohaaGreatDoor
