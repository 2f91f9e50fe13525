/- Typing: kind, phi$1, and slices.ContainsFunc over []int with a function value of two captured pointers. -/
import Derived.Test.YtjijlmddalbkbaaGreatDoorShaped
namespace Go.Proofs.YtjijlmddalbkbaaGreatDoor
open Go.RowKit
set_option maxRecDepth 100000

def tyOf (F : PFunc) (v : Int) : Int := (F.var v.toNat).ty
theorem inB_nat {v : Int} {n : Nat} (h : inB v n = true) : ∃ k : Nat, v = k ∧ k < n := by
  unfold inB at h
  simp at h
  exact ⟨v.toNat, by omega, by omega⟩
theorem kindIn_calls {W w : World} {fv : Value} {F : PFunc} (hF : FnV W W.heap.size fv F) (hW : Below W.heap.size W w) {v : Int} (hv : inB v F.vars.length = true) :
    Calls Tryz.prog 107 #[fv, .int .i64 v] w fun e w' => e = .returned (.int .i64 (tyOf F v)) ∧ Below w.heap.size w w' := kind_calls hF hW v (inB_true hv).1 (inB_true hv).2
theorem ofIn_calls {W w : World} {fv : Value} {F : PFunc} (hF : FnV W W.heap.size fv F) (hW : Below W.heap.size W w) {v : Int} (hv : inB v F.vars.length = true) :
    Calls Tryz.prog 76 #[fv, .int .i64 v] w fun e w' => e = .returned (.int .i64 (tyOf F v)) ∧ Below w.heap.size w w' := of_calls hF hW v (inB_true hv).1 (inB_true hv).2

/-- a predicate on numbers that a function value with two captured pointers is. -/
def PredI2 (w : World) (k : FuncId) (c d : Value) (xs : List Int) (p : Int → Bool) : Prop :=
  ∀ x, x ∈ xs → ∀ w1, Below w.heap.size w w1 → Calls Tryz.prog k #[.int .i64 x, c, d] w1 fun e w' => e = .returned (.bool (p x)) ∧ Below w1.heap.size w1 w'
set_option maxHeartbeats 400000 in
theorem indexI2_calls {W w : World} {A : Option Addr} {c0 : Nat} {xs : List Int} (hr : Rd W.heap.size A xs 1 (IntC W)) (hl : Len xs.length) (hW : Below W.heap.size W w) (k : FuncId) (c d : Value) (p : Int → Bool) (eg : ∀ args w, (callFunc k args).run Tryz.prog w = .ok (.enter k args) w) (hp : PredI2 w k c d xs p) :
    Calls Tryz.prog 133 #[.slice A xs.length c0, .func (.func k) #[] #[c, d]] w fun e w' => e = .returned (.int .i64 (firstIdx p xs 0)) ∧ Below w.heap.size w w' := by
  unfold Len at hl
  go_enter Tryz.func133, Tryz.ntmps133
  go_wp2
  go_loopw [5, 8] (fun _ i wr => ∃ n : Nat, i = .int .i64 n ∧ n ≤ xs.length ∧ Below w.heap.size w wr ∧ Hid (firstIdx p xs 0 = firstIdx p (xs.drop n) n)) (fun _ i _ => xs.length - (intOf i).toNat)
  case atStart => exact ⟨0, rfl, Nat.zero_le _, Below.refl _ _, by simp [Hid]⟩
  case round =>
    obtain ⟨n, rfl, hn, hb, hf⟩ := hrel
    by_cases hlt : n < xs.length
    · obtain ⟨b, off, rfl, hbs, hc⟩ := hr.int (hW.trans (hb.mono hW.size)) hlt
      have hcl := hp _ (mem_of_ith hlt) wr hb
      have hd := Lib.hid (drop_ith hlt)
      cases hx : p (ith xs n)
      · rw [hx] at hcl
        have hf2 := Lib.hid (show firstIdx p xs 0 = firstIdx p (xs.drop (n + 1)) (n + 1) by rw [hf.out, hd.out, firstIdx, if_neg (by rw [hx]; decide)])
        clear hx
        go_wp2_with (go_at_fn k; refine hcl.mono ?_; (rintro e w1 ⟨rfl, hb1⟩; obtain ⟨hc1, hf1⟩ := bcell hb1; have hz1 := hb1.size; try simp at hz1; try have hy1 := Nat.lt_of_succ_le hz1; try have hx1 := Nat.lt_of_succ_lt hy1; try have hw1 := Nat.lt_of_succ_lt hx1))
        go_roundw
        case rel => exact ⟨n + 1, by go_num, by omega, by (focus repeat (first | assumption | exact Below.refl _ _ | refine Below.drew ?_ | refine Below.alloc ?_ (by first | omega | exact Below.size (by assumption) | (simp; done) | (simp; omega)) _ | refine Below.setCell ?_ (by first | omega | exact Below.size (by assumption) | (simp; done) | (simp; omega)) _ | refine below_setRow ?_ (by first | omega | exact Below.size (by assumption) | (simp; done) | (simp; omega)) _ | (refine Below.trans ?_ (Below.mono (by assumption) ?_); rotate_left; exact (by first | omega | exact Below.size (by assumption) | (simp; done) | (simp; omega))))), hf2⟩
        case measure => simp [intOf]; omega
      · rw [hx] at hcl
        have hf2 := Lib.hid (show firstIdx p xs 0 = n by rw [hf.out, hd.out, firstIdx, if_pos hx])
        clear hx
        go_wp2_with (go_at_fn k; refine hcl.mono ?_; (rintro e w1 ⟨rfl, hb1⟩; obtain ⟨hc1, hf1⟩ := bcell hb1; have hz1 := hb1.size; try simp at hz1; try have hy1 := Nat.lt_of_succ_le hz1; try have hx1 := Nat.lt_of_succ_lt hy1; try have hw1 := Nat.lt_of_succ_lt hx1))
        go_ret
        exact ⟨ret_int hf2.out.symm, by (focus repeat (first | assumption | exact Below.refl _ _ | refine Below.drew ?_ | refine Below.alloc ?_ (by first | omega | exact Below.size (by assumption) | (simp; done) | (simp; omega)) _ | refine Below.setCell ?_ (by first | omega | exact Below.size (by assumption) | (simp; done) | (simp; omega)) _ | refine below_setRow ?_ (by first | omega | exact Below.size (by assumption) | (simp; done) | (simp; omega)) _ | (refine Below.trans ?_ (Below.mono (by assumption) ?_); rotate_left; exact (by first | omega | exact Below.size (by assumption) | (simp; done) | (simp; omega)))))⟩
    · have hf2 := Lib.hid (show firstIdx p xs 0 = -1 by rw [hf.out, List.drop_eq_nil_of_le (by omega)]; rfl)
      go_wp2
      go_ret
      exact ⟨ret_int hf2.out.symm, hb⟩
theorem containsI2_calls {W w : World} {A : Option Addr} {c0 : Nat} {xs : List Int} (hr : Rd W.heap.size A xs 1 (IntC W)) (hl : Len xs.length) (hW : Below W.heap.size W w) (k : FuncId) (c d : Value) (p : Int → Bool) (eg : ∀ args w, (callFunc k args).run Tryz.prog w = .ok (.enter k args) w) (hp : PredI2 w k c d xs p) :
    Calls Tryz.prog 105 #[.slice A xs.length c0, .func (.func k) #[] #[c, d]] w fun e w' => e = .returned (.bool (xs.any p)) ∧ Below w.heap.size w w' := by
  have hi := indexI2_calls (c0 := c0) hr hl hW k c d p eg hp
  go_enter Tryz.func105, Tryz.ntmps105
  go_wp2_with (go_at_call 133; refine hi.mono ?_; rintro e w1 ⟨rfl, hb⟩)
  go_ret
  exact ⟨ret_bool' (by simp only [decide_eq_true_eq]; exact firstIdx_neg p xs 0), hb⟩

theorem eg_kphi1 : ∀ args w, (callFunc 106 args).run Tryz.prog w = .ok (.enter 106 args) w := fun _ _ => by kernel_rfl
theorem kphi1_calls {W w : World} {fv pv c d : Value} {F : PFunc} {x : PPhi} (hF : FnV W W.heap.size fv F) (hW : Below W.heap.size W w) (hc : FnBox w c fv) (hd : FnBox w d pv) (hp : PhiV W W.heap.size pv x)
    {v : Int} (hv : inB v F.vars.length = true) (hx : inB x.dst F.vars.length = true) :
    Calls Tryz.prog 106 #[.int .i64 v, c, d] w fun e w' => e = .returned (.bool (tyOf F v != tyOf F x.dst)) ∧ Below w.heap.size w w' := by
  have h1 := fun (w : World) (h : Below W.heap.size W w) => kindIn_calls hF h hv
  have h2 := fun (w : World) (h : Below W.heap.size W w) => kindIn_calls hF h hx
  have hWs := hW.size
  obtain ⟨b, y0, y1, y2, rfl, rfl, hl, h00, h01, h02⟩ := hc
  obtain ⟨b', z0, z1, z2, rfl, rfl, hl', h10, h11, h12⟩ := hd
  obtain ⟨A1, c1, A2, c2, hpe, -⟩ := hp.open_
  simp only [Value.agg.injEq, Array.mk.injEq, List.cons.injEq, and_true] at hpe
  obtain ⟨rfl, rfl, rfl⟩ := hpe
  go_enter Tryz.func106, Tryz.ntmps106
  go_wp2_with fail
  obtain ⟨S0, hS0⟩ : ∃ S0 : World → Prop, S0 = fun w' => w'.cell? ⟨b, 0, none⟩ = some y0 ∧ w'.cell? ⟨b, 1, none⟩ = some y1 ∧ w'.cell? ⟨b, 2, none⟩ = some y2 ∧ w'.cell? ⟨b', 0, none⟩ = some (.int .i64 x.dst) ∧ Below w.heap.size w w' ∧ b < w'.heap.size ∧ b' < w'.heap.size := ⟨_, rfl⟩
  have HS0 := Lib.hid hS0
  clear hS0
  have k0 : ∀ xw : WS S0, xw.w.cell? ⟨b, 0, none⟩ = some y0 := fun xw => by have hp := cast (congrFun HS0.out xw.w) xw.h; exact hp.1
  have k1 : ∀ xw : WS S0, xw.w.cell? ⟨b, 1, none⟩ = some y1 := fun xw => by have hp := cast (congrFun HS0.out xw.w) xw.h; exact hp.2.1
  have k2 : ∀ xw : WS S0, xw.w.cell? ⟨b, 2, none⟩ = some y2 := fun xw => by have hp := cast (congrFun HS0.out xw.w) xw.h; exact hp.2.2.1
  have k3 : ∀ xw : WS S0, xw.w.cell? ⟨b', 0, none⟩ = some (.int .i64 x.dst) := fun xw => by have hp := cast (congrFun HS0.out xw.w) xw.h; exact hp.2.2.2.1
  have k4 : ∀ xw : WS S0, Below w.heap.size w xw.w := fun xw => by have hp := cast (congrFun HS0.out xw.w) xw.h; exact hp.2.2.2.2.1
  have k5 : ∀ xw : WS S0, b < xw.w.heap.size := fun xw => by have hp := cast (congrFun HS0.out xw.w) xw.h; exact hp.2.2.2.2.2.1
  have k6 : ∀ xw : WS S0, b' < xw.w.heap.size := fun xw => by have hp := cast (congrFun HS0.out xw.w) xw.h; exact hp.2.2.2.2.2.2
  refine wp_region_sched (S := S0) [0, 1, 3, 4, 5, 2, 6, 7, 8] (by kernel_rfl) (by kernel_rfl) (fun _ _ _ _ _ h => h) ?hS (fun hSc => ?_)
  case hS =>
    rw [HS0.out]
    refine ⟨?_, ?_, ?_, ?_, ?_, ?_, ?_⟩
    · first | assumption | (go_keep; done) | (go_simp; done)
    · first | assumption | (go_keep; done) | (go_simp; done)
    · first | assumption | (go_keep; done) | (go_simp; done)
    · first | assumption | (go_keep; done) | (go_simp; done)
    · (focus repeat (first | assumption | exact Below.refl _ _ | refine Below.drew ?_ | refine Below.alloc ?_ (by first | omega | exact Below.size (by assumption) | (simp; done) | (simp; omega)) _ | refine Below.setCell ?_ (by first | omega | exact Below.size (by assumption) | (simp; done) | (simp; omega)) _ | refine below_setRow ?_ (by first | omega | exact Below.size (by assumption) | (simp; done) | (simp; omega)) _ | (refine Below.trans ?_ (Below.mono (by assumption) ?_); rotate_left; exact (by first | omega | exact Below.size (by assumption) | (simp; done) | (simp; omega)))))
    · first | omega | (rw [heap_drew]; omega) | (simp; done) | (simp; omega)
    · first | omega | (rw [heap_drew]; omega) | (simp; done) | (simp; omega)
  have hne0 : Nonempty (WS S0) := ⟨⟨_, hSc⟩⟩
  simp only [List.map_cons, List.map_nil, List.getD_cons_succ, List.getD_cons_zero]
  refine wpSch_looks (L1 := [_, _, _, _, _]) (L2 := _) rfl ?_
  iterate 5 (go_big_quiet_step (fail))
  refine wpQuiet_nil ?_
  (try dsimp only)
  refine wpSch_act rfl rfl (fun K hK => ?_)
  go_simp
  go_wp2_with (first | (go_at_call 107; first | (with_reducible refine (h1 _ (hW.trans ((k4 ⟨_, hSc⟩).mono hWs))).mono ?_; (rintro e w9 ⟨rfl, hb9⟩; obtain ⟨hc9, hf9⟩ := bcell hb9; have hz9 := hb9.size; try simp at hz9; try have hy9 := Nat.lt_of_succ_le hz9; try have hx9 := Nat.lt_of_succ_lt hy9; try have hw9 := Nat.lt_of_succ_lt hx9)) | (with_reducible refine (h2 _ (hW.trans ((k4 ⟨_, hSc⟩).mono hWs))).mono ?_; (rintro e w9 ⟨rfl, hb9⟩; obtain ⟨hc9, hf9⟩ := bcell hb9; have hz9 := hb9.size; try simp at hz9; try have hy9 := Nat.lt_of_succ_le hz9; try have hx9 := Nat.lt_of_succ_lt hy9; try have hw9 := Nat.lt_of_succ_lt hx9))))
  refine hK.out _ _ ?hS (fun hSc => ?_)
  case hS =>
    first
    | exact hSc
    | (rw [HS0.out] at hSc ⊢; obtain ⟨p0, p1, p2, p3, p4, p5, p6⟩ := hSc; exact ⟨(hc9 _ _ (by first | assumption | omega)).trans p0, (hc9 _ _ (by first | assumption | omega)).trans p1, (hc9 _ _ (by first | assumption | omega)).trans p2, (hc9 _ _ (by first | assumption | omega)).trans p3, p4.trans (hb9.mono (by have := p4.size; omega)), Nat.lt_of_lt_of_le p5 hb9.size, Nat.lt_of_lt_of_le p6 hb9.size⟩)
  clear hK K
  refine wpSch_act rfl rfl (fun K hK => ?_)
  go_simp
  go_wp2_with (first | (go_at_call 107; first | (with_reducible refine (h1 _ (hW.trans ((k4 ⟨_, hSc⟩).mono hWs))).mono ?_; (rintro e w9 ⟨rfl, hb9⟩; obtain ⟨hc9, hf9⟩ := bcell hb9; have hz9 := hb9.size; try simp at hz9; try have hy9 := Nat.lt_of_succ_le hz9; try have hx9 := Nat.lt_of_succ_lt hy9; try have hw9 := Nat.lt_of_succ_lt hx9)) | (with_reducible refine (h2 _ (hW.trans ((k4 ⟨_, hSc⟩).mono hWs))).mono ?_; (rintro e w9 ⟨rfl, hb9⟩; obtain ⟨hc9, hf9⟩ := bcell hb9; have hz9 := hb9.size; try simp at hz9; try have hy9 := Nat.lt_of_succ_le hz9; try have hx9 := Nat.lt_of_succ_lt hy9; try have hw9 := Nat.lt_of_succ_lt hx9))))
  refine hK.out _ _ ?hS (fun hSc => ?_)
  case hS =>
    first
    | exact hSc
    | (rw [HS0.out] at hSc ⊢; obtain ⟨p0, p1, p2, p3, p4, p5, p6⟩ := hSc; exact ⟨(hc9 _ _ (by first | assumption | omega)).trans p0, (hc9 _ _ (by first | assumption | omega)).trans p1, (hc9 _ _ (by first | assumption | omega)).trans p2, (hc9 _ _ (by first | assumption | omega)).trans p3, p4.trans (hb9.mono (by have := p4.size; omega)), Nat.lt_of_lt_of_le p5 hb9.size, Nat.lt_of_lt_of_le p6 hb9.size⟩)
  clear hK K
  refine wpSch_looks (L1 := [_, _]) (L2 := _) rfl ?_
  iterate 2 (go_big_quiet_step (fail))
  refine wpQuiet_nil ?_
  (try dsimp only)
  refine wpSch_nil ?_
  rw [HS0.out] at hSc
  obtain ⟨p0, p1, p2, p3, p4, p5, p6⟩ := hSc
  clear hne0 HS0 k0 k1 k2 k3 k4 k5 k6
  go_wp2
  go_ret
  exact ⟨rfl, p4⟩
end Go.Proofs.YtjijlmddalbkbaaGreatDoor
