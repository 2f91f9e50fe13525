/- The walk of the law LoopTells: it returns true, whatever the program. -/
import Derived.Test.YteajnaabbddohaaGreatDoorLpLive
import Derived.Test.YteajnaabbddohaaGreatDoorLpRf
namespace Go.Proofs.YteajnaabbddohaaGreatDoor
open Go.RowKit
set_option maxRecDepth 100000

theorem BodV.base {w : World} {base B k : Nat} {F : PFunc} {v : Value} {vs : List Value} (h : BodV w base F k v vs) (hB : B ≤ base) : BodV w B F k v vs :=
  ⟨own_base h.1 hB, fun i x hx => own_base (h.2 i x hx) hB⟩
/-- the table and the rows of the loops in memory. -/
def PostTB (F : PFunc) (wb wx : World) (s5 s6 : Value) : Prop := (∃ b0 c, s5 = .slice (some ⟨b0, 0, none⟩) F.blocks.length c ∧ TabR wx b0 F.blocks.length (tabB F)) ∧ ∃ vs, BodV wx wb.heap.size F F.blocks.length s6 vs
section
variable {F : PFunc} {a b h n x : Nat} {f : Nat → Bool}
theorem flt_step : ((List.range (b + 1)).filter f).length = ((List.range b).filter f).length + (f b).toNat := by
  rw [List.range_succ, List.filter_append, List.length_append]
  cases e : f b <;> simp [e]
theorem flt_le : ((List.range b).filter f).length ≤ b := Nat.le_trans (List.length_filter_le _ _) (by simp)
theorem lpB_of (hx : x < F.blocks.length) : lpB F (hdB F a) (a : Int) (x : Int) = (hdB F a && inR F a x) := by
  unfold lpB inR
  rw [Int.toNat_natCast, Int.toNat_natCast]
  have : (x : Int) < (F.blocks.length : Int) := by omega
  simp [this]
theorem latchesL_of : latchesL F (hdB F h) (h : Int) = (List.range F.blocks.length).filter (latB F h) := by
  unfold latchesL
  rw [Int.toNat_natCast, latL_filt]
  split
  · rfl
  · rename_i e
    have h0 : ¬ 0 < (latL F h).length := fun hp => e (decide_eq_true hp)
    rw [latL_filt] at h0
    exact (List.eq_nil_of_length_eq_zero (by omega)).symm
theorem body_of (hh : hdB F h = true) : bodyL F (hdB F h) (h : Int) F.blocks.length = (List.range F.blocks.length).filter (inR F h) := by rw [hh]; exact bodyL_filt
theorem body_no (hh : hdB F h = false) : bodyL F (hdB F h) (h : Int) F.blocks.length = [] := by rw [hh]; exact if_neg (by simp)
theorem heads_step : (headsL F (h + 1)).length = (headsL F h).length + (hdB F h).toNat := by rw [headsL_filt, headsL_filt]; exact flt_step
end
set_option maxHeartbeats 8000000 in
theorem tellsNil_law {W : World} {fv : Value} {F : PFunc} (hU : Uni W) (hF : FnV W W.heap.size fv F) (hx : fewB F = true) (hT : typedP F = false) :
    Calls Tryz.prog 6 #[fv] W fun e w' => e = .returned (.bool true) ∧ Below W.heap.size W w' := by
  have hlv := fun (w : World) (h : Below W.heap.size W w) => livesL_calls hU h
  have hfw := fun (w : World) (h : Below W.heap.size W w) => few_calls hF h
  have hty := fun (w : World) (h : Below W.heap.size W w) => lawTyped_calls hU hF h
  rw [hx] at hfw
  rw [show lawT F = false by unfold lawT; rw [hT, Bool.and_false]] at hty
  obtain ⟨w, rfl⟩ : ∃ w : World, w = W := ⟨_, rfl⟩
  have hS := few_small hx
  have hn := fun (w' : World) (h : Below w.heap.size w w') => loopNewNo_calls hU hF h hS hT
  obtain ⟨A0, c0, A1, c1, A2, c2, rfl, l0, l1, l2, -⟩ := id hF.open_
  unfold Len at *
  have hb0 := (Below.refl w.heap.size w).alloc (Nat.le_refl _) (.cells #[.slice A0 F.vars.length c0, .slice A1 F.params.length c1, .slice A2 F.blocks.length c2] 26)
  clear hx hT hS
  go_enter Tryz.func6, Tryz.ntmps6
  go_wp2_with fail
  refine (hlv _ (by (focus repeat (first | assumption | exact Below.refl _ _ | refine Below.drew ?_ | refine Below.alloc ?_ (by first | omega | exact Below.size (by assumption) | (simp; done) | (simp; omega)) _ | refine Below.setCell ?_ (by first | omega | exact Below.size (by assumption) | (simp; done) | (simp; omega)) _ | refine below_setRow ?_ (by first | omega | exact Below.size (by assumption) | (simp; done) | (simp; omega)) _ | (refine Below.trans ?_ (Below.mono (by assumption) ?_); rotate_left; exact (by first | omega | exact Below.size (by assumption) | (simp; done) | (simp; omega))))))).mono ?_
  rintro e w4 ⟨rfl, hb4⟩
  have hX4 : Below (w.heap.size + 1) (w.alloc (.cells #[.slice A0 F.vars.length c0, .slice A1 F.params.length c1, .slice A2 F.blocks.length c2] 26)) w4 := by simpa using hb4
  have hB4 := hb0.trans (hX4.mono (Nat.le_succ _))
  obtain ⟨q, q0, q1, q2⟩ := box3 hX4
  go_wp2_with fail
  refine (hfw _ hB4).mono ?_
  rintro e w5 ⟨rfl, hb5⟩
  have hX5 := hX4.trans (hb5.mono (by have := hX4.size; simpa using this))
  have hB5 := hb0.trans (hX5.mono (Nat.le_succ _))
  clear q q0 q1 q2
  obtain ⟨q, q0, q1, q2⟩ := box3 hX5
  go_wp2_with fail
  refine (hn _ hB5).mono ?_
  rintro e w6 ⟨rfl, hb6⟩
  have hX6 := hX5.trans (hb6.mono (by have := hX5.size; simpa using this))
  have hB6 := hb0.trans (hX6.mono (Nat.le_succ _))
  clear q q0 q1 q2
  obtain ⟨q, q0, q1, q2⟩ := box3 hX6
  go_wp2_with fail
  refine (hty _ hB6).mono ?_
  rintro e w7 ⟨rfl, hb7⟩
  have hB7 := hB6.trans (hb7.mono hB6.size)
  have HB7 := Lib.hid hB7
  clear q q0 q1 q2 hb4 hb5 hb6 hb7 hX4 hX5 hX6 hB4 hB5 hB6 hB7 hlv hfw hn hty hb0 hU hF
  have h1 := headsNil_calls (w := w7) w7 (Below.refl _ _)
  go_wp2_with fail
  refine h1.mono ?_
  rintro e w8 ⟨v8, rfl, ho8, hb8⟩
  obtain ⟨A8, c8, rfl⟩ := own_form ho8
  have hz : ([] : List Nat).length = 0 := rfl
  have b0 : ∀ h, bodyL fn2 false h fn2.blocks.length = [] := fun h => if_neg (by simp)
  have h2 := body_calls (nofNil_calls (w := w8) (base := 0) (F := fn2) (h := 0)) (by decide)
  rw [b0] at h2
  go_wp2_with fail
  refine h2.mono ?_
  rintro e w9 ⟨v9, rfl, ho9, hb9⟩
  obtain ⟨A9, c9, rfl⟩ := own_form ho9
  have h3 := latches_calls (nofNil_calls (w := w9) (base := 0) (F := fn2) (h := 0)) (by decide)
  rw [show latchesL fn2 false 0 = [] from if_neg (by simp)] at h3
  go_wp2_with fail
  refine h3.mono ?_
  rintro e w10 ⟨v10, rfl, ho10, hb10⟩
  obtain ⟨A10, c10, rfl⟩ := own_form ho10
  have h4 := exits_calls (nofNil_calls (w := w10) (base := 0) (F := fn2) (h := 0)) (by decide) (fun e => by cases e)
  rw [b0, show outL fn2 false 0 [] = [] from rfl] at h4
  go_wp2_with fail
  refine h4.mono ?_
  rintro e w11 ⟨v11, rfl, ho11, hb11⟩
  obtain ⟨A11, c11, rfl⟩ := own_form ho11
  have hb711 := hb8.trans ((hb9.trans ((hb10.trans (hb11.mono hb10.size)).mono hb9.size)).mono hb8.size)
  have h5 := reducibleNil_calls (w := w11)
  have h6 := depth_calls (w := w11) (nv := .pointer none) (l := []) (b := 0) (f := fun _ => false) headsNil_calls (by simp) (fun h hh => by cases hh)
  clear ho8 ho9 ho10 ho11 hb8 hb9 hb10 hb11 h1 h2 h3 h4 b0
  go_wp2_with fail
  refine h5.mono ?_
  rintro e w12 ⟨rfl, rfl⟩
  go_wp2_with fail
  refine h6.mono ?_
  rintro e w13 ⟨rfl, hb13⟩
  go_wp2
  go_ret
  exact ⟨rfl, HB7.out.trans ((hb711.trans (hb13.mono hb711.size)).mono HB7.out.size)⟩
set_option maxHeartbeats 16000000 in
theorem tells_law {W : World} {fv : Value} {F : PFunc} (hU : Uni W) (hF : FnV W W.heap.size fv F) :
    Calls Tryz.prog 6 #[fv] W fun e w' => e = .returned (.bool true) ∧ Below W.heap.size W w' := by
  have hlv := fun (w : World) (h : Below W.heap.size W w) => livesL_calls hU h
  have hfw := fun (w : World) (h : Below W.heap.size W w) => few_calls hF h
  have hty := fun (w : World) (h : Below W.heap.size W w) => lawTyped_calls hU hF h
  cases hx : fewB F
  · rw [hx] at hfw
    obtain ⟨w, rfl⟩ : ∃ w : World, w = W := ⟨_, rfl⟩
    obtain ⟨A0, c0, A1, c1, A2, c2, rfl, l0, l1, l2, -⟩ := id hF.open_
    unfold Len at *
    have hb0 := (Below.refl w.heap.size w).alloc (Nat.le_refl _) (.cells #[.slice A0 F.vars.length c0, .slice A1 F.params.length c1, .slice A2 F.blocks.length c2] 26)
    clear hx
    go_enter Tryz.func6, Tryz.ntmps6
    go_wp2_with fail
    refine (hlv _ (by (focus repeat (first | assumption | exact Below.refl _ _ | refine Below.drew ?_ | refine Below.alloc ?_ (by first | omega | exact Below.size (by assumption) | (simp; done) | (simp; omega)) _ | refine Below.setCell ?_ (by first | omega | exact Below.size (by assumption) | (simp; done) | (simp; omega)) _ | refine below_setRow ?_ (by first | omega | exact Below.size (by assumption) | (simp; done) | (simp; omega)) _ | (refine Below.trans ?_ (Below.mono (by assumption) ?_); rotate_left; exact (by first | omega | exact Below.size (by assumption) | (simp; done) | (simp; omega))))))).mono ?_
    (rintro e w1 ⟨rfl, hb1⟩; obtain ⟨hc1, hf1⟩ := bcell hb1; have hz1 := hb1.size; try simp at hz1; try have hy1 := Nat.lt_of_succ_le hz1; try have hx1 := Nat.lt_of_succ_lt hy1; try have hw1 := Nat.lt_of_succ_lt hx1)
    go_wp2_with fail
    refine (hfw _ (by (focus repeat (first | assumption | exact Below.refl _ _ | refine Below.drew ?_ | refine Below.alloc ?_ (by first | omega | exact Below.size (by assumption) | (simp; done) | (simp; omega)) _ | refine Below.setCell ?_ (by first | omega | exact Below.size (by assumption) | (simp; done) | (simp; omega)) _ | refine below_setRow ?_ (by first | omega | exact Below.size (by assumption) | (simp; done) | (simp; omega)) _ | (refine Below.trans ?_ (Below.mono (by assumption) ?_); rotate_left; exact (by first | omega | exact Below.size (by assumption) | (simp; done) | (simp; omega))))))).mono ?_
    (rintro e w2 ⟨rfl, hb2⟩; obtain ⟨hc2, hf2⟩ := bcell hb2; have hz2 := hb2.size; try simp at hz2; try have hy2 := Nat.lt_of_succ_le hz2; try have hx2 := Nat.lt_of_succ_lt hy2; try have hw2 := Nat.lt_of_succ_lt hx2)
    go_wp2_with fail
    refine (hlv _ (by (focus repeat (first | assumption | exact Below.refl _ _ | refine Below.drew ?_ | refine Below.alloc ?_ (by first | omega | exact Below.size (by assumption) | (simp; done) | (simp; omega)) _ | refine Below.setCell ?_ (by first | omega | exact Below.size (by assumption) | (simp; done) | (simp; omega)) _ | refine below_setRow ?_ (by first | omega | exact Below.size (by assumption) | (simp; done) | (simp; omega)) _ | (refine Below.trans ?_ (Below.mono (by assumption) ?_); rotate_left; exact (by first | omega | exact Below.size (by assumption) | (simp; done) | (simp; omega))))))).mono ?_
    (rintro e w3 ⟨rfl, hb3⟩; obtain ⟨hc3, hf3⟩ := bcell hb3; have hz3 := hb3.size; try simp at hz3; try have hy3 := Nat.lt_of_succ_le hz3; try have hx3 := Nat.lt_of_succ_lt hy3; try have hw3 := Nat.lt_of_succ_lt hx3)
    go_wp2
    go_ret
    exact ⟨rfl, by (focus repeat (first | assumption | exact Below.refl _ _ | refine Below.drew ?_ | refine Below.alloc ?_ (by first | omega | exact Below.size (by assumption) | (simp; done) | (simp; omega)) _ | refine Below.setCell ?_ (by first | omega | exact Below.size (by assumption) | (simp; done) | (simp; omega)) _ | refine below_setRow ?_ (by first | omega | exact Below.size (by assumption) | (simp; done) | (simp; omega)) _ | (refine Below.trans ?_ (Below.mono (by assumption) ?_); rotate_left; exact (by first | omega | exact Below.size (by assumption) | (simp; done) | (simp; omega)))))⟩
  cases hT : typedP F
  · exact tellsNil_law hU hF hx hT
  rw [hx] at hfw
  rw [show lawT F = true by unfold lawT; rw [hT, hx]; rfl] at hty
  obtain ⟨w, rfl⟩ : ∃ w : World, w = W := ⟨_, rfl⟩
  have hS := few_small hx
  obtain ⟨n1, n2⟩ := shaped_count (typed_shaped hT)
  have hn := fun (w' : World) (h : Below w.heap.size w w') => loopNew_calls hU hF h hS hT
  have htb := fun (w' : World) (h : Below w.heap.size w w') => table_calls hF h hT
  have hbo := fun (w' : World) (h : Below w.heap.size w w') => bodies_calls hF h hT
  have HLA := Lib.hid (fun (w' : World) (hw : Below w.heap.size w w') (b0 c : Nat) (h2 : TabR w' b0 F.blocks.length (tabB F)) (h b : Nat) (hh : h < F.blocks.length) (hb : b < F.blocks.length) => latch_calls (c := c) hF hw n2 h2 h b hh hb)
  have HT := Lib.hid hT
  obtain ⟨A0, c0, A1, c1, A2, c2, rfl, l0, l1, l2, -⟩ := id hF.open_
  unfold Len at *
  have hb0 := (Below.refl w.heap.size w).alloc (Nat.le_refl _) (.cells #[.slice A0 F.vars.length c0, .slice A1 F.params.length c1, .slice A2 F.blocks.length c2] 26)
  clear hx hT hS
  go_enter Tryz.func6, Tryz.ntmps6
  go_wp2_with fail
  refine (hlv _ (by (focus repeat (first | assumption | exact Below.refl _ _ | refine Below.drew ?_ | refine Below.alloc ?_ (by first | omega | exact Below.size (by assumption) | (simp; done) | (simp; omega)) _ | refine Below.setCell ?_ (by first | omega | exact Below.size (by assumption) | (simp; done) | (simp; omega)) _ | refine below_setRow ?_ (by first | omega | exact Below.size (by assumption) | (simp; done) | (simp; omega)) _ | (refine Below.trans ?_ (Below.mono (by assumption) ?_); rotate_left; exact (by first | omega | exact Below.size (by assumption) | (simp; done) | (simp; omega))))))).mono ?_
  rintro e w4 ⟨rfl, hb4⟩
  have hX4 : Below (w.heap.size + 1) (w.alloc (.cells #[.slice A0 F.vars.length c0, .slice A1 F.params.length c1, .slice A2 F.blocks.length c2] 26)) w4 := by simpa using hb4
  have hB4 := hb0.trans (hX4.mono (Nat.le_succ _))
  obtain ⟨q, q0, q1, q2⟩ := box3 hX4
  go_wp2_with fail
  refine (hfw _ hB4).mono ?_
  rintro e w5 ⟨rfl, hb5⟩
  have hX5 := hX4.trans (hb5.mono (by have := hX4.size; simpa using this))
  have hB5 := hb0.trans (hX5.mono (Nat.le_succ _))
  clear q q0 q1 q2
  obtain ⟨q, q0, q1, q2⟩ := box3 hX5
  go_wp2_with fail
  refine (hn _ hB5).mono ?_
  rintro e w6 ⟨nb, mb, ve, vs, es, clk, rfl, hN, hb6⟩
  have hX6 := hX5.trans (hb6.mono (by have := hX5.size; simpa using this))
  have hB6 := hb0.trans (hX6.mono (Nat.le_succ _))
  clear q q0 q1 q2
  obtain ⟨q, q0, q1, q2⟩ := box3 hX6
  go_wp2_with fail
  refine (hty _ hB6).mono ?_
  rintro e w7 ⟨rfl, hb7⟩
  have hX7 := hX6.trans (hb7.mono (by have := hX6.size; simpa using this))
  have hB7 := hb0.trans (hX7.mono (Nat.le_succ _))
  have hN7 := hN.below hb7
  clear q q0 q1 q2
  obtain ⟨q, q0, q1, q2⟩ := box3 hX7
  clear hb4 hb5 hb6 hb7 hX4 hX5 hX6 hB4 hB5 hB6 hlv hfw hn hty hb0 hN
  go_upto_region 8 with fail
  go_cut [5, 6] (fun s5 s6 wx => PostTB F w7 wx s5 s6 ∧ Below w7.heap.size w7 wx)
  case first => as_aux_lemma =>
    obtain ⟨S0, hS0⟩ : ∃ S0 : World → Prop, S0 = fun w' => w'.cell? ⟨w.heap.size, 0, none⟩ = some (.slice A0 F.vars.length c0) ∧ w'.cell? ⟨w.heap.size, 1, none⟩ = some (.slice A1 F.params.length c1) ∧ w'.cell? ⟨w.heap.size, 2, none⟩ = some (.slice A2 F.blocks.length c2) ∧ Below w7.heap.size w7 w' ∧ w.heap.size < w'.heap.size := ⟨_, rfl⟩
    have HS0 := Lib.hid hS0
    clear hS0
    have k0 : ∀ xw : WS S0, xw.w.cell? ⟨w.heap.size, 0, none⟩ = some (.slice A0 F.vars.length c0) := fun xw => by have hp := cast (congrFun HS0.out xw.w) xw.h; exact hp.1
    have k1 : ∀ xw : WS S0, xw.w.cell? ⟨w.heap.size, 1, none⟩ = some (.slice A1 F.params.length c1) := fun xw => by have hp := cast (congrFun HS0.out xw.w) xw.h; exact hp.2.1
    have k2 : ∀ xw : WS S0, xw.w.cell? ⟨w.heap.size, 2, none⟩ = some (.slice A2 F.blocks.length c2) := fun xw => by have hp := cast (congrFun HS0.out xw.w) xw.h; exact hp.2.2.1
    have k3 : ∀ xw : WS S0, Below w7.heap.size w7 xw.w := fun xw => by have hp := cast (congrFun HS0.out xw.w) xw.h; exact hp.2.2.2.1
    have k4 : ∀ xw : WS S0, w.heap.size < xw.w.heap.size := fun xw => by have hp := cast (congrFun HS0.out xw.w) xw.h; exact hp.2.2.2.2
    refine wp_region_tree (S := S0) (by kernel_rfl) ?hS (fun hSc => ?_)
    case hS =>
      rw [HS0.out]
      refine ⟨?_, ?_, ?_, ?_, ?_⟩
      · first | assumption | (go_keep; done) | (go_simp; done)
      · first | assumption | (go_keep; done) | (go_simp; done)
      · first | assumption | (go_keep; done) | (go_simp; done)
      · (focus repeat (first | assumption | exact Below.refl _ _ | refine Below.drew ?_ | refine Below.alloc ?_ (by first | omega | exact Below.size (by assumption) | (simp; done) | (simp; omega)) _ | refine Below.setCell ?_ (by first | omega | exact Below.size (by assumption) | (simp; done) | (simp; omega)) _ | refine below_setRow ?_ (by first | omega | exact Below.size (by assumption) | (simp; done) | (simp; omega)) _ | (refine Below.trans ?_ (Below.mono (by assumption) ?_); rotate_left; exact (by first | omega | exact Below.size (by assumption) | (simp; done) | (simp; omega)))))
      · first | omega | (rw [heap_drew]; omega) | (simp; done) | (simp; omega)
    have hne0 : Nonempty (WS S0) := ⟨⟨_, hSc⟩⟩
    refine wpTree_run [(0, false), (2, false), (1, true), (3, true), (4, false), (5, false)] 0 rfl (by kernel_rfl) (fun _ _ _ _ _ h => h) hSc ?_
    simp only [List.map_cons, List.map_nil, List.getD_cons_succ, List.getD_cons_zero]
    refine wpSchR_looks (L1 := [(_, false), (_, false)]) (L2 := _) rfl ?_
    simp only [List.map_cons, List.map_nil]
    iterate 2 (go_big_quiet_step (fail))
    refine wpQuiet_nil ?_
    (try dsimp only)
    refine wpSchR_act rfl (fun K hK => ?_)
    go_simp
    (try go_wp2_with (first | (go_at_call 26; refine (htb _ (by (focus repeat (first | assumption | exact Below.refl _ _ | refine Below.drew ?_ | refine Below.alloc ?_ (by first | omega | exact Below.size (by assumption) | (simp; done) | (simp; omega)) _ | refine Below.setCell ?_ (by first | omega | exact Below.size (by assumption) | (simp; done) | (simp; omega)) _ | refine below_setRow ?_ (by first | omega | exact Below.size (by assumption) | (simp; done) | (simp; omega)) _ | (refine Below.trans ?_ (Below.mono (by assumption) ?_); rotate_left; exact (by first | omega | exact Below.size (by assumption) | (simp; done) | (simp; omega))))))).mono ?_; rintro e wt ⟨vt, rfl, hTV, hbt⟩; obtain ⟨tb0, tc, rfl, htc, hTab⟩ := hTV.open_; have hb9 := hbt; obtain ⟨hc9, hf9⟩ := bcell hb9; have hz9 := hb9.size; (try simp at hz9)) | (go_at_call 27; refine (hbo _ (by (focus repeat (first | assumption | exact Below.refl _ _ | refine Below.drew ?_ | refine Below.alloc ?_ (by first | omega | exact Below.size (by assumption) | (simp; done) | (simp; omega)) _ | refine Below.setCell ?_ (by first | omega | exact Below.size (by assumption) | (simp; done) | (simp; omega)) _ | refine below_setRow ?_ (by first | omega | exact Below.size (by assumption) | (simp; done) | (simp; omega)) _ | (refine Below.trans ?_ (Below.mono (by assumption) ?_); rotate_left; exact (by first | omega | exact Below.size (by assumption) | (simp; done) | (simp; omega))))))).mono ?_; rintro e wb ⟨vb, vbs, rfl, hBV, hbb⟩; obtain ⟨Ab, cb, rfl⟩ := own_form hBV.1; have hb9 := hbb; obtain ⟨hc9, hf9⟩ := bcell hb9; have hz9 := hb9.size; (try simp at hz9))))
    refine hK.out _ _ ?hS (fun hSc => ?_)
    case hS =>
      first
      | exact hSc
      | (rw [HS0.out] at hSc ⊢; obtain ⟨p0, p1, p2, p3, p4⟩ := hSc; exact ⟨(hc9 _ _ (by first | assumption | omega)).trans p0, (hc9 _ _ (by first | assumption | omega)).trans p1, (hc9 _ _ (by first | assumption | omega)).trans p2, p3.trans (hb9.mono (by have := p3.size; first | omega | (simp at this ⊢; omega))), Nat.lt_of_lt_of_le p4 hb9.size⟩)
    clear hK K
    refine wpSchR_act rfl (fun K hK => ?_)
    go_simp
    (try go_wp2_with (first | (go_at_call 26; refine (htb _ (by (focus repeat (first | assumption | exact Below.refl _ _ | refine Below.drew ?_ | refine Below.alloc ?_ (by first | omega | exact Below.size (by assumption) | (simp; done) | (simp; omega)) _ | refine Below.setCell ?_ (by first | omega | exact Below.size (by assumption) | (simp; done) | (simp; omega)) _ | refine below_setRow ?_ (by first | omega | exact Below.size (by assumption) | (simp; done) | (simp; omega)) _ | (refine Below.trans ?_ (Below.mono (by assumption) ?_); rotate_left; exact (by first | omega | exact Below.size (by assumption) | (simp; done) | (simp; omega))))))).mono ?_; rintro e wt ⟨vt, rfl, hTV, hbt⟩; obtain ⟨tb0, tc, rfl, htc, hTab⟩ := hTV.open_; have hb9 := hbt; obtain ⟨hc9, hf9⟩ := bcell hb9; have hz9 := hb9.size; (try simp at hz9)) | (go_at_call 27; refine (hbo _ (by (focus repeat (first | assumption | exact Below.refl _ _ | refine Below.drew ?_ | refine Below.alloc ?_ (by first | omega | exact Below.size (by assumption) | (simp; done) | (simp; omega)) _ | refine Below.setCell ?_ (by first | omega | exact Below.size (by assumption) | (simp; done) | (simp; omega)) _ | refine below_setRow ?_ (by first | omega | exact Below.size (by assumption) | (simp; done) | (simp; omega)) _ | (refine Below.trans ?_ (Below.mono (by assumption) ?_); rotate_left; exact (by first | omega | exact Below.size (by assumption) | (simp; done) | (simp; omega))))))).mono ?_; rintro e wb ⟨vb, vbs, rfl, hBV, hbb⟩; obtain ⟨Ab, cb, rfl⟩ := own_form hBV.1; have hb9 := hbb; obtain ⟨hc9, hf9⟩ := bcell hb9; have hz9 := hb9.size; (try simp at hz9))))
    refine hK.out _ _ ?hS (fun hSc => ?_)
    case hS =>
      first
      | exact hSc
      | (rw [HS0.out] at hSc ⊢; obtain ⟨p0, p1, p2, p3, p4⟩ := hSc; exact ⟨(hc9 _ _ (by first | assumption | omega)).trans p0, (hc9 _ _ (by first | assumption | omega)).trans p1, (hc9 _ _ (by first | assumption | omega)).trans p2, p3.trans (hb9.mono (by have := p3.size; first | omega | (simp at this ⊢; omega))), Nat.lt_of_lt_of_le p4 hb9.size⟩)
    clear hK K
    refine wpSchR_looks (L1 := [(_, false), (_, false)]) (L2 := _) rfl ?_
    simp only [List.map_cons, List.map_nil]
    iterate 2 (go_big_quiet_step (fail))
    refine wpQuiet_nil ?_
    (try dsimp only)
    refine wpSchR_nil ?_
    intro hSc
    refine wpTree_end (by kernel_rfl) ?_
    rw [HS0.out] at hSc
    obtain ⟨p0, p1, p2, p3, p4⟩ := hSc
    clear hne0 HS0 k0 k1 k2 k3 k4
    go_wp2_with fail
    go_meet
    refine ⟨⟨⟨tb0, tc, rfl, ?_⟩, vbs, ?_⟩, by assumption⟩
    · first | exact hTab | exact hTab.below hbb
    · first | exact hBV.base hbt.size | exact (hBV.base (Nat.le_refl _)).below hbt
  case rest => as_aux_lemma =>
    obtain ⟨⟨⟨tb0, tc, rfl, hTab⟩, vbs, hBV⟩, hb8⟩ := hcut
    obtain ⟨w8, rfl⟩ : ∃ wA : World, wA = wc := ⟨_, rfl⟩
    obtain ⟨gb, cb, rfl, -, -⟩ := own_pos hBV.1 n1
    have hX8 := hX7.trans (hb8.mono (by have := hX7.size; simpa using this))
    have hB8 := hB7.trans (hb8.mono hB7.size)
    have hN8 := hN7.below hb8
    have hhd := heads_calls hN8 n1 n2 w8 (Below.refl _ _)
    have HIN := Lib.hid (fun (wr : World) (h : Below w8.heap.size w8 wr) (a : Int) (ha1 : -1 ≤ a) (ha2 : a ≤ 64) => nof_calls (hN8.below h) n2 a ha1 ha2)
    have HTab := Lib.hid hTab
    have HBV := Lib.hid hBV
    have HX8 := Lib.hid hX8
    have HB8 := Lib.hid hB8
    clear q q0 q1 q2 htb hbo hN7 hN8 hTab hBV hb8 hX8 hB8 hX7 hB7
    go_wp2_with fail
    refine hhd.mono ?_
    rintro e w9 ⟨v9, rfl, ho9, hb9⟩
    obtain ⟨Ah, ch, rfl⟩ := own_form ho9
    have HO9 := Lib.hid ho9
    have HB9 := Lib.hid hb9
    have hhl := headsL_le (F := F) (n := F.blocks.length)
    obtain ⟨q, q0, q1, q2⟩ := box3 (HX8.out.trans (hb9.mono (by have := HX8.out.size; simpa using this)))
    clear hhd ho9 hb9
    go_wp2
    clear q q0 q1 q2
    go_loopw [82, 8] (fun x x8 wr => ∃ h : Nat, x = .int .i64 h ∧ x8 = .int .i64 ((headsL F h).length : Nat) ∧ h ≤ F.blocks.length ∧ Below w9.heap.size w9 wr) (fun x _ _ => F.blocks.length - (intOf x).toNat)
    case atStart => exact ⟨0, rfl, rfl, Nat.zero_le _, Below.refl _ _⟩
    case round => as_aux_lemma =>
      obtain ⟨h, rfl, rfl, hh, hb⟩ := hrel
      have hb89 := HB9.out.trans (hb.mono HB9.out.size)
      have hB := HB8.out.trans (hb89.mono HB8.out.size)
      obtain ⟨q, q0, q1, q2⟩ := box3 (HX8.out.trans (hb89.mono (by have := HX8.out.size; simpa using this)))
      by_cases hlt : h < F.blocks.length
      · have hhn : (h : Int) < (F.blocks.length : Int) := by omega
        have hO := HIN.out wr hb89 (h : Int) (by omega) (by omega)
        rw [hdB_head hlt] at hO
        have hla := latches_calls hO n2
        rw [latchesL_of] at hla
        have hst := heads_step (F := F) (h := h)
        have hBV := HBV.out.below hb89
        obtain ⟨x, hx⟩ : ∃ x, vbs[h]? = some x := ⟨_, List.getElem?_eq_getElem (by have := hBV.1.1; omega)⟩
        have hrow := hBV.2 h x hx
        have hcx := hBV.1.cellAt h (by omega)
        rw [hx] at hcx
        have hgb := (hBV.1.lt gb rfl).2
        obtain ⟨Ax, cx, rfl⟩ := own_form hrow
        have hh1 : (headsL F h).length ≤ h := headsL_le
        obtain ⟨T, hT'⟩ : ∃ T, hdB F h = T := ⟨_, rfl⟩
        have HTT := Lib.hid hT'
        have HBR := Lib.hid hb
        have HO := Lib.hid hO
        clear hT' hBV hx hb hO
        cases T
        · as_aux_lemma =>
          have e1 : (List.range F.blocks.length).filter (latB F h) = [] := by rw [← latchesL_of, HTT.out]; exact if_neg (by simp)
          have hbr : bodyRow F h = [] := by unfold bodyRow; rw [HTT.out]; exact if_neg (by simp)
          rw [e1] at hla
          rw [hbr] at hcx
          have HST := Lib.hid (show (headsL F (h + 1)).length = (headsL F h).length by rw [hst, HTT.out]; rfl)
          generalize (headsL F h).length = at0 at *
          clear e1 hbr hst hrow
          go_wp2_with fail
          refine hla.mono ?_
          rintro e w10 ⟨v10, rfl, ho10, hb10⟩
          obtain ⟨A10, c10, rfl⟩ := own_form ho10
          have hbd := body_calls (fun W' hW' => HO.out W' (hb10.trans (hW'.mono hb10.size)) : OfC w10 _ _ F (hdB F h) h) n2
          rw [body_no HTT.out] at hbd
          go_wp2_with fail
          refine hbd.mono ?_
          rintro e w11 ⟨v11, rfl, ho11, hb11⟩
          obtain ⟨A11, c11, rfl⟩ := own_form ho11
          have hb1011 := hb10.trans (hb11.mono hb10.size)
          have k1 := (hb1011.cell (p := ⟨gb, h, none⟩) hgb).trans hcx
          have k2 := Nat.lt_of_lt_of_le hgb hb1011.size
          have hin := nin_calls (b := (h : Int)) (fun W' hW' => HO.out W' (hb1011.trans (hW'.mono hb1011.size)) : OfC w11 _ _ F (hdB F h) h)
          rw [show lpB F (hdB F h) (h : Int) (h : Int) = false by rw [HTT.out]; simp [lpB]] at hin
          clear ho10 ho11 hb11 hbd hla
          go_wp2_with fail
          refine hin.mono ?_
          rintro e w12 ⟨rfl, hb12⟩
          have hb1012 := hb1011.trans (hb12.mono hb1011.size)
          go_wp2
          go_roundw
          case rel => exact ⟨h + 1, by go_num, by rw [HST.out], by omega, HBR.out.trans (hb1012.mono HBR.out.size)⟩
          case measure => simp [intOf]; omega
        · as_aux_lemma =>
          have hbr : (bodyRow F h).length = F.blocks.length := by unfold bodyRow; rw [HTT.out, if_pos rfl, lpL_len]
          have HRW := Lib.hid (show wr.ownsRow w7.heap.size 4 1 (.slice Ax F.blocks.length cx) F.blocks.length ((lpL F (latL F h) h).map Value.bool) by rw [hbr] at hrow; rw [show bodyRow F h = lpL F (latL F h) h by unfold bodyRow; rw [HTT.out]; exact if_pos rfl] at hrow; exact hrow)
          rw [hbr] at hcx
          have HST := Lib.hid (show (headsL F (h + 1)).length = (headsL F h).length + 1 by rw [hst, HTT.out]; rfl)
          have hat : (headsL F F.blocks.length)[(headsL F h).length]? = some h := by rw [headsL_filt, headsL_filt]; exact filt_at hlt HTT.out
          have hatl : (headsL F h).length < (headsL F F.blocks.length).length := (List.getElem?_eq_some_iff.1 hat).1
          have ho9 := own_below HO9.out HBR.out
          obtain ⟨gh, ch', hvh, hghl, -⟩ := own_pos ho9 (by omega)
          cases hvh
          have hcat := ho9.cellAt (headsL F h).length (by omega)
          rw [show ((ints (headsL F F.blocks.length)).map (Value.int .i64))[(headsL F h).length]? = some (.int .i64 (h : Int)) by simp [ints, hat]] at hcat
          have f1 : ((headsL F h).length : Int) < ((headsL F F.blocks.length).length : Int) := by omega
          have f2 : decide (((headsL F F.blocks.length).length : Int) ≤ ((headsL F h).length : Int)) = false := decide_eq_false (by omega)
          have f3 : ((F.blocks.length : Int) == 0) = false := by rw [beq_eq_false_iff_ne]; omega
          clear hbr hst hrow hat ho9
          generalize (headsL F F.blocks.length).length = nh at *
          generalize (headsL F h).length = at0 at *
          have f4 : decide (nh ≤ at0) = false := decide_eq_false (by omega)
          have f5 : ¬ nh ≤ at0 := by omega
          obtain ⟨Ll, hLl⟩ : ∃ Ll, (List.range F.blocks.length).filter (latB F h) = Ll := ⟨_, rfl⟩
          obtain ⟨Lb, hLb⟩ : ∃ Lb, (List.range F.blocks.length).filter (inR F h) = Lb := ⟨_, rfl⟩
          have hlln : Ll.length ≤ F.blocks.length := by rw [← hLl]; exact flt_le
          have hlbn : Lb.length ≤ F.blocks.length := by rw [← hLb]; exact flt_le
          rw [hLl] at hla
          have HLL := Lib.hid hLl
          have HLB := Lib.hid hLb
          clear hLl hLb
          go_wp2_with fail
          refine hla.mono ?_
          rintro e w10 ⟨v10, rfl, ho10, hb10⟩
          obtain ⟨A10, c10, rfl⟩ := own_form ho10
          have hbd := body_calls (fun W' hW' => HO.out W' (hb10.trans (hW'.mono hb10.size)) : OfC w10 _ _ F (hdB F h) h) n2
          rw [body_of HTT.out, HLB.out] at hbd
          go_wp2_with fail
          refine hbd.mono ?_
          rintro e w11 ⟨v11, rfl, ho11, hb11⟩
          obtain ⟨A11, c11, rfl⟩ := own_form ho11
          have hb1011 := hb10.trans (hb11.mono hb10.size)
          have k1 := (hb1011.cell (p := ⟨gb, h, none⟩) hgb).trans hcx
          have k2 := Nat.lt_of_lt_of_le hgb hb1011.size
          have k3 := (hb1011.cell (p := ⟨gh, at0, none⟩) hghl).trans hcat
          have k4 := Nat.lt_of_lt_of_le hghl hb1011.size
          have h9_11 := HBR.out.trans (hb1011.mono HBR.out.size)
          have h8_11 := HB9.out.trans (h9_11.mono HB9.out.size)
          have hX11 := HX8.out.trans (h8_11.mono (by have := HX8.out.size; simpa using this))
          obtain ⟨p, p0, p1, p2⟩ := box3 hX11
          have HX11 := Lib.hid hX11
          have H811 := Lib.hid h8_11
          have H911w := Lib.hid hb1011
          have HO11 := Lib.hid (fun (W' : World) (hW' : Below w11.heap.size w11 W') => HO.out W' (hb1011.trans (hW'.mono hb1011.size)))
          have H10 := Lib.hid (own_below ho10 hb11)
          have H11 := Lib.hid ho11
          have HRW11 := Lib.hid (own_below HRW.out hb1011)
          have hm1 : h ∈ Lb := by rw [← HLB.out]; exact List.mem_filter.2 ⟨List.mem_range.2 hlt, inR_self hlt⟩
          have hm2 : 0 < Ll.length := by
            rw [← HLL.out, ← latL_filt]
            exact of_decide_eq_true HTT.out
          have HCX := Lib.hid k1
          have HGB := Lib.hid k2
          have hm1' : 0 < Lb.length := List.length_pos_of_mem hm1
          clear ho10 ho11 hb11 hbd hla hb1011 h9_11 h8_11 hX11 hcx hgb hcat hghl hm1 q q0 q1 q2 hb10
          go_wp2
          clear p p0 p1 p2 k1 k2 k3 k4 f1 f2 f3 f4 f5
          go_loopw [128, 12, 13] (fun x x12 x13 wr => ∃ b : Nat, x = .int .i64 b ∧ x12 = .int .i64 (((List.range b).filter (latB F h)).length : Nat) ∧ x13 = .int .i64 (((List.range b).filter (inR F h)).length : Nat) ∧ b ≤ F.blocks.length ∧ Below w11.heap.size w11 wr) (fun x _ _ _ => F.blocks.length - (intOf x).toNat)
          case atStart => exact ⟨0, rfl, rfl, rfl, Nat.zero_le _, Below.refl _ _⟩
          case round => as_aux_lemma =>
            obtain ⟨b, rfl, rfl, rfl, hbl, hb⟩ := hrel
            have hb811 := H811.out.trans (hb.mono H811.out.size)
            obtain ⟨p, p0, p1, p2⟩ := box3 (HX11.out.trans (hb.mono (by have := HX11.out.size; simpa using this)))
            by_cases hbt : b < F.blocks.length
            · have hbn : (b : Int) < (F.blocks.length : Int) := by omega
              have hlat := HLA.out wr (HB8.out.trans (hb811.mono HB8.out.size)) tb0 tc (HTab.out.below hb811) h b hlt hbt
              have hin := fun (W' : World) (hW' : Below wr.heap.size wr W') => nin_calls (b := (b : Int)) (fun W2 hW2 => HO11.out W2 (hb.trans ((hW'.trans (hW2.mono hW'.size)).mono hb.size)) : OfC W' _ _ F (hdB F h) h)
              rw [lpB_of hbt, HTT.out, Bool.true_and] at hin
              have ho10 := own_below H10.out hb
              have ho11 := own_below H11.out hb
              have horw := own_below HRW11.out hb
              obtain ⟨g10, c10', hv10, hg10, -⟩ := own_pos ho10 (by omega)
              cases hv10
              obtain ⟨g11, c11', hv11, hg11, -⟩ := own_pos ho11 (by omega)
              cases hv11
              obtain ⟨gx, cx', hvx, hgx, -⟩ := own_pos horw n1
              cases hvx
              have j1 := (hb.cell (p := ⟨gb, h, none⟩) HGB.out).trans HCX.out
              have j2 := Nat.lt_of_lt_of_le HGB.out hb.size
              have j3 : wr.cell? ⟨gx, b, none⟩ = some (.bool (inR F h b)) := own_bool horw hbt
              have s1 := flt_step (b := b) (f := latB F h)
              have s2 := flt_step (b := b) (f := inR F h)
              have l1 := flt_le (b := b) (f := latB F h)
              have l2 := flt_le (b := b) (f := inR F h)
              have a1 : latB F h b = true → Ll[((List.range b).filter (latB F h)).length]? = some b := fun e => by rw [← HLL.out]; exact filt_at hbt e
              have a2 : inR F h b = true → Lb[((List.range b).filter (inR F h)).length]? = some b := fun e => by rw [← HLB.out]; exact filt_at hbt e
              have S1 := Lib.hid s1
              have S2 := Lib.hid s2
              obtain ⟨y1, hy1⟩ : ∃ y, latB F h b = y := ⟨_, rfl⟩
              obtain ⟨y2, hy2⟩ : ∃ y, inR F h b = y := ⟨_, rfl⟩
              rw [hy1] at hlat a1
              rw [hy2] at hin j3 a2
              have Y1 := Lib.hid hy1
              have Y2 := Lib.hid hy2
              have HB := Lib.hid hb
              clear s1 s2 hy1 hy2 horw hb hb811
              generalize ((List.range b).filter (latB F h)).length = N1 at *
              generalize ((List.range b).filter (inR F h)).length = N2 at *
              have c1 : y1 = false ∨ y1 = true ∧ (N1 : Int) < (Ll.length : Int) ∧ decide ((Ll.length : Int) ≤ (N1 : Int)) = false ∧ wr.cell? ⟨g10, N1, none⟩ = some (.int .i64 (b : Int)) := by
                cases y1
                · exact .inl rfl
                · have h1 := a1 rfl
                  have h2 := (List.getElem?_eq_some_iff.1 h1).1
                  refine .inr ⟨rfl, by omega, decide_eq_false (by omega), ?_⟩
                  rw [ho10.cellAt N1 (by omega)]
                  simp [ints, h1]
              have c2 : y2 = false ∨ y2 = true ∧ (N2 : Int) < (Lb.length : Int) ∧ decide ((Lb.length : Int) ≤ (N2 : Int)) = false ∧ wr.cell? ⟨g11, N2, none⟩ = some (.int .i64 (b : Int)) := by
                cases y2
                · exact .inl rfl
                · have h1 := a2 rfl
                  have h2 := (List.getElem?_eq_some_iff.1 h1).1
                  refine .inr ⟨rfl, by omega, decide_eq_false (by omega), ?_⟩
                  rw [ho11.cellAt N2 (by omega)]
                  simp [ints, h1]
              clear a1 a2 ho10 ho11
              rcases c1 with rfl | ⟨rfl, mu1, mu2, mu3⟩
              all_goals
                as_aux_lemma =>
                go_wp2_with fail
                refine hlat.mono ?_
                rintro e w12 ⟨rfl, hb12⟩
                have hin2 := fun (W' : World) (hW' : Below w12.heap.size w12 W') => hin W' (hb12.trans (hW'.mono hb12.size))
                obtain ⟨hc12, hf12⟩ := bcell hb12
                have t1 := (hc12 _ _ j2).trans j1
                have t2 := Nat.lt_of_lt_of_le j2 hb12.size
                have t3 := (hc12 _ _ hgx).trans j3
                have t4 := Nat.lt_of_lt_of_le hgx hb12.size
                have t5 := Nat.lt_of_lt_of_le hg10 hb12.size
                have t6 := Nat.lt_of_lt_of_le hg11 hb12.size
                have t7 := Nat.lt_of_lt_of_le p hb12.size
                (try have t8 := (hc12 _ _ hg10).trans mu3)
                obtain ⟨o11, ho11⟩ : ∃ o, w12.cell? ⟨g11, N2, none⟩ = o := ⟨_, rfl⟩
                have HV3 := Lib.hid (show wr.cell? ⟨g11, N2, none⟩ = some (.int .i64 (b : Int)) → o11 = some (.int .i64 (b : Int)) from fun hv => by rw [← ho11, hc12 _ _ hg11, hv])
                clear hc12 hf12 hlat hin p p0 p1 p2 j1 j2 j3
                (try clear mu3)
                go_wp2_with fail
                obtain ⟨S0, hS0⟩ : ∃ S0 : World → Prop, S0 = fun w' => w'.cell? ⟨gb, h, none⟩ = some (.slice (some ⟨gx, 0, none⟩) F.blocks.length cx) ∧ w'.cell? ⟨gx, b, none⟩ = some (.bool y2) ∧ w'.cell? ⟨g11, N2, none⟩ = o11 ∧ Below w12.heap.size w12 w' ∧ gb < w'.heap.size ∧ gx < w'.heap.size ∧ g11 < w'.heap.size := ⟨_, rfl⟩
                have HS0 := Lib.hid hS0
                clear hS0
                have k0 : ∀ xw : WS S0, xw.w.cell? ⟨gb, h, none⟩ = some (.slice (some ⟨gx, 0, none⟩) F.blocks.length cx) := fun xw => by have hp := cast (congrFun HS0.out xw.w) xw.h; exact hp.1
                have k1 : ∀ xw : WS S0, xw.w.cell? ⟨gx, b, none⟩ = some (.bool y2) := fun xw => by have hp := cast (congrFun HS0.out xw.w) xw.h; exact hp.2.1
                have k2 : ∀ xw : WS S0, xw.w.cell? ⟨g11, N2, none⟩ = o11 := fun xw => by have hp := cast (congrFun HS0.out xw.w) xw.h; exact hp.2.2.1
                have k3 : ∀ xw : WS S0, Below w12.heap.size w12 xw.w := fun xw => by have hp := cast (congrFun HS0.out xw.w) xw.h; exact hp.2.2.2.1
                have k4 : ∀ xw : WS S0, gb < xw.w.heap.size := fun xw => by have hp := cast (congrFun HS0.out xw.w) xw.h; exact hp.2.2.2.2.1
                have k5 : ∀ xw : WS S0, gx < xw.w.heap.size := fun xw => by have hp := cast (congrFun HS0.out xw.w) xw.h; exact hp.2.2.2.2.2.1
                have k6 : ∀ xw : WS S0, g11 < xw.w.heap.size := fun xw => by have hp := cast (congrFun HS0.out xw.w) xw.h; exact hp.2.2.2.2.2.2
                refine wp_region_sched (S := S0) [0, 1, 2, 4, 5, 6, 7, 8, 9, 10, 3, 11] (by kernel_rfl) (by kernel_rfl) (fun _ _ _ _ _ h => h) ?hS (fun hSc => ?_)
                case hS =>
                  rw [HS0.out]
                  refine ⟨?_, ?_, ?_, ?_, ?_, ?_, ?_⟩
                  · first | assumption | (go_keep; done) | (go_simp; done)
                  · first | assumption | (go_keep; done) | (go_simp; done)
                  · first | assumption | (go_keep; done) | (go_simp; done)
                  · (focus repeat (first | assumption | exact Below.refl _ _ | refine Below.drew ?_ | refine Below.alloc ?_ (by first | omega | exact Below.size (by assumption) | (simp; done) | (simp; omega)) _ | refine Below.setCell ?_ (by first | omega | exact Below.size (by assumption) | (simp; done) | (simp; omega)) _ | refine below_setRow ?_ (by first | omega | exact Below.size (by assumption) | (simp; done) | (simp; omega)) _ | (refine Below.trans ?_ (Below.mono (by assumption) ?_); rotate_left; exact (by first | omega | exact Below.size (by assumption) | (simp; done) | (simp; omega)))))
                  · first | omega | (rw [heap_drew]; omega) | (simp; done) | (simp; omega)
                  · first | omega | (rw [heap_drew]; omega) | (simp; done) | (simp; omega)
                  · first | omega | (rw [heap_drew]; omega) | (simp; done) | (simp; omega)
                have hne0 : Nonempty (WS S0) := ⟨⟨_, hSc⟩⟩
                simp only [List.map_cons, List.map_nil, List.getD_cons_succ, List.getD_cons_zero]
                refine wpSch_looks (L1 := [_, _, _, _, _, _, _, _, _, _]) (L2 := _) rfl ?_
                iterate 10 (go_big_quiet_step (fail))
                refine wpQuiet_nil ?_
                (try dsimp only)
                refine wpSch_act rfl rfl (fun K hK => ?_)
                go_simp
                go_wp2_with (go_at_call 16; refine (hin2 _ (by (focus repeat (first | assumption | exact Below.refl _ _ | refine Below.drew ?_ | refine Below.alloc ?_ (by first | omega | exact Below.size (by assumption) | (simp; done) | (simp; omega)) _ | refine Below.setCell ?_ (by first | omega | exact Below.size (by assumption) | (simp; done) | (simp; omega)) _ | refine below_setRow ?_ (by first | omega | exact Below.size (by assumption) | (simp; done) | (simp; omega)) _ | (refine Below.trans ?_ (Below.mono (by assumption) ?_); rotate_left; exact (by first | omega | exact Below.size (by assumption) | (simp; done) | (simp; omega))))))).mono ?_; rintro e w9 ⟨rfl, hb9⟩; obtain ⟨hc9, hf9⟩ := bcell hb9; have hz9 := hb9.size; (try simp at hz9))
                refine hK.out _ _ ?hS (fun hSc => ?_)
                case hS =>
                  first
                  | exact hSc
                  | (rw [HS0.out] at hSc ⊢; obtain ⟨p0, p1, p2, p3, p4, p5, p6⟩ := hSc; exact ⟨(hc9 _ _ (by first | assumption | omega)).trans p0, (hc9 _ _ (by first | assumption | omega)).trans p1, (hc9 _ _ (by first | assumption | omega)).trans p2, p3.trans (hb9.mono (by have := p3.size; first | omega | (simp at this ⊢; omega))), by first | exact Nat.lt_of_lt_of_le p4 hb9.size | omega | (simp; done) | (simp; omega), by first | exact Nat.lt_of_lt_of_le p5 hb9.size | omega | (simp; done) | (simp; omega), by first | exact Nat.lt_of_lt_of_le p6 hb9.size | omega | (simp; done) | (simp; omega)⟩)
                clear hK K
                refine wpSch_looks (L1 := [_]) (L2 := _) rfl ?_
                iterate 1 (go_big_quiet_step (fail))
                refine wpQuiet_nil ?_
                (try dsimp only)
                refine wpSch_nil ?_
                rw [HS0.out] at hSc
                obtain ⟨p0, p1, p2, p3, p4, p5, p6⟩ := hSc
                clear hne0 HS0 k0 k1 k2 k3 k4 k5 k6
                have HBE := Lib.hid (HB.out.trans ((hb12.trans (p3.mono hb12.size)).mono HB.out.size))
                clear hc9 hf9 hz9 t1 t3 ho11 hb9 hin2 hb12 hm1' hm2 hg10 hg11 hgx t2 t4 t5 t6 t7 hh1 hhn l0 hhl
                (try clear mu1 mu2)
                (try clear t8)
                rcases c2 with rfl | ⟨rfl, v1, v2, v3⟩
                · go_wp2
                  go_roundw
                  case rel => exact ⟨b + 1, by go_num, by rw [S1.out, Y1.out]; first | go_num | rfl, by rw [S2.out, Y2.out]; rfl, by omega, HBE.out⟩
                  case measure => simp [intOf]; omega
                · rw [HV3.out v3] at p2
                  clear v3
                  go_wp2
                  go_roundw
                  case rel => exact ⟨b + 1, by go_num, by rw [S1.out, Y1.out]; first | go_num | rfl, by rw [S2.out, Y2.out]; go_num, by omega, HBE.out⟩
                  case measure => simp [intOf]; omega
            · obtain rfl : b = F.blocks.length := by omega
              rw [HLL.out, HLB.out]
              have HB := Lib.hid (HBR.out.trans ((H911w.out.trans (hb.mono H911w.out.size)).mono HBR.out.size))
              clear hb
              go_wp2
              go_roundw
              case rel => exact ⟨h + 1, by go_num, by rw [HST.out]; go_num, by omega, HB.out⟩
              case measure => simp [intOf]; omega
      · obtain rfl : h = F.blocks.length := by omega
        have hO1 := nin_calls (b := (0 : Int)) (HIN.out wr hb89 (-1) (by omega) (by omega))
        rw [show lpB F (headB F (-1)) (-1) 0 = false by rw [headB_neg]; simp [lpB]] at hO1
        have hO2 := fun (W' : World) (hW' : Below wr.heap.size wr W') => nin_calls (b := (F.blocks.length : Int)) (HIN.out W' (hb89.trans (hW'.mono hb89.size)) 0 (by omega) (by omega))
        have hz : lpB F (headB F 0) 0 (F.blocks.length : Int) = false := by simp [lpB]
        rw [hz] at hO2
        have HB := Lib.hid hB
        clear hz hb hb89 hB
        go_wp2_with fail
        refine hO1.mono ?_
        rintro e w10 ⟨rfl, hb10⟩
        obtain ⟨hc10, hf10⟩ := bcell hb10
        have t2 := (hc10 _ _ q).trans q2
        have t7 := Nat.lt_of_lt_of_le q hb10.size
        clear hc10 hf10 q0 q1 q2 q
        go_wp2_with fail
        refine (hO2 w10 hb10).mono ?_
        rintro e w11 ⟨rfl, hb11⟩
        go_wp2
        go_ret
        exact ⟨rfl, HB.out.trans ((hb10.trans (hb11.mono hb10.size)).mono HB.out.size)⟩
end Go.Proofs.YteajnaabbddohaaGreatDoor
