/- The walk of the law LoopDeep: it returns true, whatever the program. -/
import Derived.Test.YteajnaabbddohaaGreatDoorLpLive
import Derived.Test.YteajnaabbddohaaGreatDoorLpInner
namespace Go.Proofs.YteajnaabbddohaaGreatDoor
open Go.RowKit
set_option maxRecDepth 100000

section
variable {F : PFunc} {a b h n x y : Nat} {f : Nat → Bool}
theorem flt_step : ((List.range b).filter f).length + (f b).toNat = ((List.range (b + 1)).filter f).length := by
  rw [List.range_succ, List.filter_append, List.length_append]
  cases e : f b <;> simp [e]
theorem flt_le : ((List.range b).filter f).length ≤ b := Nat.le_trans (List.length_filter_le _ _) (by simp)
theorem lpB_of (hx : x < F.blocks.length) : lpB F true (a : Int) (x : Int) = inR F a x := by
  unfold lpB inR
  rw [Int.toNat_natCast, Int.toNat_natCast]
  have : (x : Int) < (F.blocks.length : Int) := by omega
  simp [this]
/-- is b in the loop of the head h? -/
noncomputable def inH (F : PFunc) (b h : Nat) : Bool := hdB F h && inR F h b
/-- how many blocks the loop of h has. -/
noncomputable def szL (F : PFunc) (h : Nat) : Nat := ((List.range F.blocks.length).filter (inR F h)).length
theorem szL_pos (hh : h < F.blocks.length) : 0 < szL F h := List.length_pos_of_mem (List.mem_filter.2 ⟨List.mem_range.2 hh, inR_self hh⟩)
theorem depth_eq : ((headsL F n).filter fun h => inR F h b).length = ((List.range n).filter (inH F b)).length := by
  rw [headsL_filt, List.filter_filter]
  congr 1
  refine List.filter_congr fun h _ => ?_
  exact Bool.and_comm _ _
theorem inn_eq : innF (fun h => inR F h b) (szL F) (headsL F n) = innF (inH F b) (szL F) (List.range n) := by rw [headsL_filt, innF_filter]; rfl
end
theorem InnR.det {st : Option (Nat × Nat)} {a b c d : Nat} (h : InnR st a b) (h' : InnR st c d) : c = a ∧ d = b := by
  cases st with
  | none => exact ⟨h'.1.trans h.1.symm, h'.2.trans h.2.symm⟩
  | some p =>
    have h1 : p = (b, a) := h.1
    have h2 : p = (d, c) := h'.1
    rw [h1] at h2
    simp only [Prod.mk.injEq] at h2
    exact ⟨h2.2.symm, h2.1.symm⟩
theorem InnR.zero {st : Option (Nat × Nat)} {a : Nat} (h : InnR st a 0) : a = 0 := by
  cases st with
  | none => exact h.1
  | some p => exact absurd h.2 (Nat.lt_irrefl 0)
theorem innF_none {sz : Nat → Nat} : ∀ {l : List Nat}, innF (fun _ => false) sz l = none := fun {l} => by
  unfold innF
  induction l with
  | nil => rfl
  | cons h r ih => rw [List.foldl_cons]; exact ih
theorem pair_cells {w : World} {base n c i : Nat} {A : Option Addr} {l : List (Int × Int)} {x y : Int} (h : w.ownsRow base 56 2 (.slice A n c) n (l.flatMap encQ)) (hn : l.length = n) (hi : l[i]? = some (x, y)) :
    ∃ g, A = some ⟨g, 0, none⟩ ∧ g < w.heap.size ∧ w.cell? ⟨g, i * 2, none⟩ = some (.int .i64 x) ∧ w.cell? ⟨g, i * 2 + 1, none⟩ = some (.int .i64 y) := by
  have hil : i < l.length := (List.getElem?_eq_some_iff.1 hi).1
  have hb : l[i]! = (x, y) := by rw [getElem!_pos l i hil]; exact (List.getElem?_eq_some_iff.1 hi).2
  rcases id h.2 with ⟨he, h0⟩ | ⟨g, cap, cur, he, -⟩
  · omega
  · cases he
    refine ⟨g, rfl, (h.lt g rfl).2, ?_, ?_⟩
    · rw [h.cellAt (i * 2) (by omega), flatQ_get l (i * 2) (by omega), show i * 2 / 2 = i by omega, show i * 2 % 2 = 0 by omega, hb]
      rfl
    · rw [h.cellAt (i * 2 + 1) (by omega), flatQ_get l (i * 2 + 1) (by omega), show (i * 2 + 1) / 2 = i by omega, show (i * 2 + 1) % 2 = 1 by omega, hb]
      rfl
/-- the row of the loop of h in memory, read. -/
theorem BodV.row {w : World} {base g c : Nat} {F : PFunc} {vs : List Value} (h : BodV w base F F.blocks.length (.slice (some ⟨g, 0, none⟩) F.blocks.length c) vs) {k : Nat} (hk : k < F.blocks.length) :
    g < w.heap.size ∧ ∃ A cx, w.cell? ⟨g, k, none⟩ = some (.slice A (bodyRow F k).length cx) ∧
      (hdB F k = false → (bodyRow F k).length = 0) ∧ (hdB F k = true → (bodyRow F k).length = F.blocks.length ∧ ∃ gx, A = some ⟨gx, 0, none⟩ ∧ gx < w.heap.size ∧ ∀ x, x < F.blocks.length → w.cell? ⟨gx, x, none⟩ = some (.bool (inR F k x))) := by
  obtain ⟨x, hx⟩ : ∃ x, vs[k]? = some x := ⟨_, List.getElem?_eq_getElem (by have := h.1.1; omega)⟩
  have hrow := h.2 k x hx
  have hcx := h.1.cellAt k (by omega)
  rw [hx] at hcx
  obtain ⟨A, cx, rfl⟩ := own_form hrow
  refine ⟨(h.1.lt g rfl).2, A, cx, hcx, fun e => ?_, fun e => ?_⟩
  · unfold bodyRow
    rw [if_neg (by rw [e]; simp)]
    rfl
  · have hbr : bodyRow F k = lpL F (latL F k) k := by unfold bodyRow; rw [if_pos e]
    have hl : (bodyRow F k).length = F.blocks.length := by rw [hbr, lpL_len]
    refine ⟨hl, ?_⟩
    rw [hl, hbr] at hrow
    obtain ⟨gx, c', hv, hgx, -⟩ := own_pos hrow (by omega)
    cases hv
    exact ⟨gx, rfl, hgx, fun x hx => own_bool hrow hx⟩
set_option maxHeartbeats 16000000 in
theorem deep_law {W : World} {fv : Value} {F : PFunc} (hU : Uni W) (hF : FnV W W.heap.size fv F) :
    Calls Tryz.prog 7 #[fv] W fun e w' => e = .returned (.bool true) ∧ Below W.heap.size W w' := by
  have hlv := fun (w : World) (h : Below W.heap.size W w) => livesL_calls hU h
  have hty := fun (w : World) (h : Below W.heap.size W w) => lawTyped_calls hU hF h
  obtain ⟨w, rfl⟩ : ∃ w : World, w = W := ⟨_, rfl⟩
  obtain ⟨A0, c0, A1, c1, A2, c2, rfl, l0, l1, l2, -⟩ := id hF.open_
  unfold Len at *
  have hb0 := (Below.refl w.heap.size w).alloc (Nat.le_refl _) (.cells #[.slice A0 F.vars.length c0, .slice A1 F.params.length c1, .slice A2 F.blocks.length c2] 26)
  cases hx : lawT F
  · rw [hx] at hty
    clear hx
    go_enter Tryz.func7, Tryz.ntmps7
    go_wp2_with fail
    refine (hlv _ (by (focus repeat (first | assumption | exact Below.refl _ _ | refine Below.drew ?_ | refine Below.alloc ?_ (by first | omega | exact Below.size (by assumption) | (simp; done) | (simp; omega)) _ | refine Below.setCell ?_ (by first | omega | exact Below.size (by assumption) | (simp; done) | (simp; omega)) _ | refine below_setRow ?_ (by first | omega | exact Below.size (by assumption) | (simp; done) | (simp; omega)) _ | (refine Below.trans ?_ (Below.mono (by assumption) ?_); rotate_left; exact (by first | omega | exact Below.size (by assumption) | (simp; done) | (simp; omega))))))).mono ?_
    (rintro e w1 ⟨rfl, hb1⟩; obtain ⟨hc1, hf1⟩ := bcell hb1; have hz1 := hb1.size; try simp at hz1; try have hy1 := Nat.lt_of_succ_le hz1; try have hx1 := Nat.lt_of_succ_lt hy1; try have hw1 := Nat.lt_of_succ_lt hx1)
    go_wp2_with fail
    refine (hty _ (by (focus repeat (first | assumption | exact Below.refl _ _ | refine Below.drew ?_ | refine Below.alloc ?_ (by first | omega | exact Below.size (by assumption) | (simp; done) | (simp; omega)) _ | refine Below.setCell ?_ (by first | omega | exact Below.size (by assumption) | (simp; done) | (simp; omega)) _ | refine below_setRow ?_ (by first | omega | exact Below.size (by assumption) | (simp; done) | (simp; omega)) _ | (refine Below.trans ?_ (Below.mono (by assumption) ?_); rotate_left; exact (by first | omega | exact Below.size (by assumption) | (simp; done) | (simp; omega))))))).mono ?_
    (rintro e w2 ⟨rfl, hb2⟩; obtain ⟨hc2, hf2⟩ := bcell hb2; have hz2 := hb2.size; try simp at hz2; try have hy2 := Nat.lt_of_succ_le hz2; try have hx2 := Nat.lt_of_succ_lt hy2; try have hw2 := Nat.lt_of_succ_lt hx2)
    go_wp2_with fail
    refine (hlv _ (by (focus repeat (first | assumption | exact Below.refl _ _ | refine Below.drew ?_ | refine Below.alloc ?_ (by first | omega | exact Below.size (by assumption) | (simp; done) | (simp; omega)) _ | refine Below.setCell ?_ (by first | omega | exact Below.size (by assumption) | (simp; done) | (simp; omega)) _ | refine below_setRow ?_ (by first | omega | exact Below.size (by assumption) | (simp; done) | (simp; omega)) _ | (refine Below.trans ?_ (Below.mono (by assumption) ?_); rotate_left; exact (by first | omega | exact Below.size (by assumption) | (simp; done) | (simp; omega))))))).mono ?_
    (rintro e w3 ⟨rfl, hb3⟩; obtain ⟨hc3, hf3⟩ := bcell hb3; have hz3 := hb3.size; try simp at hz3; try have hy3 := Nat.lt_of_succ_le hz3; try have hx3 := Nat.lt_of_succ_lt hy3; try have hw3 := Nat.lt_of_succ_lt hx3)
    go_wp2
    go_ret
    exact ⟨rfl, by (focus repeat (first | assumption | exact Below.refl _ _ | refine Below.drew ?_ | refine Below.alloc ?_ (by first | omega | exact Below.size (by assumption) | (simp; done) | (simp; omega)) _ | refine Below.setCell ?_ (by first | omega | exact Below.size (by assumption) | (simp; done) | (simp; omega)) _ | refine below_setRow ?_ (by first | omega | exact Below.size (by assumption) | (simp; done) | (simp; omega)) _ | (refine Below.trans ?_ (Below.mono (by assumption) ?_); rotate_left; exact (by first | omega | exact Below.size (by assumption) | (simp; done) | (simp; omega)))))⟩
  rw [hx] at hty
  have hx2 : fewB F = true ∧ typedP F = true := by
    unfold lawT at hx
    simpa using hx
  have hS := few_small hx2.1
  have hT := hx2.2
  have hn := fun (w' : World) (h : Below w.heap.size w w') => loopNew_calls hU hF h hS hT
  have hbo := fun (w' : World) (h : Below w.heap.size w w') => bodies_calls hF h hT
  have HLD := Lib.hid (fun (w' : World) (h : Below w.heap.size w w') (a b : Nat) (ha : a < F.blocks.length) => by have := leads_calls hF h (a : Int) (b : Int) (by omega) (by omega); rwa [Int.toNat_natCast] at this)
  obtain ⟨n1, n2⟩ := shaped_count (typed_shaped hT)
  have HT := Lib.hid hT
  clear hx hx2 hT hS
  go_enter Tryz.func7, Tryz.ntmps7
  go_wp2_with fail
  refine (hlv _ (by (focus repeat (first | assumption | exact Below.refl _ _ | refine Below.drew ?_ | refine Below.alloc ?_ (by first | omega | exact Below.size (by assumption) | (simp; done) | (simp; omega)) _ | refine Below.setCell ?_ (by first | omega | exact Below.size (by assumption) | (simp; done) | (simp; omega)) _ | refine below_setRow ?_ (by first | omega | exact Below.size (by assumption) | (simp; done) | (simp; omega)) _ | (refine Below.trans ?_ (Below.mono (by assumption) ?_); rotate_left; exact (by first | omega | exact Below.size (by assumption) | (simp; done) | (simp; omega))))))).mono ?_
  rintro e w4 ⟨rfl, hb4⟩
  have hX4 : Below (w.heap.size + 1) (w.alloc (.cells #[.slice A0 F.vars.length c0, .slice A1 F.params.length c1, .slice A2 F.blocks.length c2] 26)) w4 := by simpa using hb4
  have hB4 := hb0.trans (hX4.mono (Nat.le_succ _))
  obtain ⟨q, q0, q1, q2⟩ := box3 hX4
  go_wp2_with fail
  refine (hty _ hB4).mono ?_
  rintro e w5 ⟨rfl, hb5⟩
  have hX5 := hX4.trans (hb5.mono (by have := hX4.size; simpa using this))
  have hB5 := hb0.trans (hX5.mono (Nat.le_succ _))
  clear q q0 q1 q2
  obtain ⟨q, q0, q1, q2⟩ := box3 hX5
  go_wp2_with fail
  refine (hn _ hB5).mono ?_
  rintro e w6 ⟨nb, mb, ve, vs, es, clk, rfl, hN, hb6⟩
  have hX6 := hX5.trans (hb6.mono (by have := hX5.size; simpa using this))
  have hB6 := hb0.trans (hX6.mono (Nat.le_succ _))
  clear q q0 q1 q2
  obtain ⟨q, q0, q1, q2⟩ := box3 hX6
  go_wp2_with fail
  refine (hbo _ hB6).mono ?_
  rintro e w7 ⟨v7, vbs, rfl, hBV, hb7⟩
  obtain ⟨gb, cb, rfl, -, -⟩ := own_pos hBV.1 n1
  have hX7 := hX6.trans (hb7.mono (by have := hX6.size; simpa using this))
  have hB7 := hb0.trans (hX7.mono (Nat.le_succ _))
  have hN7 := hN.below hb7
  have HOF := Lib.hid (fun (wr : World) (h : Below w7.heap.size w7 wr) (a : Int) (ha1 : -1 ≤ a) (ha2 : a ≤ 64) => nof_calls (hN7.below h) n2 a ha1 ha2)
  have HHD := Lib.hid (fun (wr : World) (h : Below w7.heap.size w7 wr) => heads_calls (hN7.below h) n1 n2)
  have HEN := Lib.hid (fun (wr : World) (h : Below w7.heap.size w7 wr) (a : Int) => (hN7.below h).endsC HT.out a)
  have HIN := Lib.hid (fun (wr : World) (h : Below w7.heap.size w7 wr) (a : Nat) (x : Int) (ha : a ∈ headsL F F.blocks.length) => by
    obtain ⟨han, ha2⟩ := mem_headsL.1 ha
    have h1 := nin_calls (b := x) (nof_calls (hN7.below h) n2 (a : Int) (by omega) (by omega))
    rwa [hdB_head han, show hdB F a = true from decide_eq_true ha2] at h1)
  have HRG := Lib.hid (fun (wr : World) (h : Below w7.heap.size w7 wr) (a : Nat) (ha : a ∈ headsL F F.blocks.length) => by
    obtain ⟨han, ha2⟩ := mem_headsL.1 ha
    have h1 := nof_calls (hN7.below h) n2 (a : Int) (by omega) (by omega) wr (Below.refl _ _)
    rw [hdB_head han, show hdB F a = true from decide_eq_true ha2] at h1
    have h2 : Calls Tryz.prog 48 #[.pointer (some ⟨nb, 0, none⟩), .int .i64 (a : Int)] wr fun e W' => ∃ A0 n0 c0 A1 n1 c1, e = .returned (.tuple #[.agg #[.slice A0 n0 c0, .slice A1 n1 c1, .int .i64 (szL F a : Nat)], .bool true]) ∧ Below wr.heap.size wr W' := h1.mono fun e W' ⟨v, he, hz, hb⟩ => by
      rcases hz with ⟨_, vl, g, hv, hl, _⟩ | ⟨h0, _⟩
      · obtain ⟨A0, c0, rfl⟩ := own_form hl
        rw [Int.toNat_natCast, lp_count] at hv
        exact ⟨_, _, _, _, _, _, by rw [he, hv]; rfl, hb⟩
      · cases h0
    exact h2)
  have HBV := Lib.hid hBV
  have HX7 := Lib.hid hX7
  have HB7 := Lib.hid hB7
  have hhl := headsL_le (F := F) (n := F.blocks.length)
  clear q q0 q1 q2 hb4 hb5 hb6 hb7 hX4 hX5 hX6 hB4 hB5 hB6 hlv hty hn hbo hb0 hN hN7 hBV
  obtain ⟨q, q0, q1, q2⟩ := box3 hX7
  clear hX7 hB7
  go_wp2
  clear q q0 q1 q2
  go_loopw [41] (fun x wr => ∃ b : Nat, x = .int .i64 b ∧ b ≤ F.blocks.length ∧ Below w7.heap.size w7 wr) (fun x _ => F.blocks.length - (intOf x).toNat)
  case atStart => exact ⟨0, rfl, Nat.zero_le _, Below.refl _ _⟩
  case round => as_aux_lemma =>
    obtain ⟨b, rfl, hbl, hb⟩ := hrel
    obtain ⟨q, q0, q1, q2⟩ := box3 (HX7.out.trans (hb.mono (by have := HX7.out.size; simpa using this)))
    by_cases hlt : b < F.blocks.length
    · have hbn : (b : Int) < (F.blocks.length : Int) := by omega
      have HBb := Lib.hid hb
      obtain ⟨wq, rfl⟩ : ∃ wq : World, wq = wr := ⟨_, rfl⟩
      clear hb
      go_wp2
      clear q q0 q1 q2
      go_loopw [47, 7, 8, 9] (fun x x7 x8 x9 wr => ∃ (h bh bz : Nat) (bi : Int), x = .int .i64 h ∧ x7 = .int .i64 (((List.range h).filter (inH F b)).length : Nat) ∧ x8 = .int .i64 bz ∧ x9 = .int .i64 bi ∧ h ≤ F.blocks.length ∧ Hid (InnR (innF (inH F b) (szL F) (List.range h)) bh bz ∧ bi = if bz = 0 then -1 else (bh : Int)) ∧ Below w7.heap.size w7 wr) (fun x _ _ _ _ => F.blocks.length - (intOf x).toNat)
      case atStart => exact ⟨0, 0, 0, -1, rfl, rfl, rfl, rfl, Nat.zero_le _, ⟨⟨rfl, rfl⟩, rfl⟩, HBb.out⟩
      case round => as_aux_lemma =>
        clear HBb
        obtain ⟨h, bh, bz, bi, rfl, rfl, rfl, rfl, hh, HI, hb⟩ := hrel
        obtain ⟨q, q0, q1, q2⟩ := box3 (HX7.out.trans (hb.mono (by have := HX7.out.size; simpa using this)))
        by_cases hhl2 : h < F.blocks.length
        · have hhn : (h : Int) < (F.blocks.length : Int) := by omega
          obtain ⟨hgb, Ar, cr, hcr, hr0, hr1⟩ := (HBV.out.below hb).row hhl2
          have hst : innF (inH F b) (szL F) (List.range (h + 1)) = innS (inH F b) (szL F) (innF (inH F b) (szL F) (List.range h)) h := by rw [List.range_succ]; exact innF_snoc
          have hdp := flt_step (b := h) (f := inH F b)
          have hdl := flt_le (b := h) (f := inH F b)
          have hdef : inH F b h = (hdB F h && inR F h b) := rfl
          have HST := Lib.hid hst
          have HB := Lib.hid hb
          clear hst hb
          obtain ⟨T, hT'⟩ : ∃ T, hdB F h = T := ⟨_, rfl⟩
          rw [hT'] at hr0 hr1 hdef
          cases T
          case false =>
            as_aux_lemma =>
            rw [hr0 rfl] at hcr
            have hf : inH F b h = false := hdef
            rw [hf] at hdp
            have HDP := Lib.hid hdp
            have HF := Lib.hid hf
            clear hr0 hr1 hdef hT' hf hdp
            generalize ((List.range h).filter (inH F b)).length = D at *
            go_wp2
            go_roundw
            case rel => exact ⟨h + 1, bh, bz, bi, by go_num, by rw [← HDP.out]; rfl, rfl, rfl, by omega, ⟨by rw [HST.out]; exact HI.out.1.no HF.out, HI.out.2⟩, HB.out⟩
            case measure => simp [intOf]; omega
          case true =>
            obtain ⟨hrl, gx, rfl, hgx, hrx⟩ := hr1 rfl
            rw [hrl] at hcr
            have f3 : ((F.blocks.length : Int) == 0) = false := by rw [beq_eq_false_iff_ne]; omega
            have hcb := hrx b hlt
            obtain ⟨y, hy⟩ : ∃ y, inR F h b = y := ⟨_, rfl⟩
            rw [hy] at hcb hdef
            have HRX := Lib.hid hrx
            clear hr0 hr1 hrl hT' hrx
            cases y
            case false =>
              as_aux_lemma =>
              have hf : inH F b h = false := hdef
              rw [hf] at hdp
              have HDP := Lib.hid hdp
              have HF := Lib.hid hf
              clear hdef hf hdp hy
              generalize ((List.range h).filter (inH F b)).length = D at *
              go_wp2
              go_roundw
              case rel => exact ⟨h + 1, bh, bz, bi, by go_num, by rw [← HDP.out]; rfl, rfl, rfl, by omega, ⟨by rw [HST.out]; exact HI.out.1.no HF.out, HI.out.2⟩, HB.out⟩
              case measure => simp [intOf]; omega
            case true =>
              as_aux_lemma =>
              have hf : inH F b h = true := hdef
              rw [hf] at hdp
              have HDP := Lib.hid hdp
              have HF := Lib.hid hf
              have HCR := Lib.hid hcr
              clear hdef hf hdp hy
              generalize ((List.range h).filter (inH F b)).length = D at *
              obtain ⟨wp, rfl⟩ : ∃ wp : World, wp = wr := ⟨_, rfl⟩
              go_wp2
              clear q q0 q1 q2 hcr hcb f3
              go_loopw [71, 11] (fun x x11 wr => ∃ k : Nat, x = .int .i64 k ∧ x11 = .int .i64 (((List.range k).filter (inR F h)).length : Nat) ∧ k ≤ F.blocks.length ∧ wr = wp) (fun x _ _ => F.blocks.length - (intOf x).toNat)
              case atStart => exact ⟨0, rfl, rfl, Nat.zero_le _, rfl⟩
              case round => as_aux_lemma =>
                obtain ⟨k, rfl, rfl, hk, rfl⟩ := hrel
                by_cases hkl : k < F.blocks.length
                · have hkn : (k : Int) < (F.blocks.length : Int) := by omega
                  have hck := HRX.out k hkl
                  have hcr := HCR.out
                  have hs1 := flt_step (b := k) (f := inR F h)
                  have hs2 := flt_le (b := k) (f := inR F h)
                  generalize inR F h k = z at hck hs1
                  have HS1 := Lib.hid hs1
                  clear hs1
                  generalize ((List.range k).filter (inR F h)).length = K at *
                  cases z
                  all_goals
                    as_aux_lemma =>
                    go_wp2
                    go_roundw
                    case rel => exact ⟨k + 1, by go_num, by rw [← HS1.out]; first | rfl | go_num, by omega, trivial⟩
                    case measure => simp [intOf]; omega
                · obtain rfl : k = F.blocks.length := by omega
                  have hsz : ((List.range F.blocks.length).filter (inR F h)).length = szL F h := rfl
                  rw [hsz]
                  have hsp := szL_pos hhl2
                  obtain ⟨s, hs⟩ : ∃ s, szL F h = s := ⟨_, rfl⟩
                  rw [hs] at hsp ⊢
                  have HSS := Lib.hid hs
                  have hcase : bz = 0 ∨ bz ≠ 0 ∧ s < bz ∨ bz ≠ 0 ∧ ¬ s < bz := by omega
                  clear hsz hs
                  rcases hcase with e | ⟨e, e2⟩ | ⟨e, e2⟩
                  · as_aux_lemma =>
                    have hbi : bi = -1 := by rw [HI.out.2, if_pos e]
                    have HE := Lib.hid e
                    subst hbi
                    clear e
                    go_wp2
                    go_roundw
                    case rel => exact ⟨h + 1, h, s, h, by go_num, by rw [← HDP.out]; go_num, rfl, rfl, by omega, ⟨by rw [HST.out, ← HSS.out]; exact HI.out.1.first HF.out HE.out (by rw [HSS.out]; exact hsp), by rw [if_neg (by omega)]⟩, HB.out⟩
                    case measure => simp [intOf]; omega
                  · as_aux_lemma =>
                    have hbi : bi = (bh : Int) := by rw [HI.out.2, if_neg e]
                    have HE := Lib.hid e
                    have HE2 := Lib.hid e2
                    have e3 : decide ((bh : Int) < 0) = false := decide_eq_false (by omega)
                    have e4 : (s : Int) < (bz : Int) := by omega
                    subst hbi
                    clear e e2
                    go_wp2
                    go_roundw
                    case rel => exact ⟨h + 1, h, s, h, by go_num, by rw [← HDP.out]; go_num, rfl, rfl, by omega, ⟨by rw [HST.out, ← HSS.out]; exact HI.out.1.less HF.out HE.out (by rw [HSS.out]; exact HE2.out) (by rw [HSS.out]; exact hsp), by rw [if_neg (by omega)]⟩, HB.out⟩
                    case measure => simp [intOf]; omega
                  · as_aux_lemma =>
                    have hbi : bi = (bh : Int) := by rw [HI.out.2, if_neg e]
                    have HE := Lib.hid e
                    have HE2 := Lib.hid e2
                    have e3 : decide ((bh : Int) < 0) = false := decide_eq_false (by omega)
                    have e4 : decide ((s : Int) < (bz : Int)) = false := decide_eq_false (by omega)
                    subst hbi
                    clear e e2
                    go_wp2
                    go_roundw
                    case rel => exact ⟨h + 1, bh, bz, bh, by go_num, by rw [← HDP.out]; go_num, rfl, rfl, by omega, ⟨by rw [HST.out]; exact HI.out.1.more HF.out HE.out (by rw [HSS.out]; exact HE2.out), by rw [if_neg HE.out]⟩, HB.out⟩
                    case measure => simp [intOf]; omega
        · obtain rfl : h = F.blocks.length := by omega
          as_aux_lemma =>
          have hin := ninner_calls (b := (b : Int)) (f := fun h => inR F h b) (sz := szL F) (HHD.out wr hb) (by omega) (fun h hh W hW => HRG.out W (hb.trans (hW.mono hb.size)) h hh) (fun h hh W hW => by have h9 := HIN.out W (hb.trans (hW.mono hb.size)) h (b : Int) hh; rwa [lpB_of hlt] at h9) (fun h hh => szL_pos (mem_headsL.1 hh).1)
          have hde := fun (W : World) (hW : Below wr.heap.size wr W) => depth_calls (b := (b : Int)) (f := fun h => inR F h b) (HHD.out W (hb.trans (hW.mono hb.size))) (by omega) (fun h hh W2 hW2 => by have h9 := HIN.out W2 (hb.trans ((hW.trans (hW2.mono hW.size)).mono hb.size)) h (b : Int) hh; rwa [lpB_of hlt] at h9)
          rw [depth_eq] at hde
          have hdl := flt_le (b := F.blocks.length) (f := inH F b)
          have HB := Lib.hid hb
          clear hb
          generalize ((List.range F.blocks.length).filter (inH F b)).length = D at *
          clear q q0 q1 q2
          go_wp2_with fail
          refine hin.mono ?_
          rintro e w8 ⟨bh', bz', rfl, hir, hb8⟩
          rw [inn_eq] at hir
          obtain ⟨e1, e2⟩ := InnR.det HI.out.1 hir
          replace e1 := e1.symm
          replace e2 := e2.symm
          subst e1 e2
          have hbi := HI.out.2
          have hx8 := HB.out.trans (hb8.mono HB.out.size)
          clear hir
          have hcase : bz = 0 ∧ bh = 0 ∧ bi = -1 ∨ decide (0 < bz) = true ∧ bi = (bh : Int) := by
            by_cases e : bz = 0
            · subst e
              exact .inl ⟨rfl, HI.out.1.zero, by rw [hbi, if_pos rfl]⟩
            · exact .inr ⟨decide_eq_true (by omega), by rw [hbi, if_neg e]⟩
          have hex := fun (W : World) (hW : Below w8.heap.size w8 W) => exits_calls (hd := hdB F b) (h := (b : Int)) (fun W2 hW2 => by have h9 := HOF.out W (hx8.trans (hW.mono hx8.size)) (b : Int) (by omega) (by omega) W2 hW2; rwa [hdB_head hlt] at h9) n2 (fun _ => by have h9 := HEN.out W (hx8.trans (hW.mono hx8.size)) (b : Int); rwa [hdB_head hlt] at h9)
          have hlen : (outL F (hdB F b) (b : Int) (bodyL F (hdB F b) (b : Int) F.blocks.length)).length = (exAll F b F.blocks.length).length := by rw [← exits_eq HT.out hlt, sortQ_len]
          rw [exits_eq HT.out hlt, hlen] at hex
          have m0 : max (-1 : Int) 0 = 0 := by decide
          have m1 : max (bh : Int) 0 = (bh : Int) := by omega
          have m2 : decide ((bh : Int) ≥ 0) = true := decide_eq_true (by omega)
          have m3 : decide ((0 : Int) ≤ (bh : Int)) = true := decide_eq_true (by omega)
          have HX8 := Lib.hid hx8
          clear hbi hlen hx8 hin
          rcases hcase with ⟨rfl, rfl, rfl⟩ | ⟨e1, rfl⟩
          all_goals
            as_aux_lemma =>
            go_wp2_with fail
            refine (hde w8 hb8).mono ?_
            rintro e w9 ⟨rfl, hb9⟩
            go_wp2_with fail
            refine (hex w9 hb9).mono ?_
            rintro e w10 ⟨v10, rfl, ho10, hb10⟩
            obtain ⟨A10, c10, rfl⟩ := own_form ho10
            have h710 := HX8.out.trans ((hb9.trans (hb10.mono hb9.size)).mono HX8.out.size)
            have HO10 := Lib.hid ho10
            have H710 := Lib.hid h710
            have hxl := exAll_le (F := F) (b := b) (x := F.blocks.length)
            have hxm : F.blocks.length * F.blocks.length ≤ 64 * 64 := Nat.mul_le_mul n2 n2
            obtain ⟨q, q0, q1, q2⟩ := box3 (HX7.out.trans (h710.mono (by have := HX7.out.size; simpa using this)))
            clear ho10 h710 hb8 hb9 hb10 hde hex m0 m1 m2 m3
            (try clear e1)
            go_wp2
            clear q q0 q1 q2
            go_loopw [123, 16] (fun x x16 wr => ∃ x0 : Nat, x = .int .i64 x0 ∧ x16 = .int .i64 ((exAll F b x0).length : Nat) ∧ x0 ≤ F.blocks.length ∧ Below w10.heap.size w10 wr) (fun x _ _ => F.blocks.length - (intOf x).toNat)
            case atStart => exact ⟨0, rfl, rfl, Nat.zero_le _, Below.refl _ _⟩
            case round => as_aux_lemma =>
              obtain ⟨x, rfl, rfl, hx, hbx⟩ := hrel
              have h7x := H710.out.trans (hbx.mono H710.out.size)
              obtain ⟨q, q0, q1, q2⟩ := box3 (HX7.out.trans (h7x.mono (by have := HX7.out.size; simpa using this)))
              by_cases hxl2 : x < F.blocks.length
              · have hxn : (x : Int) < (F.blocks.length : Int) := by omega
                have HBX := Lib.hid hbx
                have hst := exAll_step (F := F) (b := b) (x := x)
                have HST := Lib.hid (congrArg List.length hst)
                obtain ⟨wp, rfl⟩ : ∃ wp : World, wp = wr := ⟨_, rfl⟩
                clear hbx h7x hst
                go_wp2
                clear q q0 q1 q2
                go_loopw [129, 16] (fun y x16 wr => ∃ y0 : Nat, y = .int .i64 y0 ∧ x16 = .int .i64 (((exAll F b x).length + (exRow F b x y0).length : Nat)) ∧ y0 ≤ F.blocks.length ∧ Below w10.heap.size w10 wr) (fun y _ _ => F.blocks.length - (intOf y).toNat)
                case atStart => exact ⟨0, rfl, rfl, Nat.zero_le _, HBX.out⟩
                case round => as_aux_lemma =>
                  clear HBX
                  obtain ⟨y, rfl, rfl, hy, hby⟩ := hrel
                  have h7y := H710.out.trans (hby.mono H710.out.size)
                  obtain ⟨q, q0, q1, q2⟩ := box3 (HX7.out.trans (h7y.mono (by have := HX7.out.size; simpa using this)))
                  by_cases hyl : y < F.blocks.length
                  · have hyn : (y : Int) < (F.blocks.length : Int) := by omega
                    obtain ⟨hgb, Ar, cr, hcr, hr0, hr1⟩ := (HBV.out.below h7y).row hlt
                    have hrs := exRow_step (F := F) (b := b) (x := x) (y := y)
                    have hdef : exB F b x y = (hdB F b && inR F b x && !inR F b y && leads (F.blk x).term (y : Int)) := rfl
                    have hat := fun e => exAt (b := b) hxl2 hyl e
                    have hld := HLD.out wr (HB7.out.trans (h7y.mono HB7.out.size)) x y hxl2
                    have HB := Lib.hid hby
                    have HH7 := Lib.hid h7y
                    clear hby h7y
                    obtain ⟨T, hT'⟩ : ∃ T, hdB F b = T := ⟨_, rfl⟩
                    rw [hT'] at hr0 hr1 hdef
                    cases T
                    case false =>
                      as_aux_lemma =>
                      rw [hr0 rfl] at hcr
                      rw [show exB F b x y = false from hdef] at hrs
                      have HRS := Lib.hid hrs
                      clear hr0 hr1 hdef hT' hat hrs hld
                      obtain ⟨K, hK⟩ : ∃ K, (exAll F b x).length + (exRow F b x y).length = K := ⟨_, rfl⟩
                      have HK := Lib.hid hK
                      rw [hK]
                      clear hK
                      go_wp2
                      go_roundw
                      case rel => exact ⟨y + 1, by go_num, by rw [HRS.out, ← HK.out]; rfl, by omega, HB.out⟩
                      case measure => simp [intOf]; omega
                    case true =>
                      obtain ⟨hrl, gx, rfl, hgx, hrx⟩ := hr1 rfl
                      rw [hrl] at hcr
                      have f3 : ((F.blocks.length : Int) == 0) = false := by rw [beq_eq_false_iff_ne]; omega
                      have hcx := hrx x hxl2
                      have hcy := hrx y hyl
                      obtain ⟨z1, hz1⟩ : ∃ z, inR F b x = z := ⟨_, rfl⟩
                      obtain ⟨z2, hz2⟩ : ∃ z, inR F b y = z := ⟨_, rfl⟩
                      obtain ⟨z3, hz3⟩ : ∃ z, leads (F.blk x).term (y : Int) = z := ⟨_, rfl⟩
                      rw [hz1] at hcx hdef
                      rw [hz2] at hcy hdef
                      rw [hz3] at hld hdef
                      clear hr0 hr1 hrl hT' hrx hz1 hz2 hz3
                      cases z1
                      case false =>
                        as_aux_lemma =>
                        rw [show exB F b x y = false from hdef] at hrs
                        have HRS := Lib.hid hrs
                        clear hdef hat hrs hld
                        obtain ⟨K, hK⟩ : ∃ K, (exAll F b x).length + (exRow F b x y).length = K := ⟨_, rfl⟩
                        have HK := Lib.hid hK
                        rw [hK]
                        clear hK
                        go_wp2
                        go_roundw
                        case rel => exact ⟨y + 1, by go_num, by rw [HRS.out, ← HK.out]; rfl, by omega, HB.out⟩
                        case measure => simp [intOf]; omega
                      cases z2
                      case true =>
                        as_aux_lemma =>
                        rw [show exB F b x y = false from hdef] at hrs
                        have HRS := Lib.hid hrs
                        clear hdef hat hrs hld
                        obtain ⟨K, hK⟩ : ∃ K, (exAll F b x).length + (exRow F b x y).length = K := ⟨_, rfl⟩
                        have HK := Lib.hid hK
                        rw [hK]
                        clear hK
                        go_wp2
                        go_roundw
                        case rel => exact ⟨y + 1, by go_num, by rw [HRS.out, ← HK.out]; rfl, by omega, HB.out⟩
                        case measure => simp [intOf]; omega
                      cases z3
                      case false =>
                        as_aux_lemma =>
                        rw [show exB F b x y = false from hdef] at hrs
                        have HRS := Lib.hid hrs
                        clear hdef hat hrs
                        obtain ⟨K, hK⟩ : ∃ K, (exAll F b x).length + (exRow F b x y).length = K := ⟨_, rfl⟩
                        have HK := Lib.hid hK
                        rw [hK]
                        clear hK
                        go_wp2_with fail
                        refine hld.mono ?_
                        rintro e w11 ⟨rfl, hb11⟩
                        go_wp2
                        go_roundw
                        case rel => exact ⟨y + 1, by go_num, by rw [HRS.out, ← HK.out]; rfl, by omega, HB.out.trans (hb11.mono HB.out.size)⟩
                        case measure => simp [intOf]; omega
                      case true =>
                        as_aux_lemma =>
                        have he : exB F b x y = true := hdef
                        rw [he] at hrs
                        have hi := hat he
                        have hil := (List.getElem?_eq_some_iff.1 hi).1
                        obtain ⟨g10, rfl, hgl, k1, k2⟩ := pair_cells (own_below HO10.out HB.out) rfl hi
                        have HRS := Lib.hid hrs
                        have heq : ∀ W : World, (Op.equalIn 10000 56 (.agg #[.int .i64 (x : Int), .int .i64 (y : Int)]) (.agg #[.int .i64 (x : Int), .int .i64 (y : Int)])).run Tryz.prog W = .ok true W := fun W => by rw [eqQ]; simp
                        have hel : (exAll F b F.blocks.length).length ≤ 4096 := by omega
                        clear hdef hat hrs he hi
                        generalize (exAll F b F.blocks.length).length = N at *
                        obtain ⟨K, hK⟩ : ∃ K, (exAll F b x).length + (exRow F b x y).length = K := ⟨_, rfl⟩
                        have HK := Lib.hid hK
                        rw [hK] at hil k1 k2 ⊢
                        clear hK
                        have u1 : (K : Int) < (N : Int) := by omega
                        have u2 : decide ((N : Int) ≤ (K : Int)) = false := decide_eq_false (by omega)
                        go_wp2_with fail
                        refine hld.mono ?_
                        rintro e w11 ⟨rfl, hb11⟩
                        obtain ⟨hc11, hf11⟩ := bcell hb11
                        have k3 := (hc11 _ _ hgl).trans k1
                        have k4 := (hc11 _ _ hgl).trans k2
                        have k5 := Nat.lt_of_lt_of_le hgl hb11.size
                        have hq := heq w11
                        clear hc11 hf11 k1 k2 heq
                        go_wp2
                        go_roundw
                        case rel => exact ⟨y + 1, by go_num, by rw [HRS.out, ← Nat.add_assoc, HK.out]; go_num, by omega, HB.out.trans (hb11.mono HB.out.size)⟩
                        case measure => simp [intOf]; omega
                  · obtain rfl : y = F.blocks.length := by omega
                    have HB := Lib.hid hby
                    clear hby h7y
                    rw [List.length_append] at HST
                    rw [← HST.out]
                    go_wp2
                    go_roundw
                    case rel => exact ⟨x + 1, by go_num, rfl, by omega, HB.out⟩
                    case measure => simp [intOf]; omega
              · obtain rfl : x = F.blocks.length := by omega
                have HB := Lib.hid h7x
                clear hbx h7x
                generalize (exAll F b F.blocks.length).length = N at *
                go_wp2
                go_roundw
                case rel => exact ⟨b + 1, by go_num, by omega, HB.out⟩
                case measure => simp [intOf]; omega
    · obtain rfl : b = F.blocks.length := by omega
      as_aux_lemma =>
      have hin := ninner_calls (b := (-1 : Int)) (f := fun _ => false) (sz := szL F) (HHD.out wr hb) (by omega) (fun h hh W hW => HRG.out W (hb.trans (hW.mono hb.size)) h hh) (fun h hh W hW => by have h9 := HIN.out W (hb.trans (hW.mono hb.size)) h (-1) hh; rwa [show lpB F true (h : Int) (-1) = false by simp [lpB]] at h9) (fun h hh => szL_pos (mem_headsL.1 hh).1)
      have hde := fun (W : World) (hW : Below wr.heap.size wr W) => depth_calls (b := (F.blocks.length : Int)) (f := fun _ => false) (HHD.out W (hb.trans (hW.mono hb.size))) (by omega) (fun h hh W2 hW2 => by have h9 := HIN.out W2 (hb.trans ((hW.trans (hW2.mono hW.size)).mono hb.size)) h (F.blocks.length : Int) hh; rwa [show lpB F true (h : Int) (F.blocks.length : Int) = false by simp [lpB]] at h9)
      rw [show ((headsL F F.blocks.length).filter fun _ => false).length = 0 by simp] at hde
      have HB := Lib.hid hb
      clear hb
      go_wp2_with fail
      refine hin.mono ?_
      rintro e w8 ⟨bh, bz, rfl, hir, hb8⟩
      rw [innF_none] at hir
      obtain ⟨rfl, rfl⟩ := hir
      obtain ⟨hc8, hf8⟩ := bcell hb8
      have t2 := (hc8 _ _ q).trans q2
      have t7 := Nat.lt_of_lt_of_le q hb8.size
      clear hc8 hf8 q q0 q1 q2
      go_wp2_with fail
      refine (hde w8 hb8).mono ?_
      rintro e w9 ⟨rfl, hb9⟩
      go_wp2
      go_ret
      exact ⟨rfl, HB7.out.trans ((HB.out.trans ((hb8.trans (hb9.mono hb8.size)).mono HB.out.size)).mono HB7.out.size)⟩
end Go.Proofs.YteajnaabbddohaaGreatDoor
