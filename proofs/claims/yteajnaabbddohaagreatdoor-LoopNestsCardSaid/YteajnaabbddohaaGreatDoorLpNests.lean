/- The walk of the law LoopNests: it returns true, whatever the program. -/
import Derived.Test.YteajnaabbddohaaGreatDoorLpLive
import Derived.Test.YteajnaabbddohaaGreatDoorLpRd
import Derived.Test.YteajnaabbddohaaGreatDoorLpRf
namespace Go.Proofs.YteajnaabbddohaaGreatDoor
open Go.RowKit
set_option maxRecDepth 100000

/-- how many below n. -/
def cntB (f : Nat → Bool) (n : Nat) : Nat := ((List.range n).filter f).length
theorem cntB_yes {f : Nat → Bool} {n : Nat} (h : f n = true) : cntB f (n + 1) = cntB f n + 1 := by simp [cntB, List.range_succ, h]
theorem cntB_no {f : Nat → Bool} {n : Nat} (h : f n = false) : cntB f (n + 1) = cntB f n := by simp [cntB, List.range_succ, h]
theorem cntB_le {f : Nat → Bool} {n : Nat} : cntB f n ≤ n := Nat.le_trans (List.length_filter_le _ _) (by simp)
theorem cntB_congr {f g : Nat → Bool} {n : Nat} (h : ∀ x, x < n → f x = g x) : cntB f n = cntB g n := by
  unfold cntB
  rw [List.filter_congr fun x hx => h x (by simpa using hx)]
section
variable {F : PFunc} {a b x : Nat}
theorem headB_nat : headB F (a : Int) = true ↔ a ∈ headsL F F.blocks.length := by
  unfold headB
  rw [decide_eq_true_eq, Int.toNat_natCast]
  exact ⟨fun h => h.2, fun h => ⟨by omega, h⟩⟩
theorem lpB_nat (ha : a ∈ headsL F F.blocks.length) (hx : x < F.blocks.length) : lpB F (headB F (a : Int)) (a : Int) (x : Int) = inR F a x := by
  unfold lpB inR
  rw [headB_nat.2 ha, Int.toNat_natCast, Int.toNat_natCast]
  have : (x : Int) < (F.blocks.length : Int) := by omega
  simp [this]
theorem inR_iff (hx : x < F.blocks.length) : inR F a x = true ↔ inLp F a x := lpL_in hx
theorem nests_ok (ht : typedP F = true) (ha : a ∈ headsL F F.blocks.length) (hb : b ∈ headsL F F.blocks.length) :
    (cntB (fun x => inR F a x && inR F b x) F.blocks.length = 0 ∨ cntB (fun x => inR F a x && inR F b x) F.blocks.length = cntB (inR F a) F.blocks.length ∨ cntB (fun x => inR F a x && inR F b x) F.blocks.length = cntB (inR F b) F.blocks.length) ∧ 0 < cntB (inR F a) F.blocks.length := by
  obtain ⟨ha1, ha2⟩ := mem_headsL.1 ha
  obtain ⟨hb1, hb2⟩ := mem_headsL.1 hb
  constructor
  · rcases lp_nest ht ha2 hb2 with h | h | h
    · refine .inl ?_
      unfold cntB
      rw [List.length_eq_zero_iff, List.filter_eq_nil_iff]
      intro x hx hxx
      have hxn : x < F.blocks.length := by simpa using hx
      rw [Bool.and_eq_true, inR_iff hxn, inR_iff hxn] at hxx
      exact h x hxx
    · refine .inr (.inr (cntB_congr fun x hx => ?_))
      rw [Bool.eq_iff_iff, Bool.and_eq_true, inR_iff hx, inR_iff hx]
      exact ⟨fun h' => h'.2, fun h' => ⟨h x h', h'⟩⟩
    · refine .inr (.inl (cntB_congr fun x hx => ?_))
      rw [Bool.eq_iff_iff, Bool.and_eq_true, inR_iff hx, inR_iff hx]
      exact ⟨fun h' => h'.1, fun h' => ⟨h', h x h'⟩⟩
  · unfold cntB
    exact List.length_pos_of_mem (List.mem_filter.2 ⟨List.mem_range.2 ha1, inR_self ha1⟩)
end
set_option maxHeartbeats 8000000 in
theorem nests_law {W : World} {fv : Value} {F : PFunc} (hU : Uni W) (hF : FnV W W.heap.size fv F) :
    Calls Tryz.prog 4 #[fv] W fun e w' => e = .returned (.bool true) ∧ Below W.heap.size W w' := by
  have hlv := fun (w : World) (h : Below W.heap.size W w) => livesL_calls hU h
  have hty := fun (w : World) (h : Below W.heap.size W w) => lawTyped_calls hU hF h
  obtain ⟨w, rfl⟩ : ∃ w : World, w = W := ⟨_, rfl⟩
  obtain ⟨A0, c0, A1, c1, A2, c2, rfl, l0, l1, l2, -, -, -, r0, r1, r2⟩ := id hF.open_
  unfold Len at *
  have hb0 := (Below.refl w.heap.size w).alloc (Nat.le_refl _) (.cells #[.slice A0 F.vars.length c0, .slice A1 F.params.length c1, .slice A2 F.blocks.length c2] 26)
  cases hx : lawT F
  · rw [hx] at hty
    clear hx
    go_enter Tryz.func4, Tryz.ntmps4
    go_wp2_with fail
    refine (hlv _ (by (focus repeat (first | assumption | exact Below.refl _ _ | refine Below.drew ?_ | refine Below.alloc ?_ (by first | omega | exact Below.size (by assumption) | (simp; done) | (simp; omega)) _ | refine Below.setCell ?_ (by first | omega | exact Below.size (by assumption) | (simp; done) | (simp; omega)) _ | refine below_setRow ?_ (by first | omega | exact Below.size (by assumption) | (simp; done) | (simp; omega)) _ | (refine Below.trans ?_ (Below.mono (by assumption) ?_); rotate_left; exact (by first | omega | exact Below.size (by assumption) | (simp; done) | (simp; omega))))))).mono ?_
    (rintro e w1 ⟨rfl, hb1⟩; obtain ⟨hc1, hf1⟩ := bcell hb1; have hz1 := hb1.size; try simp at hz1; try have hy1 := Nat.lt_of_succ_le hz1; try have hx1 := Nat.lt_of_succ_lt hy1; try have hw1 := Nat.lt_of_succ_lt hx1)
    go_wp2_with fail
    refine (hty _ (by (focus repeat (first | assumption | exact Below.refl _ _ | refine Below.drew ?_ | refine Below.alloc ?_ (by first | omega | exact Below.size (by assumption) | (simp; done) | (simp; omega)) _ | refine Below.setCell ?_ (by first | omega | exact Below.size (by assumption) | (simp; done) | (simp; omega)) _ | refine below_setRow ?_ (by first | omega | exact Below.size (by assumption) | (simp; done) | (simp; omega)) _ | (refine Below.trans ?_ (Below.mono (by assumption) ?_); rotate_left; exact (by first | omega | exact Below.size (by assumption) | (simp; done) | (simp; omega))))))).mono ?_
    (rintro e w2 ⟨rfl, hb2⟩; obtain ⟨hc2, hf2⟩ := bcell hb2; have hz2 := hb2.size; try simp at hz2; try have hy2 := Nat.lt_of_succ_le hz2; try have hx2 := Nat.lt_of_succ_lt hy2; try have hw2 := Nat.lt_of_succ_lt hx2)
    go_wp2_with fail
    refine (hlv _ (by (focus repeat (first | assumption | exact Below.refl _ _ | refine Below.drew ?_ | refine Below.alloc ?_ (by first | omega | exact Below.size (by assumption) | (simp; done) | (simp; omega)) _ | refine Below.setCell ?_ (by first | omega | exact Below.size (by assumption) | (simp; done) | (simp; omega)) _ | refine below_setRow ?_ (by first | omega | exact Below.size (by assumption) | (simp; done) | (simp; omega)) _ | (refine Below.trans ?_ (Below.mono (by assumption) ?_); rotate_left; exact (by first | omega | exact Below.size (by assumption) | (simp; done) | (simp; omega))))))).mono ?_
    (rintro e w3 ⟨rfl, hb3⟩; obtain ⟨hc3, hf3⟩ := bcell hb3; have hz3 := hb3.size; try simp at hz3; try have hy3 := Nat.lt_of_succ_le hz3; try have hx3 := Nat.lt_of_succ_lt hy3; try have hw3 := Nat.lt_of_succ_lt hx3)
    go_wp2
    go_ret
    exact ⟨rfl, by (focus repeat (first | assumption | exact Below.refl _ _ | refine Below.drew ?_ | refine Below.alloc ?_ (by first | omega | exact Below.size (by assumption) | (simp; done) | (simp; omega)) _ | refine Below.setCell ?_ (by first | omega | exact Below.size (by assumption) | (simp; done) | (simp; omega)) _ | refine below_setRow ?_ (by first | omega | exact Below.size (by assumption) | (simp; done) | (simp; omega)) _ | (refine Below.trans ?_ (Below.mono (by assumption) ?_); rotate_left; exact (by first | omega | exact Below.size (by assumption) | (simp; done) | (simp; omega)))))⟩
  rw [hx] at hty
  have hx2 : fewB F = true ∧ typedP F = true := by
    unfold lawT at hx
    simpa using hx
  have hS := few_small hx2.1
  have hT := hx2.2
  have hn := fun (w' : World) (h : Below w.heap.size w w') => loopNew_calls hU hF h hS hT
  obtain ⟨n1, n2⟩ := shaped_count (typed_shaped hT)
  have HT := Lib.hid hT
  clear hx hx2 hT hS
  go_enter Tryz.func4, Tryz.ntmps4
  go_wp2_with fail
  refine (hlv _ (by (focus repeat (first | assumption | exact Below.refl _ _ | refine Below.drew ?_ | refine Below.alloc ?_ (by first | omega | exact Below.size (by assumption) | (simp; done) | (simp; omega)) _ | refine Below.setCell ?_ (by first | omega | exact Below.size (by assumption) | (simp; done) | (simp; omega)) _ | refine below_setRow ?_ (by first | omega | exact Below.size (by assumption) | (simp; done) | (simp; omega)) _ | (refine Below.trans ?_ (Below.mono (by assumption) ?_); rotate_left; exact (by first | omega | exact Below.size (by assumption) | (simp; done) | (simp; omega))))))).mono ?_
  (rintro e w1 ⟨rfl, hb1⟩; obtain ⟨hc1, hf1⟩ := bcell hb1; have hz1 := hb1.size; try simp at hz1; try have hy1 := Nat.lt_of_succ_le hz1; try have hx1 := Nat.lt_of_succ_lt hy1; try have hw1 := Nat.lt_of_succ_lt hx1)
  go_wp2_with fail
  refine (hty _ (by (focus repeat (first | assumption | exact Below.refl _ _ | refine Below.drew ?_ | refine Below.alloc ?_ (by first | omega | exact Below.size (by assumption) | (simp; done) | (simp; omega)) _ | refine Below.setCell ?_ (by first | omega | exact Below.size (by assumption) | (simp; done) | (simp; omega)) _ | refine below_setRow ?_ (by first | omega | exact Below.size (by assumption) | (simp; done) | (simp; omega)) _ | (refine Below.trans ?_ (Below.mono (by assumption) ?_); rotate_left; exact (by first | omega | exact Below.size (by assumption) | (simp; done) | (simp; omega))))))).mono ?_
  (rintro e w2 ⟨rfl, hb2⟩; obtain ⟨hc2, hf2⟩ := bcell hb2; have hz2 := hb2.size; try simp at hz2; try have hy2 := Nat.lt_of_succ_le hz2; try have hx2 := Nat.lt_of_succ_lt hy2; try have hw2 := Nat.lt_of_succ_lt hx2)
  go_wp2_with fail
  refine (hn _ (by (focus repeat (first | assumption | exact Below.refl _ _ | refine Below.drew ?_ | refine Below.alloc ?_ (by first | omega | exact Below.size (by assumption) | (simp; done) | (simp; omega)) _ | refine Below.setCell ?_ (by first | omega | exact Below.size (by assumption) | (simp; done) | (simp; omega)) _ | refine below_setRow ?_ (by first | omega | exact Below.size (by assumption) | (simp; done) | (simp; omega)) _ | (refine Below.trans ?_ (Below.mono (by assumption) ?_); rotate_left; exact (by first | omega | exact Below.size (by assumption) | (simp; done) | (simp; omega))))))).mono ?_
  rintro e w3 ⟨nb, mb, ve, vs, es, clk, rfl, hN, hb3⟩
  have hX2 : Below (w.heap.size + 1) (w.alloc (.cells #[.slice A0 F.vars.length c0, .slice A1 F.params.length c1, .slice A2 F.blocks.length c2] 26)) w2 := by
    refine Below.trans ?_ (hb2.mono (by omega))
    simpa using hb1
  have hX3 := hX2.trans (hb3.mono (by have := hX2.size; simpa using this))
  have hB3 : Below w.heap.size w w3 := hb0.trans (hX3.mono (Nat.le_succ _))
  have hhd := heads_calls hN n1 n2 w3 (Below.refl _ _)
  have HIN := Lib.hid (fun (wr : World) (h : Below w3.heap.size w3 wr) (a x : Nat) (ha : a ∈ headsL F F.blocks.length) (hx : x < F.blocks.length) => by
    have han := (mem_headsL.1 ha).1
    have h1 := nin_calls (b := (x : Int)) (nof_calls (hN.below h) n2 (a : Int) (by omega) (by omega))
    rwa [lpB_nat ha hx] at h1)
  have HX3 := Lib.hid hX3
  have HB3 := Lib.hid hB3
  clear hc1 hf1 hc2 hf2 hN hlv hty hn hb3 hb1 hb2 hX2 hX3 hB3
  go_wp2_with fail
  refine hhd.mono ?_
  rintro e w5 ⟨v5, rfl, ho5, hb5⟩
  obtain ⟨Ah, ch, rfl⟩ := own_form ho5
  have HO5 := Lib.hid ho5
  have HB5 := Lib.hid hb5
  have HM := Lib.hid (fun a (ha : a ∈ headsL F F.blocks.length) => ha)
  obtain ⟨hl, hhl⟩ : ∃ hl, headsL F F.blocks.length = hl := ⟨_, rfl⟩
  have HHL := Lib.hid hhl
  have hll : hl.length ≤ 64 := by rw [← hhl]; exact Nat.le_trans headsL_le n2
  rw [hhl] at HO5 ⊢
  clear hhd ho5 hb5 hhl HM
  go_wp2
  go_loopw [35] (fun x wr => ∃ i : Nat, x = .int .i64 i ∧ i ≤ hl.length ∧ Below w5.heap.size w5 wr) (fun x _ => hl.length - (intOf x).toNat)
  case atStart => exact ⟨0, rfl, Nat.zero_le _, Below.refl _ _⟩
  case round => as_aux_lemma =>
    obtain ⟨i, rfl, hi, hb⟩ := hrel
    by_cases hlt : i < hl.length
    · obtain ⟨a, hai⟩ : ∃ a, hl[i]? = some a := ⟨_, List.getElem?_eq_getElem hlt⟩
      have ham : a ∈ headsL F F.blocks.length := by rw [HHL.out]; exact List.mem_of_getElem? hai
      have ho := own_below HO5.out hb
      obtain ⟨gh, ch', hvh, hghl, -⟩ := own_pos ho (by omega)
      cases hvh
      have hca := ho.cellAt i (by omega)
      rw [show ((ints hl).map (Value.int .i64))[i]? = some (.int .i64 (a : Int)) by simp [ints, hai]] at hca
      have HB := Lib.hid hb
      have HAM := Lib.hid ham
      obtain ⟨wq, rfl⟩ : ∃ wq : World, wq = wr := ⟨_, rfl⟩
      clear ho hb hai ham
      go_wp2
      clear hca hghl
      go_loopw [41] (fun x wr => ∃ j : Nat, x = .int .i64 j ∧ j ≤ hl.length ∧ Below w5.heap.size w5 wr) (fun x _ => hl.length - (intOf x).toNat)
      case atStart => exact ⟨0, rfl, Nat.zero_le _, HB.out⟩
      case round => as_aux_lemma =>
        clear HB
        obtain ⟨j, rfl, hj, hb⟩ := hrel
        by_cases hjl : j < hl.length
        · obtain ⟨b, hbj⟩ : ∃ b, hl[j]? = some b := ⟨_, List.getElem?_eq_getElem hjl⟩
          have hbm : b ∈ headsL F F.blocks.length := by rw [HHL.out]; exact List.mem_of_getElem? hbj
          have ho := own_below HO5.out hb
          have hghl := (ho.lt gh rfl).2
          have hcb := ho.cellAt j (by omega)
          rw [show ((ints hl).map (Value.int .i64))[j]? = some (.int .i64 (b : Int)) by simp [ints, hbj]] at hcb
          have hb35 := HB5.out.trans (hb.mono HB5.out.size)
          obtain ⟨q, q0, q1, q2⟩ := box3 (HX3.out.trans (hb35.mono (by have := HX3.out.size; simpa using this)))
          have HB := Lib.hid hb
          have HBM := Lib.hid hbm
          obtain ⟨wp, rfl⟩ : ∃ wp : World, wp = wr := ⟨_, rfl⟩
          clear ho hb hbj hbm hb35
          go_wp2
          clear q q0 q1 q2 hcb hghl
          go_loopw [48, 10, 11, 12] (fun x x10 x11 x12 wr => ∃ k : Nat, x = .int .i64 k ∧ x10 = .int .i64 (cntB (fun x => inR F a x && inR F b x) k : Nat) ∧ x11 = .int .i64 (cntB (inR F a) k : Nat) ∧ x12 = .int .i64 (cntB (inR F b) k : Nat) ∧ k ≤ F.blocks.length ∧ Below w5.heap.size w5 wr) (fun x _ _ _ _ => F.blocks.length - (intOf x).toNat)
          case atStart => exact ⟨0, rfl, rfl, rfl, rfl, Nat.zero_le _, HB.out⟩
          case round => as_aux_lemma =>
            clear HB
            obtain ⟨k, rfl, rfl, rfl, rfl, hk, hb⟩ := hrel
            by_cases hkl : k < F.blocks.length
            · have hb3r := HB5.out.trans (hb.mono HB5.out.size)
              have hp := HIN.out wr hb3r a k HAM.out hkl
              have hq := fun (w8 : World) (h8 : Below wr.heap.size wr w8) => HIN.out w8 (hb3r.trans (h8.mono hb3r.size)) b k HBM.out hkl
              obtain ⟨p, hp'⟩ : ∃ p, inR F a k = p := ⟨_, rfl⟩
              obtain ⟨q, hq'⟩ : ∃ q, inR F b k = q := ⟨_, rfl⟩
              rw [hp'] at hp
              rw [hq'] at hq
              have l1 := cntB_le (f := fun x => inR F a x && inR F b x) (n := k)
              have l2 := cntB_le (f := inR F a) (n := k)
              have l3 := cntB_le (f := inR F b) (n := k)
              have hm1 : cntB (fun x => inR F a x && inR F b x) (k + 1) = cntB (fun x => inR F a x && inR F b x) k + (p && q).toNat := by
                rw [← hp', ← hq']
                cases e : (inR F a k && inR F b k)
                · rw [cntB_no (f := fun x => inR F a x && inR F b x) e]; rfl
                · rw [cntB_yes (f := fun x => inR F a x && inR F b x) e]; rfl
              have hm2 : cntB (inR F a) (k + 1) = cntB (inR F a) k + p.toNat := by
                rw [← hp']
                cases e : inR F a k
                · rw [cntB_no e]; rfl
                · rw [cntB_yes e]; rfl
              have hm3 : cntB (inR F b) (k + 1) = cntB (inR F b) k + q.toNat := by
                rw [← hq']
                cases e : inR F b k
                · rw [cntB_no e]; rfl
                · rw [cntB_yes e]; rfl
              have M1 := Lib.hid hm1
              have M2 := Lib.hid hm2
              have M3 := Lib.hid hm3
              have HB := Lib.hid hb
              clear hm1 hm2 hm3 hb hb3r hp' hq'
              generalize cntB (fun x => inR F a x && inR F b x) k = N1 at *
              generalize cntB (inR F a) k = N2 at *
              generalize cntB (inR F b) k = N3 at *
              cases p <;> cases q
              all_goals
                as_aux_lemma =>
                go_wp2_with fail
                refine hp.mono ?_
                rintro e w8 ⟨rfl, hb8⟩
                go_wp2_with fail
                refine (hq w8 hb8).mono ?_
                rintro e w9 ⟨rfl, hb9⟩
                have hb89 := hb8.trans (hb9.mono hb8.size)
                go_wp2
                go_roundw
                case rel => exact ⟨k + 1, by go_num, by rw [M1.out]; first | rfl | go_num, by rw [M2.out]; first | rfl | go_num, by rw [M3.out]; first | rfl | go_num, by omega, HB.out.trans (hb89.mono HB.out.size)⟩
                case measure => simp [intOf]; omega
            · obtain rfl : k = F.blocks.length := by omega
              obtain ⟨h1, h2⟩ := nests_ok HT.out HAM.out HBM.out
              have HB := Lib.hid hb
              clear hb
              generalize cntB (fun x => inR F a x && inR F b x) F.blocks.length = N1 at *
              generalize cntB (inR F a) F.blocks.length = N2 at *
              generalize cntB (inR F b) F.blocks.length = N3 at *
              have f4 : ((N2 : Int) == 0) = false := by rw [beq_eq_false_iff_ne]; omega
              have f0 : ((N1 : Int) != 0) = false ∨ ((N1 : Int) != 0) = true ∧ (((N1 : Int) != (N2 : Int)) = false ∨ ((N1 : Int) != (N2 : Int)) = true ∧ ((N1 : Int) != (N3 : Int)) = false) := by
                by_cases e : N1 = 0
                · exact .inl (by simp [e])
                · refine .inr ⟨by rw [bne_iff_ne]; omega, ?_⟩
                  by_cases e2 : N1 = N2
                  · exact .inl (by simp [e2])
                  · refine .inr ⟨by rw [bne_iff_ne]; omega, ?_⟩
                    have e3 : N1 = N3 := by omega
                    simp [e3]
              clear h1 h2
              rcases f0 with f1 | ⟨f1, f2 | ⟨f2, f3⟩⟩
              all_goals
                as_aux_lemma =>
                go_wp2
                go_roundw
                case rel => exact ⟨j + 1, by go_num, by omega, HB.out⟩
                case measure => simp [intOf]; omega
        · obtain rfl : j = hl.length := by omega
          have HB := Lib.hid hb
          clear hb
          go_wp2
          go_roundw
          case rel => exact ⟨i + 1, by go_num, by omega, HB.out⟩
          case measure => simp [intOf]; omega
    · obtain rfl : i = hl.length := by omega
      have HB := Lib.hid hb
      clear hb
      go_wp2
      go_ret
      have h35 := HB5.out.trans (HB.out.mono HB5.out.size)
      exact ⟨rfl, HB3.out.trans (h35.mono HB3.out.size)⟩
end Go.Proofs.YteajnaabbddohaaGreatDoor
