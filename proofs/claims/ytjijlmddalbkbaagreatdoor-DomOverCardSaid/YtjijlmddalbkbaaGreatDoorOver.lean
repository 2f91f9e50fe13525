/- The walk of the law DomOver: it returns true, whatever the program. -/
import Derived.Test.YtjijlmddalbkbaaGreatDoorLiveD
import Derived.Test.YtjijlmddalbkbaaGreatDoorTable
import Derived.Test.YtjijlmddalbkbaaGreatDoorNewP
namespace Go.Proofs.YtjijlmddalbkbaaGreatDoor
open Go.RowKit
set_option maxRecDepth 100000

theorem orderNil_calls {w : World} : Calls Tryz.prog 33 #[.pointer none] w fun e w' => e = .returned (.slice none 0 0) ∧ w' = w := by
  go_enter Tryz.func33, Tryz.ntmps33
  go_wp2
  go_ret
  exact ⟨rfl, rfl⟩
open Classical in
/-- the tree's word and the table's. -/
theorem over_tab {F : PFunc} {L : List (Option Nat)} (t : NearOk F.blocks.length (OR F) (PR F) L) {x y : Nat} : overB (OR F) L (x : Int) (y : Int) = tabB F x y := by
  rw [Bool.eq_iff_iff, tabB_iff]
  unfold overB tabP
  rw [inO_nat, inO_nat]
  simp only [Bool.and_eq_true, decide_eq_true_eq, Int.toNat_natCast]
  constructor
  · rintro ⟨⟨h1, h2⟩, h3⟩
    exact ⟨h1, h2, .inr ((t.dom h2).1 h3)⟩
  · rintro ⟨h1, h2, h3⟩
    refine ⟨⟨h1, h2⟩, ?_⟩
    rcases h3 with rfl | h3
    · exact .refl
    · exact (t.dom h2).2 h3
theorem over_no {n : Nat} {O : List Nat} {P : Nat → List Nat} {L : List (Option Nat)} (g : GrOk n O P) {a b : Int} (h : a < 0 ∨ (n : Int) ≤ a ∨ b < 0 ∨ (n : Int) ≤ b) : overB O L a b = false := by
  have key : ∀ z : Int, z < 0 ∨ (n : Int) ≤ z → inO O z = false := fun z hz => by
    unfold inO
    rw [decide_eq_false_iff_not]
    rintro ⟨h1, h2⟩
    have := g.lt _ h2
    omega
  unfold overB
  rcases h with h | h | h | h
  · rw [key a (.inl h)]; rfl
  · rw [key a (.inr h)]; rfl
  · rw [key b (.inl h)]; simp
  · rw [key b (.inr h)]; simp
theorem over_num {n y : Nat} (h : (y : Int) < (n : Int)) : -1 ≤ (y : Int) + 1 ∧ (y : Int) + 1 ≤ (n : Int) + 1 ∧ ((n : Int) + 1 - ((y : Int) + 1)).toNat < ((n : Int) + 1 - (y : Int)).toNat := by
  refine ⟨?_, ?_, ?_⟩ <;> omega
set_option maxHeartbeats 8000000 in
theorem over_law {W : World} {fv : Value} {F : PFunc} (hU : Uni W) (hF : FnV W W.heap.size fv F) :
    Calls Tryz.prog 7 #[fv] W fun e w' => e = .returned (.bool true) ∧ Below W.heap.size W w' := by
  have hlv := fun (w : World) (h : Below W.heap.size W w) => livesD_calls hU h
  have hfw := fun (w : World) (h : Below W.heap.size W w) => few_calls hF h
  have hty := fun (w : World) (h : Below W.heap.size W w) => lawTyped_calls hU hF h
  obtain ⟨w, rfl⟩ : ∃ w : World, w = W := ⟨_, rfl⟩
  obtain ⟨A0, c0, A1, c1, A2, c2, rfl, l0, l1, l2, -, -, -, r0, r1, r2⟩ := id hF.open_
  unfold Len at *
  have hb0 := (Below.refl w.heap.size w).alloc (Nat.le_refl _) (.cells #[.slice A0 F.vars.length c0, .slice A1 F.params.length c1, .slice A2 F.blocks.length c2] 26)
  cases hx : fewB F
  · rw [hx] at hfw
    clear hx
    go_enter Tryz.func7, Tryz.ntmps7
    go_wp2_with fail
    refine (hlv _ (by (focus repeat (first | assumption | exact Below.refl _ _ | refine Below.drew ?_ | refine Below.alloc ?_ (by first | omega | exact Below.size (by assumption) | (simp; done) | (simp; omega)) _ | refine Below.setCell ?_ (by first | omega | exact Below.size (by assumption) | (simp; done) | (simp; omega)) _ | refine below_setRow ?_ (by first | omega | exact Below.size (by assumption) | (simp; done) | (simp; omega)) _ | (refine Below.trans ?_ (Below.mono (by assumption) ?_); rotate_left; exact (by first | omega | exact Below.size (by assumption) | (simp; done) | (simp; omega))))))).mono ?_
    (rintro e w1 ⟨rfl, hb1⟩; obtain ⟨hc1, hf1⟩ := bcell hb1; have hz1 := hb1.size; try simp at hz1; try have hy1 := Nat.lt_of_succ_le hz1; try have hx1 := Nat.lt_of_succ_lt hy1; try have hw1 := Nat.lt_of_succ_lt hx1)
    go_wp2_with fail
    refine (hfw _ (by (focus repeat (first | assumption | exact Below.refl _ _ | refine Below.drew ?_ | refine Below.alloc ?_ (by first | omega | exact Below.size (by assumption) | (simp; done) | (simp; omega)) _ | refine Below.setCell ?_ (by first | omega | exact Below.size (by assumption) | (simp; done) | (simp; omega)) _ | refine below_setRow ?_ (by first | omega | exact Below.size (by assumption) | (simp; done) | (simp; omega)) _ | (refine Below.trans ?_ (Below.mono (by assumption) ?_); rotate_left; exact (by first | omega | exact Below.size (by assumption) | (simp; done) | (simp; omega))))))).mono ?_
    (rintro e w2 ⟨rfl, hb2⟩; obtain ⟨hc2, hf2⟩ := bcell hb2; have hz2 := hb2.size; try simp at hz2; try have hy2 := Nat.lt_of_succ_le hz2; try have hx2 := Nat.lt_of_succ_lt hy2; try have hw2 := Nat.lt_of_succ_lt hx2)
    go_wp2_with fail
    refine (hlv _ (by (focus repeat (first | assumption | exact Below.refl _ _ | refine Below.drew ?_ | refine Below.alloc ?_ (by first | omega | exact Below.size (by assumption) | (simp; done) | (simp; omega)) _ | refine Below.setCell ?_ (by first | omega | exact Below.size (by assumption) | (simp; done) | (simp; omega)) _ | refine below_setRow ?_ (by first | omega | exact Below.size (by assumption) | (simp; done) | (simp; omega)) _ | (refine Below.trans ?_ (Below.mono (by assumption) ?_); rotate_left; exact (by first | omega | exact Below.size (by assumption) | (simp; done) | (simp; omega))))))).mono ?_
    (rintro e w3 ⟨rfl, hb3⟩; obtain ⟨hc3, hf3⟩ := bcell hb3; have hz3 := hb3.size; try simp at hz3; try have hy3 := Nat.lt_of_succ_le hz3; try have hx3 := Nat.lt_of_succ_lt hy3; try have hw3 := Nat.lt_of_succ_lt hx3)
    go_wp2
    go_ret
    exact ⟨rfl, by (focus repeat (first | assumption | exact Below.refl _ _ | refine Below.drew ?_ | refine Below.alloc ?_ (by first | omega | exact Below.size (by assumption) | (simp; done) | (simp; omega)) _ | refine Below.setCell ?_ (by first | omega | exact Below.size (by assumption) | (simp; done) | (simp; omega)) _ | refine below_setRow ?_ (by first | omega | exact Below.size (by assumption) | (simp; done) | (simp; omega)) _ | (refine Below.trans ?_ (Below.mono (by assumption) ?_); rotate_left; exact (by first | omega | exact Below.size (by assumption) | (simp; done) | (simp; omega)))))⟩
  rw [hx] at hfw
  have hS := few_small hx
  cases hT : typedP F
  · have hn := fun (w' : World) (h : Below w.heap.size w w') => newNo_calls hU hF h hS hT
    rw [show lawT F = false by rw [lawT, hT]; simp] at hty
    clear hx hT
    go_enter Tryz.func7, Tryz.ntmps7
    go_wp2_with fail
    refine (hlv _ (by (focus repeat (first | assumption | exact Below.refl _ _ | refine Below.drew ?_ | refine Below.alloc ?_ (by first | omega | exact Below.size (by assumption) | (simp; done) | (simp; omega)) _ | refine Below.setCell ?_ (by first | omega | exact Below.size (by assumption) | (simp; done) | (simp; omega)) _ | refine below_setRow ?_ (by first | omega | exact Below.size (by assumption) | (simp; done) | (simp; omega)) _ | (refine Below.trans ?_ (Below.mono (by assumption) ?_); rotate_left; exact (by first | omega | exact Below.size (by assumption) | (simp; done) | (simp; omega))))))).mono ?_
    (rintro e w1 ⟨rfl, hb1⟩; obtain ⟨hc1, hf1⟩ := bcell hb1; have hz1 := hb1.size; try simp at hz1; try have hy1 := Nat.lt_of_succ_le hz1; try have hx1 := Nat.lt_of_succ_lt hy1; try have hw1 := Nat.lt_of_succ_lt hx1)
    go_wp2_with fail
    refine (hfw _ (by (focus repeat (first | assumption | exact Below.refl _ _ | refine Below.drew ?_ | refine Below.alloc ?_ (by first | omega | exact Below.size (by assumption) | (simp; done) | (simp; omega)) _ | refine Below.setCell ?_ (by first | omega | exact Below.size (by assumption) | (simp; done) | (simp; omega)) _ | refine below_setRow ?_ (by first | omega | exact Below.size (by assumption) | (simp; done) | (simp; omega)) _ | (refine Below.trans ?_ (Below.mono (by assumption) ?_); rotate_left; exact (by first | omega | exact Below.size (by assumption) | (simp; done) | (simp; omega))))))).mono ?_
    (rintro e w2 ⟨rfl, hb2⟩; obtain ⟨hc2, hf2⟩ := bcell hb2; have hz2 := hb2.size; try simp at hz2; try have hy2 := Nat.lt_of_succ_le hz2; try have hx2 := Nat.lt_of_succ_lt hy2; try have hw2 := Nat.lt_of_succ_lt hx2)
    go_wp2_with fail
    refine (hn _ (by (focus repeat (first | assumption | exact Below.refl _ _ | refine Below.drew ?_ | refine Below.alloc ?_ (by first | omega | exact Below.size (by assumption) | (simp; done) | (simp; omega)) _ | refine Below.setCell ?_ (by first | omega | exact Below.size (by assumption) | (simp; done) | (simp; omega)) _ | refine below_setRow ?_ (by first | omega | exact Below.size (by assumption) | (simp; done) | (simp; omega)) _ | (refine Below.trans ?_ (Below.mono (by assumption) ?_); rotate_left; exact (by first | omega | exact Below.size (by assumption) | (simp; done) | (simp; omega))))))).mono ?_
    rintro e w3 ⟨rfl, hb3⟩
    have hX2 : Below (w.heap.size + 1) (w.alloc (.cells #[.slice A0 F.vars.length c0, .slice A1 F.params.length c1, .slice A2 F.blocks.length c2] 26)) w2 := by
      refine Below.trans ?_ (hb2.mono (by omega))
      simpa using hb1
    have hX3 := hX2.trans (hb3.mono (by have := hX2.size; simpa using this))
    obtain ⟨p, p0, p1, p2⟩ := box3 hX3
    have hB3 : Below w.heap.size w w3 := hb0.trans (hX3.mono (Nat.le_succ _))
    clear hc1 hf1 hc2 hf2
    go_wp2_with fail
    refine (hty _ hB3).mono ?_
    rintro e w4 ⟨rfl, hb4⟩
    go_wp2_with fail
    refine (overNil_calls _ _).mono ?_
    rintro e w5 ⟨rfl, hw5⟩
    subst w5
    go_wp2_with fail
    refine orderNil_calls.mono ?_
    rintro e w5 ⟨rfl, hw5⟩
    subst w5
    go_wp2
    go_ret
    exact ⟨rfl, hB3.trans (hb4.mono hB3.size)⟩
  have hn := fun (w' : World) (h : Below w.heap.size w w') => newYes_calls hU hF h hS hT
  have htb := fun (w' : World) (h : Below w.heap.size w w') => table_calls hF h hT
  have G := Lib.hid (gr_of hT)
  obtain ⟨n1, n2⟩ := shaped_count (typed_shaped hT)
  rw [show lawT F = true by rw [lawT, hT, hx]; simp] at hty
  clear hx hT hS
  go_enter Tryz.func7, Tryz.ntmps7
  go_wp2_with fail
  refine (hlv _ (by (focus repeat (first | assumption | exact Below.refl _ _ | refine Below.drew ?_ | refine Below.alloc ?_ (by first | omega | exact Below.size (by assumption) | (simp; done) | (simp; omega)) _ | refine Below.setCell ?_ (by first | omega | exact Below.size (by assumption) | (simp; done) | (simp; omega)) _ | refine below_setRow ?_ (by first | omega | exact Below.size (by assumption) | (simp; done) | (simp; omega)) _ | (refine Below.trans ?_ (Below.mono (by assumption) ?_); rotate_left; exact (by first | omega | exact Below.size (by assumption) | (simp; done) | (simp; omega))))))).mono ?_
  (rintro e w1 ⟨rfl, hb1⟩; obtain ⟨hc1, hf1⟩ := bcell hb1; have hz1 := hb1.size; try simp at hz1; try have hy1 := Nat.lt_of_succ_le hz1; try have hx1 := Nat.lt_of_succ_lt hy1; try have hw1 := Nat.lt_of_succ_lt hx1)
  go_wp2_with fail
  refine (hfw _ (by (focus repeat (first | assumption | exact Below.refl _ _ | refine Below.drew ?_ | refine Below.alloc ?_ (by first | omega | exact Below.size (by assumption) | (simp; done) | (simp; omega)) _ | refine Below.setCell ?_ (by first | omega | exact Below.size (by assumption) | (simp; done) | (simp; omega)) _ | refine below_setRow ?_ (by first | omega | exact Below.size (by assumption) | (simp; done) | (simp; omega)) _ | (refine Below.trans ?_ (Below.mono (by assumption) ?_); rotate_left; exact (by first | omega | exact Below.size (by assumption) | (simp; done) | (simp; omega))))))).mono ?_
  (rintro e w2 ⟨rfl, hb2⟩; obtain ⟨hc2, hf2⟩ := bcell hb2; have hz2 := hb2.size; try simp at hz2; try have hy2 := Nat.lt_of_succ_le hz2; try have hx2 := Nat.lt_of_succ_lt hy2; try have hw2 := Nat.lt_of_succ_lt hx2)
  go_wp2_with fail
  refine (hn _ (by (focus repeat (first | assumption | exact Below.refl _ _ | refine Below.drew ?_ | refine Below.alloc ?_ (by first | omega | exact Below.size (by assumption) | (simp; done) | (simp; omega)) _ | refine Below.setCell ?_ (by first | omega | exact Below.size (by assumption) | (simp; done) | (simp; omega)) _ | refine below_setRow ?_ (by first | omega | exact Below.size (by assumption) | (simp; done) | (simp; omega)) _ | (refine Below.trans ?_ (Below.mono (by assumption) ?_); rotate_left; exact (by first | omega | exact Below.size (by assumption) | (simp; done) | (simp; omega))))))).mono ?_
  rintro e w3 ⟨v, rfl, ⟨tb, gn, gl, gk, gf, L, V, rfl, hD⟩, hb3⟩
  have hX2 : Below (w.heap.size + 1) (w.alloc (.cells #[.slice A0 F.vars.length c0, .slice A1 F.params.length c1, .slice A2 F.blocks.length c2] 26)) w2 := by
    refine Below.trans ?_ (hb2.mono (by omega))
    simpa using hb1
  have hX3 := hX2.trans (hb3.mono (by have := hX2.size; simpa using this))
  obtain ⟨p, p0, p1, p2⟩ := box3 hX3
  have hB3 : Below w.heap.size w w3 := hb0.trans (hX3.mono (Nat.le_succ _))
  clear hc1 hf1 hc2 hf2
  go_wp2_with fail
  refine (hty _ hB3).mono ?_
  rintro e w4 ⟨rfl, hb4⟩
  have hX4 := hX3.trans (hb4.mono (by have := hX3.size; simpa using this))
  obtain ⟨p', p0', p1', p2'⟩ := box3 hX4
  have hB4 : Below w.heap.size w w4 := hb0.trans (hX4.mono (Nat.le_succ _))
  clear p p0 p1 p2
  go_wp2_with fail
  refine (htb _ hB4).mono ?_
  rintro e w5 ⟨v, rfl, ⟨b0, c, rfl, hnc, hb0', hTab⟩, hb5⟩
  have hX5 := hX4.trans (hb5.mono (by have := hX4.size; simpa using this))
  obtain ⟨q, q0, q1, q2⟩ := box3 hX5
  have hB5 : Below w.heap.size w w5 := hb0.trans (hX5.mono (Nat.le_succ _))
  have hD5 := hD.keep (Kept.of_below (hb4.trans (hb5.mono hb4.size))) (Nat.le_trans hb4.size hb5.size)
  have HTab := Lib.hid hTab
  have HD5 := Lib.hid hD5
  clear p' p0' p1' p2' hD hD5 hTab hlv hfw hty hn htb
  go_wp2
  go_loopw [7] (fun i wr => ∃ a : Int, i = .int .i64 a ∧ -1 ≤ a ∧ a ≤ (F.blocks.length : Int) + 1 ∧ Below w5.heap.size w5 wr) (fun i _ => ((F.blocks.length : Int) + 1 - intOf i).toNat)
  case atStart => exact ⟨-1, rfl, by omega, by omega, Below.refl _ _⟩
  case round => as_aux_lemma =>
    obtain ⟨a, rfl, ha1, ha2, hb⟩ := hrel
    by_cases hal : a ≤ (F.blocks.length : Int)
    · obtain ⟨wq, rfl⟩ : ∃ wq : World, wq = wr := ⟨_, rfl⟩
      go_wp2
      go_loopw [8] (fun i wr => ∃ b : Int, i = .int .i64 b ∧ -1 ≤ b ∧ b ≤ (F.blocks.length : Int) + 1 ∧ Below w5.heap.size w5 wr) (fun i _ => ((F.blocks.length : Int) + 1 - intOf i).toNat)
      case atStart => exact ⟨-1, rfl, by omega, by omega, hb⟩
      case round => as_aux_lemma =>
        clear hb
        obtain ⟨b, rfl, hbm1, hbm2, hb⟩ := hrel
        by_cases hbl : b ≤ (F.blocks.length : Int)
        · have hwa : wrap64 (a + 1) = a + 1 := by unfold wrap64; omega
          have hwb : wrap64 (b + 1) = b + 1 := by unfold wrap64; omega
          have hov := fun (k : Nat) => overQ_calls G.out (HD5.out.keep (Kept.of_below (bdrewM hb k)) (bdrewM hb k).size) a b
          by_cases h1 : a < 0
          · as_aux_lemma =>
            rw [over_no (L := L) G.out (a := a) (b := b) (.inl h1)] at hov
            have f1 : ¬ 0 ≤ a := by omega
            go_wp2_with fail
            go_quiet (first | (go_at_call 31; exact Calls.quiet_of (hov _)))
            go_wp2
            go_roundw
            case rel => exact ⟨b + 1, by go_num, by omega, by omega, bdrewM hb _⟩
            case measure => simp [intOf]; omega
          by_cases h2 : (F.blocks.length : Int) ≤ a
          · as_aux_lemma =>
            rw [over_no (L := L) G.out (a := a) (b := b) (.inr (.inl h2))] at hov
            have f1 : 0 ≤ a := by omega
            have f2 : ¬ a < (F.blocks.length : Int) := by omega
            go_wp2_with fail
            go_quiet (first | (go_at_call 31; exact Calls.quiet_of (hov _)))
            go_wp2
            go_roundw
            case rel => exact ⟨b + 1, by go_num, by omega, by omega, bdrewM hb _⟩
            case measure => simp [intOf]; omega
          by_cases h3 : b < 0
          · as_aux_lemma =>
            rw [over_no (L := L) G.out (a := a) (b := b) (.inr (.inr (.inl h3)))] at hov
            have f1 : 0 ≤ a := by omega
            have f2 : a < (F.blocks.length : Int) := by omega
            have f3 : ¬ 0 ≤ b := by omega
            go_wp2_with fail
            go_quiet (first | (go_at_call 31; exact Calls.quiet_of (hov _)))
            go_wp2
            go_roundw
            case rel => exact ⟨b + 1, by go_num, by omega, by omega, bdrewM hb _⟩
            case measure => simp [intOf]; omega
          by_cases h4 : (F.blocks.length : Int) ≤ b
          · as_aux_lemma =>
            rw [over_no (L := L) G.out (a := a) (b := b) (.inr (.inr (.inr h4)))] at hov
            have f1 : 0 ≤ a := by omega
            have f2 : a < (F.blocks.length : Int) := by omega
            have f3 : 0 ≤ b := by omega
            have f4 : ¬ b < (F.blocks.length : Int) := by omega
            go_wp2_with fail
            go_quiet (first | (go_at_call 31; exact Calls.quiet_of (hov _)))
            go_wp2
            go_roundw
            case rel => exact ⟨b + 1, by go_num, by omega, by omega, bdrewM hb _⟩
            case measure => simp [intOf]; omega
          · as_aux_lemma =>
            replace hwa := Lib.hid hwa
            replace hwb := Lib.hid hwb
            have ea : a = (a.toNat : Int) := (Int.toNat_of_nonneg (Int.not_lt.1 h1)).symm
            have eb : b = (b.toNat : Int) := (Int.toNat_of_nonneg (Int.not_lt.1 h3)).symm
            generalize a.toNat = x at ea
            generalize b.toNat = y at eb
            subst ea
            subst eb
            have f2 : (x : Int) < (F.blocks.length : Int) := Int.not_le.1 h2
            have f4 : (y : Int) < (F.blocks.length : Int) := Int.not_le.1 h4
            have f1 : (0 : Int) ≤ x := Int.natCast_nonneg x
            have f3 : (0 : Int) ≤ y := Int.natCast_nonneg y
            have hxn : x < F.blocks.length := Int.ofNat_lt.1 f2
            have hyn : y < F.blocks.length := Int.ofNat_lt.1 f4
            have m1 : max (x : Int) 0 = (x : Int) := Int.max_eq_left f1
            have m2 : max (y : Int) 0 = (y : Int) := Int.max_eq_left f3
            have t1 : (x : Int).tmod (F.blocks.length : Int) = (x : Int) := Int.tmod_eq_of_lt f1 f2
            have t2 : (y : Int).tmod (F.blocks.length : Int) = (y : Int) := Int.tmod_eq_of_lt f3 f4
            have n0 : ((F.blocks.length : Int) == 0) = false := by rw [beq_eq_false_iff_ne]; exact fun e => by rw [e] at f2; exact absurd f1 (Int.not_le.2 f2)
            rw [over_tab HD5.out.near] at hov
            obtain ⟨b1, hc1, hb1l, hcr⟩ := HTab.out x hxn
            have hc2 := hcr y hyn
            have hc1' := (hb.cell (p := ⟨b0, x, none⟩) hb0').trans hc1
            have hc2' := (hb.cell (p := ⟨b1, y, none⟩) hb1l).trans hc2
            have hb0w := Nat.lt_of_lt_of_le hb0' hb.size
            have hb1w := Nat.lt_of_lt_of_le hb1l hb.size
            clear hc1 hc2 hcr
            generalize tabB F x y = z at hov hc2'
            obtain ⟨r1, r2, r3⟩ := over_num f4
            replace r1 := Lib.hid r1
            replace r2 := Lib.hid r2
            replace r3 := Lib.hid r3
            go_wp2_with fail
            go_quiet (first | (go_at_call 31; exact Calls.quiet_of (hov _)))
            clear m1 m2 t1 t2 n0 h1 h2 h3 h4
            go_wp2
            go_roundw
            case rel => exact ⟨_, rfl, r1.out, r2.out, bdrewM hb _⟩
            case measure => exact r3.out
        · go_wp2
          go_roundw
          case rel => exact ⟨a + 1, by go_num, by omega, by omega, hb⟩
          case measure => simp [intOf]; omega
    · go_wp2
      go_ret
      exact ⟨rfl, hB5.trans (hb.mono hB5.size)⟩
end Go.Proofs.YtjijlmddalbkbaaGreatDoor
