/- The walk of the law DomTree: it returns true, whatever the program. -/
import Derived.Test.YtcjodjmmojbigaaGreatDoorDesc
import Derived.Test.YtcjodjmmojbigaaGreatDoorLiveT
namespace Go.Proofs.YtcjodjmmojbigaaGreatDoor
open Go.RowKit
set_option maxRecDepth 100000

theorem ne_enc {o : Option Nat} {b : Nat} (h : ¬ o = some b) : (encO o != (b : Int)) = true := by
  rw [bne_iff_ne]
  cases o with
  | none => simp [encO]
  | some q => simp [encO]; intro e; exact h (by rw [show q = b by omega])
set_option maxHeartbeats 16000000 in
theorem tree_law {W : World} {fv : Value} {F : PFunc} (hU : Uni W) (hF : FnV W W.heap.size fv F) :
    Calls Tryz.prog 3 #[fv] W fun e w' => e = .returned (.bool true) ∧ Below W.heap.size W w' := by
  have hlv := fun (w : World) (h : Below W.heap.size W w) => livesD_calls hU h
  have hty := fun (w : World) (h : Below W.heap.size W w) => lawTyped_calls hU hF h
  obtain ⟨w, rfl⟩ : ∃ w : World, w = W := ⟨_, rfl⟩
  obtain ⟨A0, c0, A1, c1, A2, c2, rfl, l0, l1, l2, -, -, -, r0, r1, r2⟩ := id hF.open_
  unfold Len at *
  have hb0 := (Below.refl w.heap.size w).alloc (Nat.le_refl _) (.cells #[.slice A0 F.vars.length c0, .slice A1 F.params.length c1, .slice A2 F.blocks.length c2] 26)
  cases hx : lawT F
  · rw [hx] at hty
    clear hx
    go_enter Tryz.func3, Tryz.ntmps3
    go_wp2_with fail
    refine (hlv _ (by (focus repeat (first | assumption | exact Below.refl _ _ | refine Below.drew ?_ | refine Below.alloc ?_ (by first | omega | exact Below.size (by assumption) | (simp; done) | (simp; omega)) _ | refine Below.setCell ?_ (by first | omega | exact Below.size (by assumption) | (simp; done) | (simp; omega)) _ | refine below_setRow ?_ (by first | omega | exact Below.size (by assumption) | (simp; done) | (simp; omega)) _ | (refine Below.trans ?_ (Below.mono (by assumption) ?_); rotate_left; exact (by first | omega | exact Below.size (by assumption) | (simp; done) | (simp; omega))))))).mono ?_
    (rintro e w1 ⟨rfl, hb1⟩; obtain ⟨hc1, hf1⟩ := bcell hb1; have hz1 := hb1.size; try simp at hz1; try have hy1 := Nat.lt_of_succ_le hz1; try have hx1 := Nat.lt_of_succ_lt hy1; try have hw1 := Nat.lt_of_succ_lt hx1)
    go_wp2_with fail
    refine (hty _ (by (focus repeat (first | assumption | exact Below.refl _ _ | refine Below.drew ?_ | refine Below.alloc ?_ (by first | omega | exact Below.size (by assumption) | (simp; done) | (simp; omega)) _ | refine Below.setCell ?_ (by first | omega | exact Below.size (by assumption) | (simp; done) | (simp; omega)) _ | refine below_setRow ?_ (by first | omega | exact Below.size (by assumption) | (simp; done) | (simp; omega)) _ | (refine Below.trans ?_ (Below.mono (by assumption) ?_); rotate_left; exact (by first | omega | exact Below.size (by assumption) | (simp; done) | (simp; omega))))))).mono ?_
    (rintro e w2 ⟨rfl, hb2⟩; obtain ⟨hc2, hf2⟩ := bcell hb2; have hz2 := hb2.size; try simp at hz2; try have hy2 := Nat.lt_of_succ_le hz2; try have hx2 := Nat.lt_of_succ_lt hy2; try have hw2 := Nat.lt_of_succ_lt hx2)
    go_wp2_with fail
    refine (hlv _ (by (focus repeat (first | assumption | exact Below.refl _ _ | refine Below.drew ?_ | refine Below.alloc ?_ (by first | omega | exact Below.size (by assumption) | (simp; done) | (simp; omega)) _ | refine Below.setCell ?_ (by first | omega | exact Below.size (by assumption) | (simp; done) | (simp; omega)) _ | refine below_setRow ?_ (by first | omega | exact Below.size (by assumption) | (simp; done) | (simp; omega)) _ | (refine Below.trans ?_ (Below.mono (by assumption) ?_); rotate_left; exact (by first | omega | exact Below.size (by assumption) | (simp; done) | (simp; omega))))))).mono ?_
    (rintro e w3 ⟨rfl, hb3⟩; obtain ⟨hc3, hf3⟩ := bcell hb3; have hz3 := hb3.size; try simp at hz3; try have hy3 := Nat.lt_of_succ_le hz3; try have hx3 := Nat.lt_of_succ_lt hy3; try have hw3 := Nat.lt_of_succ_lt hx3)
    go_wp2
    go_ret
    exact ⟨rfl, by (focus repeat (first | assumption | exact Below.refl _ _ | refine Below.drew ?_ | refine Below.alloc ?_ (by first | omega | exact Below.size (by assumption) | (simp; done) | (simp; omega)) _ | refine Below.setCell ?_ (by first | omega | exact Below.size (by assumption) | (simp; done) | (simp; omega)) _ | refine below_setRow ?_ (by first | omega | exact Below.size (by assumption) | (simp; done) | (simp; omega)) _ | (refine Below.trans ?_ (Below.mono (by assumption) ?_); rotate_left; exact (by first | omega | exact Below.size (by assumption) | (simp; done) | (simp; omega)))))⟩
  rw [hx] at hty
  have hx2 : fewB F = true ∧ typedP F = true := by
    unfold lawT at hx
    simpa using hx
  have hS := few_small hx2.1
  have hT := hx2.2
  have hn := fun (w' : World) (h : Below w.heap.size w w') => newYes_calls hU hF h hS hT
  have htb := fun (w' : World) (h : Below w.heap.size w w') => table_calls hF h hT
  have G := Lib.hid (gr_of hT)
  obtain ⟨n1, n2⟩ := shaped_count (typed_shaped hT)
  have HT := Lib.hid hT
  clear hx hx2 hT hS
  go_enter Tryz.func3, Tryz.ntmps3
  go_wp2_with fail
  refine (hlv _ (by (focus repeat (first | assumption | exact Below.refl _ _ | refine Below.drew ?_ | refine Below.alloc ?_ (by first | omega | exact Below.size (by assumption) | (simp; done) | (simp; omega)) _ | refine Below.setCell ?_ (by first | omega | exact Below.size (by assumption) | (simp; done) | (simp; omega)) _ | refine below_setRow ?_ (by first | omega | exact Below.size (by assumption) | (simp; done) | (simp; omega)) _ | (refine Below.trans ?_ (Below.mono (by assumption) ?_); rotate_left; exact (by first | omega | exact Below.size (by assumption) | (simp; done) | (simp; omega))))))).mono ?_
  (rintro e w1 ⟨rfl, hb1⟩; obtain ⟨hc1, hf1⟩ := bcell hb1; have hz1 := hb1.size; try simp at hz1; try have hy1 := Nat.lt_of_succ_le hz1; try have hx1 := Nat.lt_of_succ_lt hy1; try have hw1 := Nat.lt_of_succ_lt hx1)
  go_wp2_with fail
  refine (hty _ (by (focus repeat (first | assumption | exact Below.refl _ _ | refine Below.drew ?_ | refine Below.alloc ?_ (by first | omega | exact Below.size (by assumption) | (simp; done) | (simp; omega)) _ | refine Below.setCell ?_ (by first | omega | exact Below.size (by assumption) | (simp; done) | (simp; omega)) _ | refine below_setRow ?_ (by first | omega | exact Below.size (by assumption) | (simp; done) | (simp; omega)) _ | (refine Below.trans ?_ (Below.mono (by assumption) ?_); rotate_left; exact (by first | omega | exact Below.size (by assumption) | (simp; done) | (simp; omega))))))).mono ?_
  (rintro e w2 ⟨rfl, hb2⟩; obtain ⟨hc2, hf2⟩ := bcell hb2; have hz2 := hb2.size; try simp at hz2; try have hy2 := Nat.lt_of_succ_le hz2; try have hx2 := Nat.lt_of_succ_lt hy2; try have hw2 := Nat.lt_of_succ_lt hx2)
  go_wp2_with fail
  refine (hn _ (by (focus repeat (first | assumption | exact Below.refl _ _ | refine Below.drew ?_ | refine Below.alloc ?_ (by first | omega | exact Below.size (by assumption) | (simp; done) | (simp; omega)) _ | refine Below.setCell ?_ (by first | omega | exact Below.size (by assumption) | (simp; done) | (simp; omega)) _ | refine below_setRow ?_ (by first | omega | exact Below.size (by assumption) | (simp; done) | (simp; omega)) _ | (refine Below.trans ?_ (Below.mono (by assumption) ?_); rotate_left; exact (by first | omega | exact Below.size (by assumption) | (simp; done) | (simp; omega))))))).mono ?_
  rintro e w3 ⟨v, rfl, ⟨tb, gn, gl, gk, gf, L, V, rfl, hD⟩, hb3⟩
  have hX2 : Below (w.heap.size + 1) (w.alloc (.cells #[.slice A0 F.vars.length c0, .slice A1 F.params.length c1, .slice A2 F.blocks.length c2] 26)) w2 := by
    refine Below.trans ?_ (hb2.mono (by omega))
    simpa using hb1
  have hX3 := hX2.trans (hb3.mono (by have := hX2.size; simpa using this))
  obtain ⟨p, p0, p1, p2⟩ := box3 hX3
  have hB3 : Below w.heap.size w w3 := hb0.trans (hX3.mono (Nat.le_succ _))
  clear hc1 hf1 hc2 hf2
  go_wp2_with fail
  refine (htb _ hB3).mono ?_
  rintro e w5 ⟨v, rfl, ⟨b0, c, rfl, hnc, hb0', hTab⟩, hb5⟩
  have hX5 := hX3.trans (hb5.mono (by have := hX3.size; simpa using this))
  obtain ⟨q, q0, q1, q2⟩ := box3 hX5
  have hB5 : Below w.heap.size w w5 := hb0.trans (hX5.mono (Nat.le_succ _))
  have hD5 := hD.keep (Kept.of_below hb5) hb5.size
  have hTA : TabAt F w5 b0 := ⟨hb0', hTab⟩
  have hDr : ∀ (wr : World) (_ : Below w5.heap.size w5 wr), TreeD wr wr.heap.size tb F.blocks.length (OR F) (PR F) gn gl gk gf L V := fun wr h => hD5.keep (Kept.of_below h) h.size
  have HTA := Lib.hid (fun (wr : World) (h : Below w5.heap.size w5 wr) => hTA.below h)
  have HLV := Lib.hid (fun (wr : World) (h : Below w5.heap.size w5 wr) (b : Nat) (hb : b < F.blocks.length) => levelT_calls HT.out (hDr wr h) b hb)
  have HKD := Lib.hid (fun (wr : World) (h : Below w5.heap.size w5 wr) (b : Nat) (hb : b < F.blocks.length) => kidsT_calls HT.out (hDr wr h) b hb)
  have HN0 := Lib.hid (fun (wr : World) (h : Below w5.heap.size w5 wr) (b : Nat) (hb : b < F.blocks.length) (hn : fnO (L.set 0 none) b = none) => nearT_none HT.out (hDr wr h) hb hn)
  have HN1 := Lib.hid (fun (wr : World) (h : Below w5.heap.size w5 wr) (b p : Nat) (hb : b < F.blocks.length) (hn : fnO (L.set 0 none) b = some p) => nearT_some HT.out (hDr wr h) hb hn)
  have HRN := Lib.hid (fun (wr : World) (h : Below w5.heap.size w5 wr) (b : Nat) (hb : b < F.blocks.length) => refNearT_calls (c := c) HT.out hD.near (hTA.below h) b hb)
  have HOR := Lib.hid (fun (wr : World) (h : Below w5.heap.size w5 wr) => orderT_calls G.out (hDr wr h) n2)
  have HRO := Lib.hid (fun (wr : World) (h : Below w5.heap.size w5 wr) => refOrder_calls (c := c) HT.out hD.near hD.lv F.blocks.length wr 0 0 hD.lv.zero (by omega) n1 (hTA.below h))
  have HPL := Lib.hid (pre_len (f := F.blocks.length) hD.near n1)
  clear p p0 p1 p2 hD hTab hlv hty hn htb G HT hb3 hb5 hX2 hX3 hDr hTA hD5
  go_wp2
  go_loopw [40] (fun i wr => ∃ b : Nat, i = .int .i64 b ∧ b ≤ F.blocks.length ∧ Below w5.heap.size w5 wr) (fun i _ => F.blocks.length - (intOf i).toNat)
  case atStart => exact ⟨0, rfl, Nat.zero_le _, Below.refl _ _⟩
  case round => as_aux_lemma =>
    obtain ⟨b, rfl, hb, hbw⟩ := hrel
    by_cases hbl : b < F.blocks.length
    · have fb : (b : Int) < (F.blocks.length : Int) := by omega
      have hlv := HLV.out wr hbw b hbl
      have hkd := HKD.out wr hbw b hbl
      have hrn := HRN.out wr hbw b hbl
      have hTw := HTA.out wr hbw
      obtain ⟨br, s0, s1, s2⟩ := hTw.2 b hbl
      have s3 := hTw.1
      have s4 := s2 b hbl
      have gq := Nat.lt_of_lt_of_le q hbw.size
      have g2 := (hbw.cell (p := ⟨w.heap.size, 2, none⟩) q).trans q2
      have hcn := cntA_le (F := F) (b := b) F.blocks.length
      obtain ⟨N, hN⟩ : ∃ N, cntA F b F.blocks.length = N := ⟨_, rfl⟩
      obtain ⟨ib, hib⟩ : ∃ ib, tabB F b b = ib := ⟨_, rfl⟩
      rw [hN, hib] at hlv
      rw [hib] at s4
      rw [hN] at hcn
      have HNN := Lib.hid hN
      have HIB := Lib.hid hib
      have HTW := Lib.hid hTw
      have m0 : max (-1 : Int) 0 = 0 := by decide
      have hkl := krow_le (F := F) (L := L) (b := b) F.blocks.length
      have hki : (ints (krow F L b F.blocks.length)).length = (krow F L b F.blocks.length).length := by simp [ints]
      have HKI := Lib.hid hki
      clear hN hib s2 hTw hki
      have hsplit : (fnO (L.set 0 none) b = none) ∨ ∃ p, fnO (L.set 0 none) b = some p := by
        cases fnO (L.set 0 none) b with
        | none => exact .inl rfl
        | some p => exact .inr ⟨p, rfl⟩
      rcases hsplit with hf | ⟨p, hf⟩
      all_goals
        first
          | (have hnr := HN0.out wr hbw b hbl hf; rw [hf] at hrn; replace hrn : Calls Tryz.prog 14 #[.slice (some ⟨b0, 0, none⟩) F.blocks.length c, .int .i64 (b : Int)] wr fun e w' => e = .returned (.int .i64 (-1)) ∧ w' = wr := hrn)
          | (have hnr := HN1.out wr hbw b p hbl hf; rw [hf] at hrn; replace hrn : Calls Tryz.prog 14 #[.slice (some ⟨b0, 0, none⟩) F.blocks.length c, .int .i64 (b : Int)] wr fun e w' => e = .returned (.int .i64 (p : Int)) ∧ w' = wr := hrn; have m1 : max (p : Int) 0 = (p : Int) := Int.max_eq_left (by omega); have m2 : (0 : Int) ≤ (p : Int) := by omega)
        clear hf
        go_wp2_with fail
        refine hnr.mono ?_
        rintro e w6 ⟨rfl, hw6⟩
        subst w6
        go_wp2_with fail
        refine hrn.mono ?_
        rintro e w6 ⟨rfl, hw6⟩
        subst w6
        go_wp2_with fail
        refine hlv.mono ?_
        rintro e w6 ⟨rfl, hw6⟩
        subst w6
        go_wp2
        clear g2
        go_loopw [12, 71] (fun ab i wq => ∃ a : Nat, ab = .int .i64 (cntA F b a : Int) ∧ i = .int .i64 a ∧ a ≤ F.blocks.length ∧ wq = wr) (fun _ i _ => F.blocks.length - (intOf i).toNat)
        case atStart => exact ⟨0, rfl, rfl, Nat.zero_le _, rfl⟩
        case round => as_aux_lemma =>
          obtain ⟨a, rfl, rfl, ha, rfl⟩ := hrel
          by_cases hal : a < F.blocks.length
          · have fa : (a : Int) < (F.blocks.length : Int) := by omega
            obtain ⟨ra, x0, x1, x2⟩ := HTW.out.2 a hal
            have x3 := x2 b hbl
            have x4 := cntA_le (F := F) (b := b) a
            clear x2 s0 s4
            by_cases hab : a = b
            · have HS := Lib.hid (cntA_no (F := F) (.inl hab))
              have e0 : ((a : Int) != (b : Int)) = false := by simp [hab]
              clear hab
              go_wp2
              go_roundw
              case rel => exact ⟨a + 1, by rw [HS.out], by go_num, by omega, trivial⟩
              case measure => simp [intOf]; omega
            have e0 : ((a : Int) != (b : Int)) = true := by rw [bne_iff_ne]; omega
            cases hz : tabB F a b
            · have HS := Lib.hid (cntA_no (F := F) (.inr hz))
              rw [hz] at x3
              clear hab hz
              go_wp2
              go_roundw
              case rel => exact ⟨a + 1, by rw [HS.out], by go_num, by omega, trivial⟩
              case measure => simp [intOf]; omega
            · have HS := Lib.hid (cntA_yes hab hz)
              rw [hz] at x3
              clear hab hz
              go_wp2
              go_roundw
              case rel => exact ⟨a + 1, by rw [HS.out]; go_num, by go_num, by omega, trivial⟩
              case measure => simp [intOf]; omega
          · obtain rfl : a = F.blocks.length := by omega
            rw [HNN.out]
            go_wp2_with fail
            refine hkd.mono ?_
            rintro e w6 ⟨A7, c7, rfl, l7, k7, r7, hb7⟩
            have hb6 := hbw.trans (hb7.mono hbw.size)
            have y2 := (hb6.cell (p := ⟨w.heap.size, 2, none⟩) q).trans q2
            have y8 := Nat.lt_of_lt_of_le q hb6.size
            have z0 := (hb7.cell (p := ⟨b0, b, none⟩) s3).trans s0
            have z4 := (hb7.cell (p := ⟨br, b, none⟩) s1).trans s4
            have z1 := Nat.lt_of_lt_of_le s1 hb7.size
            have z3 := Nat.lt_of_lt_of_le s3 hb7.size
            rw [HKI.out]
            unfold Len at *
            rw [HKI.out] at l7 k7
            clear s0 s4 hlv hkd hrn hnr
            go_wp2
            clear y2 y8
            go_loopw [15, 109] (fun at_ i wq => ∃ k : Nat, at_ = .int .i64 ((krow F L b k).length : Int) ∧ i = .int .i64 k ∧ k ≤ F.blocks.length ∧ wq = w6) (fun _ i _ => F.blocks.length - (intOf i).toNat)
            case atStart => exact ⟨0, by rw [krow_zero]; rfl, rfl, Nat.zero_le _, rfl⟩
            case round => as_aux_lemma =>
              obtain ⟨k, rfl, rfl, hk, rfl⟩ := hrel
              by_cases hkl' : k < F.blocks.length
              · have fk : (k : Int) < (F.blocks.length : Int) := by omega
                have hle := krow_le (F := F) (L := L) (b := b) k
                cases ib
                · have HS := Lib.hid (show (krow F L b (k + 1)).length = (krow F L b k).length by rw [krow_out HIB.out, krow_out HIB.out])
                  go_wp2
                  go_roundw
                  case rel => exact ⟨k + 1, by rw [HS.out], by go_num, by omega, trivial⟩
                  case measure => simp [intOf]; omega
                · have hrk := HRN.out wr hb6 k hkl'
                  by_cases hf : fnO (L.set 0 none) k = some b
                  · obtain ⟨h1, h2⟩ := krow_at hkl' HIB.out hf
                    have HS := Lib.hid (show (krow F L b (k + 1)).length = (krow F L b k).length + 1 by rw [krow_yes HIB.out hf]; simp)
                    rw [hf] at hrk
                    replace hrk : Calls Tryz.prog 14 #[.slice (some ⟨b0, 0, none⟩) F.blocks.length c, .int .i64 (k : Int)] wr fun e w' => e = .returned (.int .i64 (b : Int)) ∧ w' = wr := hrk
                    obtain ⟨bb, off, rfl, hbl7, hc⟩ := r7.int (Below.refl _ _) (i := (krow F L b k).length) (by rw [HKI.out]; exact h1)
                    rw [h2] at hc
                    have n1' : ¬ (((krow F L b F.blocks.length).length : Int) ≤ ((krow F L b k).length : Int)) := by omega
                    have n2' : ((krow F L b k).length : Int) < ((krow F L b F.blocks.length).length : Int) := by omega
                    have n3' : (krow F L b k).length + 1 ≤ 64 := by omega
                    have e1 : ((b : Int) != (b : Int)) = false := by simp
                    clear hf h1 h2
                    go_wp2_with fail
                    refine hrk.mono ?_
                    rintro e w9 ⟨rfl, hw9⟩
                    subst w9
                    go_wp2
                    refine ⟨?rel, ?measure⟩
                    case rel => exact ⟨k + 1, by rw [HS.out]; go_num, by go_num, by omega, trivial⟩
                    case measure => simp [intOf]; omega
                  · have e1 := ne_enc hf
                    have HS := Lib.hid (show (krow F L b (k + 1)).length = (krow F L b k).length by rw [krow_no hf])
                    generalize encO (fnO (L.set 0 none) k) = z at hrk e1
                    clear hf
                    go_wp2_with fail
                    refine hrk.mono ?_
                    rintro e w9 ⟨rfl, hw9⟩
                    subst w9
                    go_wp2
                    go_roundw
                    case rel => exact ⟨k + 1, by rw [HS.out], by go_num, by omega, trivial⟩
                    case measure => simp [intOf]; omega
              · obtain rfl : k = F.blocks.length := by omega
                go_wp2
                go_roundw
                case rel => exact ⟨b + 1, by go_num, by omega, hb6⟩
                case measure => simp [intOf]; omega
    · obtain rfl : b = F.blocks.length := by omega
      have hor := HOR.out wr hbw
      have hrl : (ints (pre (kidsOf F.blocks.length L) F.blocks.length 0)).length ≤ 64 := by have := HPL.out; simp [ints]; omega
      have hro := fun (w' : World) (h : Below w5.heap.size w5 w') => HRO.out w' h
      generalize ints (pre (kidsOf F.blocks.length L) F.blocks.length 0) = Q at hor hrl hro
      replace hro := Lib.hid hro
      go_wp2_with fail
      refine hor.mono ?_
      rintro e w6 ⟨A8, c8, rfl, l8, k8, r8, hb8⟩
      have hb6 := hbw.trans (hb8.mono hbw.size)
      have hr6 := hro.out w6 hb6
      go_wp2_with fail
      refine hr6.mono ?_
      rintro e w7 ⟨A9, c9, rfl, l9, k9, r9, hb9⟩
      have hb7 := hb6.trans (hb9.mono hb6.size)
      clear hor hr6
      unfold Len at *
      go_wp2
      go_loopw [158] (fun i wq => ∃ j : Nat, i = .int .i64 j ∧ j ≤ Q.length ∧ Below w7.heap.size w7 wq) (fun i _ => Q.length - (intOf i).toNat)
      case atStart => exact ⟨0, rfl, Nat.zero_le _, Below.refl _ _⟩
      case round => as_aux_lemma =>
        obtain ⟨j, rfl, hj, hbq⟩ := hrel
        by_cases hjl : j < Q.length
        · have fj : (j : Int) < (Q.length : Int) := by omega
          obtain ⟨b1, o1, rfl, x1, x2⟩ := r8.int (hb9.trans (hbq.mono hb9.size)) (i := j) hjl
          obtain ⟨b2, o2, rfl, x3, x4⟩ := r9.int hbq (i := j) hjl
          have e1 : (ith Q j != ith Q j) = false := by simp
          generalize ith Q j = z at x2 x4 e1
          go_wp2
          go_quiet (fail)
          go_wp2
          go_roundw
          case rel => exact ⟨j + 1, by go_num, by omega, bdrewM hbq _⟩
          case measure => simp [intOf]; omega
        · go_wp2
          go_ret
          exact ⟨rfl, hB5.trans ((hb7.trans (hbq.mono hb7.size)).mono hB5.size)⟩
end Go.Proofs.YtcjodjmmojbigaaGreatDoor
