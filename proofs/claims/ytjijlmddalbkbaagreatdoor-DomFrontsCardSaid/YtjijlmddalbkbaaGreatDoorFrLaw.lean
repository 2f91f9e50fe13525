/- The walk of the law DomFronts: it returns true, whatever the program. -/
import Derived.Test.YtjijlmddalbkbaaGreatDoorFrL
namespace Go.Proofs.YtjijlmddalbkbaaGreatDoor
open Go.RowKit
set_option maxRecDepth 100000

set_option maxHeartbeats 8000000 in
theorem fronts_law {W : World} {fv : Value} {F : PFunc} (hU : Uni W) (hF : FnV W W.heap.size fv F) :
    Calls Tryz.prog 5 #[fv] W fun e w' => e = .returned (.bool true) ∧ Below W.heap.size W w' := by
  have hlv := fun (w : World) (h : Below W.heap.size W w) => livesD_calls hU h
  have hty := fun (w : World) (h : Below W.heap.size W w) => lawTyped_calls hU hF h
  have hinf := fun (w : World) (h : Below W.heap.size W w) (n2 : F.blocks.length ≤ 64) (b0 c : Nat) (hb0 : b0 < w.heap.size) (hT) (a b : Nat) (ha : a < F.blocks.length) (hb : b < F.blocks.length) => inFront_calls (c := c) hF h n2 hb0 hT a b ha hb
  obtain ⟨w, rfl⟩ : ∃ w : World, w = W := ⟨_, rfl⟩
  obtain ⟨A0, c0, A1, c1, A2, c2, rfl, l0, l1, l2, -, -, -, r0, r1, r2⟩ := id hF.open_
  unfold Len at *
  have hb0 := (Below.refl w.heap.size w).alloc (Nat.le_refl _) (.cells #[.slice A0 F.vars.length c0, .slice A1 F.params.length c1, .slice A2 F.blocks.length c2] 26)
  cases hx : lawT F
  · rw [hx] at hty
    clear hx hinf
    go_enter Tryz.func5, Tryz.ntmps5
    go_wp2_with fail
    refine (hlv _ (by (focus repeat (first | assumption | exact Below.refl _ _ | refine Below.drew ?_ | refine Below.alloc ?_ (by first | omega | exact Below.size (by assumption) | (simp; done) | (simp; omega)) _ | refine Below.setCell ?_ (by first | omega | exact Below.size (by assumption) | (simp; done) | (simp; omega)) _ | refine below_setRow ?_ (by first | omega | exact Below.size (by assumption) | (simp; done) | (simp; omega)) _ | (refine Below.trans ?_ (Below.mono (by assumption) ?_); rotate_left; exact (by first | omega | exact Below.size (by assumption) | (simp; done) | (simp; omega))))))).mono ?_
    (rintro e w1 ⟨rfl, hb1⟩; obtain ⟨hc1, hf1⟩ := bcell hb1; have hz1 := hb1.size; try simp at hz1; try have hy1 := Nat.lt_of_succ_le hz1; try have hx1 := Nat.lt_of_succ_lt hy1; try have hw1 := Nat.lt_of_succ_lt hx1)
    go_wp2_with fail
    refine (hty _ (by (focus repeat (first | assumption | exact Below.refl _ _ | refine Below.drew ?_ | refine Below.alloc ?_ (by first | omega | exact Below.size (by assumption) | (simp; done) | (simp; omega)) _ | refine Below.setCell ?_ (by first | omega | exact Below.size (by assumption) | (simp; done) | (simp; omega)) _ | refine below_setRow ?_ (by first | omega | exact Below.size (by assumption) | (simp; done) | (simp; omega)) _ | (refine Below.trans ?_ (Below.mono (by assumption) ?_); rotate_left; exact (by first | omega | exact Below.size (by assumption) | (simp; done) | (simp; omega))))))).mono ?_
    (rintro e w2 ⟨rfl, hb2⟩; obtain ⟨hc2, hf2⟩ := bcell hb2; have hz2 := hb2.size; try simp at hz2; try have hy2 := Nat.lt_of_succ_le hz2; try have hx2 := Nat.lt_of_succ_lt hy2; try have hw2 := Nat.lt_of_succ_lt hx2)
    go_wp2_with fail
    refine (hlv _ (by (focus repeat (first | assumption | exact Below.refl _ _ | refine Below.drew ?_ | refine Below.alloc ?_ (by first | omega | exact Below.size (by assumption) | (simp; done) | (simp; omega)) _ | refine Below.setCell ?_ (by first | omega | exact Below.size (by assumption) | (simp; done) | (simp; omega)) _ | refine below_setRow ?_ (by first | omega | exact Below.size (by assumption) | (simp; done) | (simp; omega)) _ | (refine Below.trans ?_ (Below.mono (by assumption) ?_); rotate_left; exact (by first | omega | exact Below.size (by assumption) | (simp; done) | (simp; omega))))))).mono ?_
    (rintro e w3 ⟨rfl, hb3⟩; obtain ⟨hc3, hf3⟩ := bcell hb3; have hz3 := hb3.size; try simp at hz3; try have hy3 := Nat.lt_of_succ_le hz3; try have hx3 := Nat.lt_of_succ_lt hy3; try have hw3 := Nat.lt_of_succ_lt hx3)
    go_wp2
    go_ret
    exact ⟨rfl, by (focus repeat (first | assumption | exact Below.refl _ _ | refine Below.drew ?_ | refine Below.alloc ?_ (by first | omega | exact Below.size (by assumption) | (simp; done) | (simp; omega)) _ | refine Below.setCell ?_ (by first | omega | exact Below.size (by assumption) | (simp; done) | (simp; omega)) _ | refine below_setRow ?_ (by first | omega | exact Below.size (by assumption) | (simp; done) | (simp; omega)) _ | (refine Below.trans ?_ (Below.mono (by assumption) ?_); rotate_left; exact (by first | omega | exact Below.size (by assumption) | (simp; done) | (simp; omega)))))⟩
  rw [hx] at hty
  have hx2 : fewB F = true ∧ typedP F = true := by
    unfold lawT at hx
    simpa using hx
  have hS := few_small hx2.1
  have hT := hx2.2
  have hn := fun (w' : World) (h : Below w.heap.size w w') => newYes_calls hU hF h hS hT
  have htb := fun (w' : World) (h : Below w.heap.size w w') => table_calls hF h hT
  have G := Lib.hid (gr_of hT)
  obtain ⟨n1, n2⟩ := shaped_count (typed_shaped hT)
  have HT := Lib.hid hT
  clear hx hx2 hT hS
  go_enter Tryz.func5, Tryz.ntmps5
  go_wp2_with fail
  refine (hlv _ (by (focus repeat (first | assumption | exact Below.refl _ _ | refine Below.drew ?_ | refine Below.alloc ?_ (by first | omega | exact Below.size (by assumption) | (simp; done) | (simp; omega)) _ | refine Below.setCell ?_ (by first | omega | exact Below.size (by assumption) | (simp; done) | (simp; omega)) _ | refine below_setRow ?_ (by first | omega | exact Below.size (by assumption) | (simp; done) | (simp; omega)) _ | (refine Below.trans ?_ (Below.mono (by assumption) ?_); rotate_left; exact (by first | omega | exact Below.size (by assumption) | (simp; done) | (simp; omega))))))).mono ?_
  (rintro e w1 ⟨rfl, hb1⟩; obtain ⟨hc1, hf1⟩ := bcell hb1; have hz1 := hb1.size; try simp at hz1; try have hy1 := Nat.lt_of_succ_le hz1; try have hx1 := Nat.lt_of_succ_lt hy1; try have hw1 := Nat.lt_of_succ_lt hx1)
  go_wp2_with fail
  refine (hty _ (by (focus repeat (first | assumption | exact Below.refl _ _ | refine Below.drew ?_ | refine Below.alloc ?_ (by first | omega | exact Below.size (by assumption) | (simp; done) | (simp; omega)) _ | refine Below.setCell ?_ (by first | omega | exact Below.size (by assumption) | (simp; done) | (simp; omega)) _ | refine below_setRow ?_ (by first | omega | exact Below.size (by assumption) | (simp; done) | (simp; omega)) _ | (refine Below.trans ?_ (Below.mono (by assumption) ?_); rotate_left; exact (by first | omega | exact Below.size (by assumption) | (simp; done) | (simp; omega))))))).mono ?_
  (rintro e w2 ⟨rfl, hb2⟩; obtain ⟨hc2, hf2⟩ := bcell hb2; have hz2 := hb2.size; try simp at hz2; try have hy2 := Nat.lt_of_succ_le hz2; try have hx2 := Nat.lt_of_succ_lt hy2; try have hw2 := Nat.lt_of_succ_lt hx2)
  go_wp2_with fail
  refine (hn _ (by (focus repeat (first | assumption | exact Below.refl _ _ | refine Below.drew ?_ | refine Below.alloc ?_ (by first | omega | exact Below.size (by assumption) | (simp; done) | (simp; omega)) _ | refine Below.setCell ?_ (by first | omega | exact Below.size (by assumption) | (simp; done) | (simp; omega)) _ | refine below_setRow ?_ (by first | omega | exact Below.size (by assumption) | (simp; done) | (simp; omega)) _ | (refine Below.trans ?_ (Below.mono (by assumption) ?_); rotate_left; exact (by first | omega | exact Below.size (by assumption) | (simp; done) | (simp; omega))))))).mono ?_
  rintro e w3 ⟨v, rfl, ⟨tb, gn, gl, gk, gf, L, V, rfl, hD⟩, hb3⟩
  have hX2 : Below (w.heap.size + 1) (w.alloc (.cells #[.slice A0 F.vars.length c0, .slice A1 F.params.length c1, .slice A2 F.blocks.length c2] 26)) w2 := by
    refine Below.trans ?_ (hb2.mono (by omega))
    simpa using hb1
  have hX3 := hX2.trans (hb3.mono (by have := hX2.size; simpa using this))
  obtain ⟨p, p0, p1, p2⟩ := box3 hX3
  have hB3 : Below w.heap.size w w3 := hb0.trans (hX3.mono (Nat.le_succ _))
  clear hc1 hf1 hc2 hf2
  go_wp2_with fail
  refine (htb _ hB3).mono ?_
  rintro e w5 ⟨v, rfl, ⟨b0, c, rfl, hnc, hb0', hTab⟩, hb5⟩
  have hX5 := hX3.trans (hb5.mono (by have := hX3.size; simpa using this))
  obtain ⟨q, q0, q1, q2⟩ := box3 hX5
  have hB5 : Below w.heap.size w w5 := hb0.trans (hX5.mono (Nat.le_succ _))
  have HD5 := Lib.hid (hD.keep (Kept.of_below hb5) hb5.size)
  have hfr : ∀ (wr : World) (_ : Below w5.heap.size w5 wr) (a : Nat) (_ : a < F.blocks.length), Calls Tryz.prog 28 #[.pointer (some ⟨tb, 0, none⟩), .int .i64 (a : Int)] wr (RetInts wr (ints (fr F a F.blocks.length))) := fun wr h a ha => by
    have := front_calls G.out (HD5.out.keep (Kept.of_below h) h.size) a ha n2
    rwa [fr_front HT.out hD.near] at this
  have hin : ∀ (wr : World) (_ : Below w5.heap.size w5 wr) (a b : Nat) (_ : a < F.blocks.length) (_ : b < F.blocks.length), Calls Tryz.prog 29 #[.agg #[.slice A0 F.vars.length c0, .slice A1 F.params.length c1, .slice A2 F.blocks.length c2], .slice (some ⟨b0, 0, none⟩) F.blocks.length c, .int .i64 (a : Int), .int .i64 (b : Int)] wr fun e w' => e = .returned (.bool (inFrB F a b)) ∧ Below wr.heap.size wr w' := fun wr h a b ha hb => by
    refine hinf wr (hB5.trans (h.mono hB5.size)) n2 b0 c (Nat.lt_of_lt_of_le hb0' h.size) (fun x hx => ?_) a b ha hb
    obtain ⟨b1, h1, h2, h3⟩ := hTab x hx
    exact ⟨b1, (h.cell (p := ⟨b0, x, none⟩) hb0').trans h1, Nat.lt_of_lt_of_le h2 h.size, fun y hy => (h.cell (p := ⟨b1, y, none⟩) h2).trans (h3 y hy)⟩
  replace hin := Lib.hid hin
  replace hfr := Lib.hid hfr
  clear p p0 p1 p2 hD hTab hlv hty hn htb hinf HD5 G HT hb3 hb5 hX2 hX3
  go_wp2
  go_loopw [30] (fun i wr => ∃ a : Nat, i = .int .i64 a ∧ a ≤ F.blocks.length ∧ Below w5.heap.size w5 wr) (fun i _ => F.blocks.length - (intOf i).toNat)
  case atStart => exact ⟨0, rfl, Nat.zero_le _, Below.refl _ _⟩
  case round => as_aux_lemma =>
    obtain ⟨a, rfl, ha, hb⟩ := hrel
    by_cases hal : a < F.blocks.length
    · have fa : (a : Int) < (F.blocks.length : Int) := by omega
      have hat := Lib.hid (fun i (hi : i < F.blocks.length) (hl : inFrB F a i = true) => fr_at hi hl)
      have hle := Lib.hid (fun i => fr_le (F := F) (a := a) i)
      have hfn : ∀ i, fr F a (i + 1) = if inFrB F a i = true then fr F a i ++ [i] else fr F a i := fun i => rfl
      replace hfn := Lib.hid hfn
      have hf0 := Lib.hid (show fr F a 0 = [] from rfl)
      have hlen : (ints (fr F a F.blocks.length)).length = (fr F a F.blocks.length).length := by simp [ints]
      have hl := hfr.out wr hb a hal
      go_wp2_with fail
      refine hl.mono ?_
      rintro e w6 ⟨A7, c7, rfl, l7, k7, r7, hb7⟩
      have hb6 := hb.trans (hb7.mono hb.size)
      have g2 := (hb6.cell (p := ⟨w.heap.size, 2, none⟩) q).trans q2
      have g8 := Nat.lt_of_lt_of_le q hb6.size
      rw [hlen]
      unfold Len at *
      rw [hlen] at l7 k7
      have hm := hle.out F.blocks.length
      replace hlen := Lib.hid hlen
      clear hl
      go_wp2
      clear g2 g8
      go_loopw [8, 39] (fun at_ i wr => ∃ b : Nat, at_ = .int .i64 (fr F a b).length ∧ i = .int .i64 b ∧ b ≤ F.blocks.length ∧ Below w6.heap.size w6 wr) (fun _ i _ => F.blocks.length - (intOf i).toNat)
      case atStart => exact ⟨0, by rw [hf0.out]; rfl, rfl, Nat.zero_le _, Below.refl _ _⟩
      case round => as_aux_lemma =>
        obtain ⟨b, rfl, rfl, hbn, hbw⟩ := hrel
        have hb8 := hb6.trans (hbw.mono hb6.size)
        have f0 := (hb8.cell (p := ⟨w.heap.size, 0, none⟩) q).trans q0
        have f1 := (hb8.cell (p := ⟨w.heap.size, 1, none⟩) q).trans q1
        have f2 := (hb8.cell (p := ⟨w.heap.size, 2, none⟩) q).trans q2
        have f8 := Nat.lt_of_lt_of_le q hb8.size
        by_cases hbl : b < F.blocks.length
        · have fb : (b : Int) < (F.blocks.length : Int) := by omega
          have hi := hin.out wr hb8 a b hal hbl
          have hmb := hle.out b
          cases hz : inFrB F a b
          · have hs : fr F a (b + 1) = fr F a b := by rw [hfn.out, hz]; simp
            rw [hz] at hi
            clear hz
            go_wp2_with fail
            refine hi.mono ?_
            rintro e w9 ⟨rfl, hb9⟩
            go_wp2
            go_roundw
            case rel => exact ⟨b + 1, by rw [hs], by go_num, by omega, hbw.trans (hb9.mono hbw.size)⟩
            case measure => simp [intOf]; omega
          · have hs : fr F a (b + 1) = fr F a b ++ [b] := by rw [hfn.out, hz]; simp
            obtain ⟨h1, h2⟩ := hat.out b hbl hz
            rw [hz] at hi
            clear hz
            have hs' := Lib.hid (show (fr F a (b + 1)).length = (fr F a b).length + 1 by rw [hs]; simp)
            clear hs
            go_wp2_with fail
            refine hi.mono ?_
            rintro e w9 ⟨rfl, hb9⟩
            have hbw9 := hbw.trans (hb9.mono hbw.size)
            obtain ⟨bb, off, rfl, hbl7, hc⟩ := r7.int hbw9 (i := (fr F a b).length) (by rw [hlen.out]; exact h1)
            rw [h2] at hc
            have n1' : ¬ (((fr F a F.blocks.length).length : Int) ≤ ((fr F a b).length : Int)) := by omega
            have n2' : ((fr F a b).length : Int) < ((fr F a F.blocks.length).length : Int) := by omega
            have n3' : (fr F a b).length + 1 ≤ 64 := by omega
            go_wp2
            refine ⟨?rel, ?measure⟩
            case rel => exact ⟨b + 1, by rw [hs'.out]; go_num, by go_num, by omega, hbw9⟩
            case measure => simp [intOf]; omega
        · obtain rfl : b = F.blocks.length := by omega
          clear f0 f1 f2
          go_wp2
          go_roundw
          case rel => exact ⟨a + 1, by go_num, by omega, hb8⟩
          case measure => simp [intOf]; omega
    · go_wp2
      go_ret
      exact ⟨rfl, hB5.trans (hb.mono hB5.size)⟩
end Go.Proofs.YtjijlmddalbkbaaGreatDoor
