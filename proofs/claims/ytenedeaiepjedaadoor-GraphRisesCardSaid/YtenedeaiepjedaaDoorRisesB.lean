/- The walk of the law GraphRises: it returns true, whatever the program. -/
import Derived.Test.YtenedeaiepjedaaDoorRisesA
import Derived.Test.YtenedeaiepjedaaDoorLives
namespace Go.Proofs.YtenedeaiepjedaaDoor
open Go.RowKit
set_option maxRecDepth 100000

def nats (l : List Nat) : List Value := (ints l).map (Value.int .i64)
theorem nats_set {l : List Nat} {i x : Nat} : (nats l).set i (.int .i64 (x : Int)) = nats (l.set i x) := by
  unfold nats ints
  rw [List.map_set, List.map_set]
  rfl
theorem nats_get {l : List Nat} {i : Nat} (h : i < l.length) : (nats l)[i]? = some (.int .i64 ((l.getD i 0 : Nat) : Int)) := by
  simp [nats, ints, List.getD, h]
theorem nats_zero (n : Nat) : nats (List.replicate n 0) = List.replicate n (.int .i64 0) := by
  simp [nats, ints]

set_option maxHeartbeats 4000000 in
theorem rises_calls {W : World} {fv : Value} {F : PFunc} (hU : Uni W) (hF : FnV W W.heap.size fv F) :
    Calls Tryd.prog 3 #[fv] W fun e w' => e = .returned (.bool true) ∧ Below W.heap.size W w' := by
  have hlv := fun (w : World) (h : Below W.heap.size W w) => lives_calls hU h
  have hty := fun (w : World) (h : Below W.heap.size W w) => lawTyped_calls hU hF h
  obtain ⟨w, rfl⟩ : ∃ w : World, w = W := ⟨_, rfl⟩
  obtain ⟨A0, c0, A1, c1, A2, c2, rfl, l0, l1, l2, -, -, -, r0, r1, r2⟩ := id hF.open_
  unfold Len at *
  have hb0 := (Below.refl w.heap.size w).alloc (Nat.le_refl _) (.cells #[.slice A0 F.vars.length c0, .slice A1 F.params.length c1, .slice A2 F.blocks.length c2] 26)
  cases hx : lawT F
  · rw [hx] at hty
    clear hx
    go_enter Tryd.func3, Tryd.ntmps3
    go_wp2_with fail
    refine (hlv _ (by (focus repeat (first | assumption | exact Below.refl _ _ | refine Below.drew ?_ | refine Below.alloc ?_ (by first | omega | exact Below.size (by assumption) | (simp; done) | (simp; omega)) _ | refine Below.setCell ?_ (by first | omega | exact Below.size (by assumption) | (simp; done) | (simp; omega)) _ | refine below_setRow ?_ (by first | omega | exact Below.size (by assumption) | (simp; done) | (simp; omega)) _ | (refine Below.trans ?_ (Below.mono (by assumption) ?_); rotate_left; exact (by first | omega | exact Below.size (by assumption) | (simp; done) | (simp; omega))))))).mono ?_
    (rintro e w1 ⟨rfl, hb1⟩; obtain ⟨hc1, hf1⟩ := bcell hb1; have hz1 := hb1.size; try simp at hz1; try have hy1 := Nat.lt_of_succ_le hz1; try have hx1 := Nat.lt_of_succ_lt hy1; try have hw1 := Nat.lt_of_succ_lt hx1)
    go_wp2_with fail
    refine (hty _ (by (focus repeat (first | assumption | exact Below.refl _ _ | refine Below.drew ?_ | refine Below.alloc ?_ (by first | omega | exact Below.size (by assumption) | (simp; done) | (simp; omega)) _ | refine Below.setCell ?_ (by first | omega | exact Below.size (by assumption) | (simp; done) | (simp; omega)) _ | refine below_setRow ?_ (by first | omega | exact Below.size (by assumption) | (simp; done) | (simp; omega)) _ | (refine Below.trans ?_ (Below.mono (by assumption) ?_); rotate_left; exact (by first | omega | exact Below.size (by assumption) | (simp; done) | (simp; omega))))))).mono ?_
    (rintro e w2 ⟨rfl, hb2⟩; obtain ⟨hc2, hf2⟩ := bcell hb2; have hz2 := hb2.size; try simp at hz2; try have hy2 := Nat.lt_of_succ_le hz2; try have hx2 := Nat.lt_of_succ_lt hy2; try have hw2 := Nat.lt_of_succ_lt hx2)
    go_wp2_with fail
    refine (hlv _ (by (focus repeat (first | assumption | exact Below.refl _ _ | refine Below.drew ?_ | refine Below.alloc ?_ (by first | omega | exact Below.size (by assumption) | (simp; done) | (simp; omega)) _ | refine Below.setCell ?_ (by first | omega | exact Below.size (by assumption) | (simp; done) | (simp; omega)) _ | refine below_setRow ?_ (by first | omega | exact Below.size (by assumption) | (simp; done) | (simp; omega)) _ | (refine Below.trans ?_ (Below.mono (by assumption) ?_); rotate_left; exact (by first | omega | exact Below.size (by assumption) | (simp; done) | (simp; omega))))))).mono ?_
    (rintro e w3 ⟨rfl, hb3⟩; obtain ⟨hc3, hf3⟩ := bcell hb3; have hz3 := hb3.size; try simp at hz3; try have hy3 := Nat.lt_of_succ_le hz3; try have hx3 := Nat.lt_of_succ_lt hy3; try have hw3 := Nat.lt_of_succ_lt hx3)
    go_wp2
    go_ret
    exact ⟨rfl, by (focus repeat (first | assumption | exact Below.refl _ _ | refine Below.drew ?_ | refine Below.alloc ?_ (by first | omega | exact Below.size (by assumption) | (simp; done) | (simp; omega)) _ | refine Below.setCell ?_ (by first | omega | exact Below.size (by assumption) | (simp; done) | (simp; omega)) _ | refine below_setRow ?_ (by first | omega | exact Below.size (by assumption) | (simp; done) | (simp; omega)) _ | (refine Below.trans ?_ (Below.mono (by assumption) ?_); rotate_left; exact (by first | omega | exact Below.size (by assumption) | (simp; done) | (simp; omega)))))⟩
  rw [hx] at hty
  have hx2 : fewB F = true ∧ typedP F = true := by
    unfold lawT at hx
    simpa using hx
  have HT := Lib.hid hx2.2
  obtain ⟨n1, n2⟩ := shaped_count (typed_shaped hx2.2)
  have hord := fun (w' : World) (h : Below w.heap.size w w') => orderYes_calls hU hF h (few_small hx2.1) hx2.2
  have hld := fun (w' : World) (h : Below w.heap.size w w') (a b : Nat) (ha : a < F.blocks.length) => leads_calls hF h (a : Int) (b : Int) (by omega) (by omega)
  have fin := Lib.hid (post_fin hx2.2)
  clear hx hx2
  obtain ⟨ib, hib, hi0, hi1, hi2⟩ := info_parts Tryd.info3
  go_enter Tryd.func3, Tryd.ntmps3
  go_wp2_with fail
  refine (hlv _ (by (focus repeat (first | assumption | exact Below.refl _ _ | refine Below.drew ?_ | refine Below.alloc ?_ (by first | omega | exact Below.size (by assumption) | (simp; done) | (simp; omega)) _ | refine Below.setCell ?_ (by first | omega | exact Below.size (by assumption) | (simp; done) | (simp; omega)) _ | refine below_setRow ?_ (by first | omega | exact Below.size (by assumption) | (simp; done) | (simp; omega)) _ | (refine Below.trans ?_ (Below.mono (by assumption) ?_); rotate_left; exact (by first | omega | exact Below.size (by assumption) | (simp; done) | (simp; omega))))))).mono ?_
  (rintro e w1 ⟨rfl, hb1⟩; obtain ⟨hc1, hf1⟩ := bcell hb1; have hz1 := hb1.size; try simp at hz1; try have hy1 := Nat.lt_of_succ_le hz1; try have hx1 := Nat.lt_of_succ_lt hy1; try have hw1 := Nat.lt_of_succ_lt hx1)
  go_wp2_with fail
  refine (hty _ (by (focus repeat (first | assumption | exact Below.refl _ _ | refine Below.drew ?_ | refine Below.alloc ?_ (by first | omega | exact Below.size (by assumption) | (simp; done) | (simp; omega)) _ | refine Below.setCell ?_ (by first | omega | exact Below.size (by assumption) | (simp; done) | (simp; omega)) _ | refine below_setRow ?_ (by first | omega | exact Below.size (by assumption) | (simp; done) | (simp; omega)) _ | (refine Below.trans ?_ (Below.mono (by assumption) ?_); rotate_left; exact (by first | omega | exact Below.size (by assumption) | (simp; done) | (simp; omega))))))).mono ?_
  (rintro e w2 ⟨rfl, hb2⟩; obtain ⟨hc2, hf2⟩ := bcell hb2; have hz2 := hb2.size; try simp at hz2; try have hy2 := Nat.lt_of_succ_le hz2; try have hx2 := Nat.lt_of_succ_lt hy2; try have hw2 := Nat.lt_of_succ_lt hx2)
  go_wp2_with fail
  refine (hord _ (by (focus repeat (first | assumption | exact Below.refl _ _ | refine Below.drew ?_ | refine Below.alloc ?_ (by first | omega | exact Below.size (by assumption) | (simp; done) | (simp; omega)) _ | refine Below.setCell ?_ (by first | omega | exact Below.size (by assumption) | (simp; done) | (simp; omega)) _ | refine below_setRow ?_ (by first | omega | exact Below.size (by assumption) | (simp; done) | (simp; omega)) _ | (refine Below.trans ?_ (Below.mono (by assumption) ?_); rotate_left; exact (by first | omega | exact Below.size (by assumption) | (simp; done) | (simp; omega))))))).mono ?_
  (rintro e w3 ⟨A3, c3, rfl, l3, k3, r3, hb3⟩; obtain ⟨hc3, hf3⟩ := bcell hb3; have hz3 := hb3.size; try simp at hz3; try have hy3 := Nat.lt_of_succ_le hz3; try have hx3 := Nat.lt_of_succ_lt hy3; try have hw3 := Nat.lt_of_succ_lt hx3)
  clear hlv hty hord
  have hB3 : Below w.heap.size w w3 := by (focus repeat (first | assumption | exact Below.refl _ _ | refine Below.drew ?_ | refine Below.alloc ?_ (by first | omega | exact Below.size (by assumption) | (simp; done) | (simp; omega)) _ | refine Below.setCell ?_ (by first | omega | exact Below.size (by assumption) | (simp; done) | (simp; omega)) _ | refine below_setRow ?_ (by first | omega | exact Below.size (by assumption) | (simp; done) | (simp; omega)) _ | (refine Below.trans ?_ (Below.mono (by assumption) ?_); rotate_left; exact (by first | omega | exact Below.size (by assumption) | (simp; done) | (simp; omega)))))
  have hX3 : Below (w.heap.size + 1) (w.alloc (.cells #[.slice A0 F.vars.length c0, .slice A1 F.params.length c1, .slice A2 F.blocks.length c2] 26)) w3 := by
    refine Below.trans (by simpa using hb1) ?_
    exact (hb2.mono (by omega)).trans (hb3.mono (by omega))
  obtain ⟨hq, hq0, hq1, hq2⟩ := box3 hX3
  have hnd := Lib.hid (nodup_rev fin.out.nod)
  have hlt := Lib.hid (fun (x : Nat) (hx : x ∈ (postO F).reverse) => fin.out.lt x (List.mem_reverse.1 hx))
  obtain ⟨r, hr⟩ := post_head HT.out
  have hled := Lib.hid (fun b => led_end HT.out (b := b))
  have hbeh := Lib.hid (fun b => beh_end HT.out (b := b))
  have hls := Lib.hid (fun (b a : Nat) => led_step (F := F) (b := b) (a := a))
  have hbs := Lib.hid (fun (b a : Nat) => beh_step (F := F) (b := b) (a := a))
  have hR := Lib.hid hr
  clear hr
  generalize hL : (postO F).reverse = L at *
  clear hL fin
  have hlen : (ints L).length = L.length := by simp [ints]
  rw [hlen]
  have l3' : L.length ≤ 281474976710656 := by rw [← hlen]; exact l3
  have hL1 : 1 ≤ L.length := by rw [hR.out]; simp
  have hL0 : ∀ i, i < L.length → ith (ints L) i = ((L.getD i 0 : Nat) : Int) := fun i hi => by simp [ith, ints, List.getD, hi]
  replace hL0 := Lib.hid hL0
  have hlen' := Lib.hid hlen
  clear hlen l3 k3
  go_wp2_with (
    at_make; refine wpList_make_full _ rfl _ _ 23 rfl (w.heap.size + 1) 3 ib _ 1 Tryd.underlying23 hib hi0 hi1 _ _ _ _ _ rfl rfl rfl rfl (by rw [hi2]; omega) (by unfold maxLen; omega) (by omega) ?_; intro w4 hs4 hg4
    have hX4 : Below w3.heap.size w3 w4 := (Below.refl _ _).grown hg4 (Nat.le_refl _) (fun k hk => by cases hk)
    have hq42 := (hX4.cell (p := ⟨w.heap.size, 2, none⟩) hq).trans hq2)
  have ho4 : w4.ownsRow (w.heap.size + 1) 3 1 (.slice (some ⟨w3.heap.size, 0, none⟩) F.blocks.length F.blocks.length) F.blocks.length (nats (atRow F.blocks.length L 0)) := by
    rw [atRow, nats_zero]
    simpa [Value.cells, toList_madeCells_one] using hs4
  clear hs4 hg4
  have hq4 := Nat.lt_of_lt_of_le hq hX4.size
  have hX0 : Below (w.heap.size + 1) w3 w4 := hX4.mono (by simpa using hX3.size)
  go_loopw [27] (fun i wr => ∃ n : Nat, i = .int .i64 n ∧ n ≤ L.length ∧ Below w3.heap.size w3 wr ∧ wr.ownsRow (w.heap.size + 1) 3 1 (.slice (some ⟨w3.heap.size, 0, none⟩) F.blocks.length F.blocks.length) F.blocks.length (nats (atRow F.blocks.length L n))) (fun i _ => L.length - (intOf i).toNat)
  case atStart => exact ⟨0, rfl, Nat.zero_le _, hX4, ho4⟩
  case round => as_aux_lemma =>
    obtain ⟨n, rfl, hn, hb, ho⟩ := hrel
    by_cases hnl : n < L.length
    · obtain ⟨b, off, rfl, hbl, hc⟩ := r3.int hb (i := n) (by rw [hlen'.out]; exact hnl)
      rw [hL0.out n hnl] at hc
      have hmem : L.getD n 0 ∈ L := by rw [getD_get hnl]; exact List.getElem_mem hnl
      have hbn := hlt.out _ hmem
      have hst := Lib.hid (show atRow F.blocks.length L (n + 1) = (atRow F.blocks.length L n).set (L.getD n 0) (n + 1) from rfl)
      have hzero : (atRow F.blocks.length L n).getD (L.getD n 0) 0 = 0 := by
        refine atRow_zero n (by omega) (fun hm => ?_)
        rw [getD_get hnl] at hm
        obtain ⟨k, hk, he⟩ := List.mem_iff_getElem.1 hm
        simp only [List.length_take] at hk
        rw [List.getElem_take] at he
        have := (List.getElem_inj hnd.out).1 he
        omega
      have hcell := (ho.cellAt (L.getD n 0) (by omega)).trans (nats_get (by rw [atRow_len]; exact hbn))
      rw [hzero] at hcell
      have hfz := ho.frozenAt (L.getD n 0)
      have hgl := (ho.lt _ rfl).2
      generalize L.getD n 0 = c at *
      have hn0 : ¬ ((c : Int) < 0) := by omega
      clear hmem hzero
      go_wp2
      go_roundw
      case measure => simp [intOf]; omega
      case rel =>
        refine ⟨n + 1, by go_num, by omega, hb.setCell (Nat.le_refl _) _, ?_⟩
        have := (ho.stored c (.int .i64 ((n + 1 : Nat) : Int))).1
        rw [nats_set] at this
        rw [hst.out]
        exact this
    · obtain rfl : n = L.length := by omega
      have hB := hB3.trans (hb.mono hB3.size)
      obtain ⟨b, off, rfl, hbl, hc0⟩ := r3.int hb (i := 0) (by rw [hlen'.out]; omega)
      rw [hL0.out 0 (by omega), show L.getD 0 0 = 0 by rw [hR.out]; rfl, Nat.add_zero] at hc0
      have hl0 : ((L.length : Int) == 0) = false := by rw [beq_eq_false_iff_ne]; omega
      have hg0 := (hb.cell (p := ⟨w.heap.size, 0, none⟩) hq).trans hq0
      have hg1 := (hb.cell (p := ⟨w.heap.size, 1, none⟩) hq).trans hq1
      have hg2 := (hb.cell (p := ⟨w.heap.size, 2, none⟩) hq).trans hq2
      have hg8 := Nat.lt_of_lt_of_le hq hb.size
      have hat : ∀ a, a < F.blocks.length → wr.cell? ⟨w3.heap.size, a, none⟩ = some (.int .i64 ((pl F.blocks.length L a : Nat) : Int)) := fun a ha =>
        (ho.cellAt a (by omega)).trans (nats_get (by rw [atRow_len]; exact ha))
      have hgl := (ho.lt _ rfl).2
      have hple : ∀ a, pl F.blocks.length L a ≤ L.length := fun a => atRow_le _
      replace hat := Lib.hid hat
      replace hple := Lib.hid hple
      have hWr : Below w.heap.size w wr := hB
      clear ho hq0 hq1 hq2 hn
      go_wp2
      obtain ⟨wv, rfl⟩ : ∃ wv : World, wv = wr := ⟨_, rfl⟩
      go_loopw [65] (fun i wr => ∃ n : Nat, i = .int .i64 n ∧ n ≤ F.blocks.length ∧ Below wv.heap.size wv wr) (fun i _ => F.blocks.length - (intOf i).toNat)
      case atStart => exact ⟨0, rfl, Nat.zero_le _, Below.refl _ _⟩
      case round => as_aux_lemma =>
        obtain ⟨n, rfl, hn, hb⟩ := hrel
        by_cases hnl2 : n < F.blocks.length
        · have hg0' := (hb.cell (p := ⟨w.heap.size, 2, none⟩) hg8).trans hg2
          go_wp2
          obtain ⟨wx, rfl⟩ : ∃ wx : World, wx = wr := ⟨_, rfl⟩
          clear hg0'
          go_loopw [8, 9, 75] (fun s8 s9 i wr => ∃ a : Nat, i = .int .i64 a ∧ a ≤ F.blocks.length ∧ Below wv.heap.size wv wr ∧ s8 = .bool (behB F n a) ∧ s9 = .bool (ledB F n a)) (fun _ _ i _ => F.blocks.length - (intOf i).toNat)
          case atStart =>
            have e : ((n : Int) == 0) = decide (n = 0) := by rw [Bool.eq_iff_iff]; simp
            exact ⟨0, rfl, Nat.zero_le _, hb, by rw [e]; simp [behB], by rw [e]; simp [ledB]⟩
          case round => as_aux_lemma =>
            clear hb
            obtain ⟨a, rfl, ha, hb, rfl, rfl⟩ := hrel
            have hB5 := hWr.trans (hb.mono hWr.size)
            have f0 := (hb.cell (p := ⟨w.heap.size, 0, none⟩) hg8).trans hg0
            have f1 := (hb.cell (p := ⟨w.heap.size, 1, none⟩) hg8).trans hg1
            have f2 := (hb.cell (p := ⟨w.heap.size, 2, none⟩) hg8).trans hg2
            have f8 := Nat.lt_of_lt_of_le hg8 hb.size
            have hgn := (hb.cell (p := ⟨w3.heap.size, n, none⟩) hgl).trans (hat.out n hnl2)
            have hgl8 := Nat.lt_of_lt_of_le hgl hb.size
            have hpn := hple.out n
            by_cases hal : a < F.blocks.length
            · have hga := (hb.cell (p := ⟨w3.heap.size, a, none⟩) hgl).trans (hat.out a hal)
              have hpa := hple.out a
              have hl := fun (w' : World) (h : Below w.heap.size w w') => hld w' h a n hal
              have hs1 := Lib.hid (hls.out n a)
              have hs2 := Lib.hid (hbs.out n a)
              rw [Int.toNat_natCast] at hl
              clear hg0 hg1 hg2
              generalize pl F.blocks.length L a = pa at *
              generalize pl F.blocks.length L n = pn at *
              cases hle : leads (F.blk a).term (n : Int)
              · have HL := Lib.hid (show ledB F n (a + 1) = ledB F n a by rw [hs1.out, hle]; simp)
                have HB := Lib.hid (show behB F n (a + 1) = behB F n a by rw [hs2.out, hle]; simp)
                rw [hle] at hl
                clear hle
                go_wp2_with (go_at_call 9; refine (hl _ hB5).mono ?_; (rintro e w6 ⟨rfl, hb6⟩; obtain ⟨hc6, hf6⟩ := bcell hb6; have hz6 := hb6.size; try simp at hz6; try have hy6 := Nat.lt_of_succ_le hz6; try have hx6 := Nat.lt_of_succ_lt hy6; try have hw6 := Nat.lt_of_succ_lt hx6))
                go_roundw
                case rel => exact ⟨a + 1, by go_num, by omega, hb.trans (hb6.mono hb.size), by rw [HB.out], by rw [HL.out]⟩
                case measure => simp [intOf]; omega
              by_cases hp0 : 0 < pa
              case neg =>
                have HL := Lib.hid (show ledB F n (a + 1) = ledB F n a by rw [hs1.out, decide_eq_false hp0]; simp)
                have HB := Lib.hid (show behB F n (a + 1) = behB F n a by rw [hs2.out, decide_eq_false hp0]; simp)
                rw [hle] at hl
                clear hle
                go_wp2_with (go_at_call 9; refine (hl _ hB5).mono ?_; (rintro e w6 ⟨rfl, hb6⟩; obtain ⟨hc6, hf6⟩ := bcell hb6; have hz6 := hb6.size; try simp at hz6; try have hy6 := Nat.lt_of_succ_le hz6; try have hx6 := Nat.lt_of_succ_lt hy6; try have hw6 := Nat.lt_of_succ_lt hx6))
                go_roundw
                case rel => exact ⟨a + 1, by go_num, by omega, hb.trans (hb6.mono hb.size), by rw [HB.out], by rw [HL.out]⟩
                case measure => simp [intOf]; omega
              have HL := Lib.hid (show ledB F n (a + 1) = true by rw [hs1.out, hle, decide_eq_true hp0]; simp)
              cases hbv : behB F n a
              · have HB := Lib.hid (show behB F n (a + 1) = decide (pa < pn) by rw [hs2.out, hle, hbv, decide_eq_true hp0]; simp)
                rw [hle] at hl
                clear hle hbv
                by_cases hlt3 : pa < pn
                all_goals
                  go_wp2_with (go_at_call 9; refine (hl _ hB5).mono ?_; rintro e w6 ⟨rfl, hb6⟩; obtain ⟨hc6, hf6⟩ := bcell hb6; have hz6 := hb6.size; have hj1 := (hc6 w3.heap.size a hgl8).trans hga; have hj2 := (hc6 w3.heap.size n hgl8).trans hgn)
                  go_quiet (fail)
                  go_wp2
                  go_roundw
                  case rel => exact ⟨a + 1, by go_num, by omega, bdrewN (hb.trans (hb6.mono hb.size)) _, by rw [HB.out]; simp [hlt3], by rw [HL.out]⟩
                  case measure => simp [intOf]; omega
              · have HB := Lib.hid (show behB F n (a + 1) = true by rw [hs2.out, hbv]; simp)
                rw [hle] at hl
                clear hle hbv
                go_wp2_with (go_at_call 9; refine (hl _ hB5).mono ?_; rintro e w6 ⟨rfl, hb6⟩; obtain ⟨hc6, hf6⟩ := bcell hb6; have hz6 := hb6.size; have hj1 := (hc6 w3.heap.size a hgl8).trans hga; have hj2 := (hc6 w3.heap.size n hgl8).trans hgn)
                go_quiet (fail)
                go_wp2
                go_roundw
                case rel => exact ⟨a + 1, by go_num, by omega, bdrewN (hb.trans (hb6.mono hb.size)) _, by rw [HB.out], by rw [HL.out]⟩
                case measure => simp [intOf]; omega
            · obtain rfl : a = F.blocks.length := by omega
              have HL := hled.out n
              have HB := hbeh.out n
              generalize pl F.blocks.length L n = pn at *
              by_cases hp0 : 0 < pn
              · rw [HL, HB hp0, decide_eq_true hp0]
                clear HL HB
                go_wp2
                go_roundw
                case rel => exact ⟨n + 1, by go_num, by omega, hb⟩
                case measure => simp [intOf]; omega
              · rw [HL, decide_eq_false hp0]
                generalize behB F n F.blocks.length = bv at *
                clear HL HB
                go_wp2
                go_roundw
                case rel => exact ⟨n + 1, by go_num, by omega, hb⟩
                case measure => simp [intOf]; omega
        · go_wp2
          go_ret
          exact ⟨rfl, hWr.trans (hb.mono hWr.size)⟩
end Go.Proofs.YtenedeaiepjedaaDoor
