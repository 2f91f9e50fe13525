/- Which instructions stay by themselves: the walks of ops.Pure, ops.Raw, dead.stays and of the document's Stays. -/
import Derived.Test.YtjdkcichkpolgaaGreatDoorRefR
import Derived.Test.YtjdkcichkpolgaaGreatDoorSlc
import Derived.Test.YtjdkcichkpolgaaGreatDoorZed
namespace Go.Proofs.YtjdkcichkpolgaaGreatDoor
open Go.RowKit
set_option maxRecDepth 100000
def staysB (o : Nat) : Bool := !([0, 1, 2, 3, 4, 7, 8, 9, 10, 11, 16, 25, 26].contains o)
def checkO (o : Nat) : Bool := decide (18 ≤ o) && decide (o ≤ 24)
def pureO (o : Nat) : Bool := !checkO o && !decide (o = 14) && !decide (o = 17) && !decide (o = 15)
def rawL : List Int := [5, 6, 12, 13, 14, 15]
def rawO (o : Nat) : Bool := (List.range 6).any fun i => rawL.getD i 0 == (o : Int)
theorem stays_eq : ∀ o, o < 27 → (!pureO o || rawO o) = staysB o := by decide +kernel
theorem checkO_calls {w : World} (o : Nat) : Calls Tryz.prog 130 #[.int .i64 (o : Int)] w fun e w' => e = .returned (.bool (checkO o)) ∧ w' = w := by
 by_cases h1 : 18 ≤ o
 · by_cases h2 : o ≤ 24
   · have HC := Lib.hid (show checkO o = true by simp [checkO, h1, h2])
     have h3 : decide ((18 : Int) ≤ (o : Int)) = true := decide_eq_true ZO
     have h4 : decide ((o : Int) ≤ 24) = true := decide_eq_true ZO
     go_enter Tryz.func130, Tryz.ntmps130
     go_wp2
     go_ret
     exact ⟨ret_bool HC.out.symm, rfl⟩
   · have HC := Lib.hid (show checkO o = false by simp [checkO, h2])
     have h3 : decide ((18 : Int) ≤ (o : Int)) = true := decide_eq_true ZO
     have h4 : decide ((o : Int) ≤ 24) = false := decide_eq_false ZO
     go_enter Tryz.func130, Tryz.ntmps130
     go_wp2
     go_ret
     exact ⟨ret_bool HC.out.symm, rfl⟩
 · have HC := Lib.hid (show checkO o = false by simp [checkO, h1])
   have h3 : decide ((18 : Int) ≤ (o : Int)) = false := decide_eq_false ZO
   go_enter Tryz.func130, Tryz.ntmps130
   go_wp2
   go_ret
   exact ⟨ret_bool HC.out.symm, rfl⟩
set_option maxHeartbeats 1000000 in
theorem pureO_calls {w : World} (o : Nat) (ho : o < 27) : Calls Tryz.prog 108 #[.int .i64 (o : Int)] w fun e w' => e = .returned (.bool (pureO o)) ∧ w' = w := by
 have h1 := is_calls (w := w) (o : Int)
 have hi : isOp (o : Int) = true := by simp [isOp, inB]; omega
 rw [hi] at h1
 have h2 := checkO_calls (w := w) o
 clear hi ho
 cases hc : checkO o
 · rw [hc] at h2
   by_cases e1 : o = 14
   · have HC := Lib.hid (show pureO o = false by simp [pureO, e1])
     have d1 : ((o : Int) != 14) = false := by simp [e1]
     clear hc e1
     go_enter Tryz.func108, Tryz.ntmps108
     go_wp2_with (first | (go_at_call 129; refine h1.mono ?_; rintro e w1 ⟨rfl, rfl⟩) | (go_at_call 130; refine h2.mono ?_; rintro e w2 ⟨rfl, rfl⟩))
     go_ret
     exact ⟨ret_bool HC.out.symm, rfl⟩
   · have d1 : ((o : Int) != 14) = true := by simp; omega
     by_cases e2 : o = 17
     · have HC := Lib.hid (show pureO o = false by simp [pureO, e2])
       have d2 : ((o : Int) != 17) = false := by simp [e2]
       clear hc e1 e2
       go_enter Tryz.func108, Tryz.ntmps108
       go_wp2_with (first | (go_at_call 129; refine h1.mono ?_; rintro e w1 ⟨rfl, rfl⟩) | (go_at_call 130; refine h2.mono ?_; rintro e w2 ⟨rfl, rfl⟩))
       go_ret
       exact ⟨ret_bool HC.out.symm, rfl⟩
     · have d2 : ((o : Int) != 17) = true := by simp; omega
       by_cases e3 : o = 15
       · have HC := Lib.hid (show pureO o = false by simp [pureO, e3])
         have d3 : ((o : Int) != 15) = false := by simp [e3]
         clear hc e1 e2 e3
         go_enter Tryz.func108, Tryz.ntmps108
         go_wp2_with (first | (go_at_call 129; refine h1.mono ?_; rintro e w1 ⟨rfl, rfl⟩) | (go_at_call 130; refine h2.mono ?_; rintro e w2 ⟨rfl, rfl⟩))
         go_ret
         exact ⟨ret_bool HC.out.symm, rfl⟩
       · have HC := Lib.hid (show pureO o = true by simp [pureO, hc, e1, e2, e3])
         have d3 : ((o : Int) != 15) = true := by simp; omega
         clear hc e1 e2 e3
         go_enter Tryz.func108, Tryz.ntmps108
         go_wp2_with (first | (go_at_call 129; refine h1.mono ?_; rintro e w1 ⟨rfl, rfl⟩) | (go_at_call 130; refine h2.mono ?_; rintro e w2 ⟨rfl, rfl⟩))
         go_ret
         exact ⟨ret_bool HC.out.symm, rfl⟩
 · rw [hc] at h2
   have HC := Lib.hid (show pureO o = false by simp [pureO, hc])
   clear hc
   go_enter Tryz.func108, Tryz.ntmps108
   go_wp2_with (first | (go_at_call 129; refine h1.mono ?_; rintro e w1 ⟨rfl, rfl⟩) | (go_at_call 130; refine h2.mono ?_; rintro e w2 ⟨rfl, rfl⟩))
   go_ret
   exact ⟨ret_bool HC.out.symm, rfl⟩
theorem indexO_calls {w : World} {g n c : Nat} {t : Nat → Int} (x : Int) (hg : g < w.heap.size) (hn : n ≤ 64) (hc : ∀ i, i < n → w.cell? ⟨g, i, none⟩ = some (.int .i64 (t i))) :
 Calls Tryz.prog 163 #[.slice (some ⟨g, 0, none⟩) n c, .int .i64 x] w fun e w' => (∃ k : Int, e = .returned (.int .i64 k) ∧ Hid (0 ≤ k ↔ ∃ i, i < n ∧ t i = x)) ∧ w' = w := by
 have HC := Lib.hid hc
 clear hc
 go_enter Tryz.func163, Tryz.ntmps163
 go_wp2
 go_loopw [8] (fun i wr => ∃ j : Nat, i = .int .i64 j ∧ j ≤ n ∧ Hid (∀ m, m < j → t m ≠ x) ∧ wr = w) (fun i _ => n - (intOf i).toNat)
 case atStart => exact ⟨0, rfl, Nat.zero_le _, fun m hm => absurd hm (Nat.not_lt_zero _), rfl⟩
 case round => as_aux_lemma =>
  obtain ⟨j, rfl, hj, HA, rfl⟩ := hrel
  by_cases hlt : j < n
  · have hc := HC.out j hlt
    have hjn : (j : Int) < (n : Int) := by omega
    by_cases he : t j = x
    · have HF := Lib.hid (show (0 ≤ (j : Int)) ↔ ∃ i, i < n ∧ t i = x from ⟨fun _ => ⟨j, hlt, he⟩, fun _ => ZO⟩)
      have he' : (x == t j) = true := by simp [he]
      clear he
      go_wp2
      go_ret
      exact ⟨⟨_, rfl, HF.out⟩, rfl⟩
    · have he' : (x == t j) = false := by rw [beq_eq_false_iff_ne]; exact fun e => he e.symm
      have HE := Lib.hid he
      clear he
      go_wp2
      go_roundw
      case rel => exact ⟨j + 1, ZN, ZO, fun m hm => if h : m < j then HA.out m h else by
       obtain rfl : m = j := by omega
       exact HE.out, trivial⟩
      case measure => simp [intOf]; omega
  · obtain rfl : j = n := by omega
    have HF := Lib.hid (show (0 ≤ (-1 : Int)) ↔ ∃ i, i < j ∧ t i = x from ⟨fun h => absurd h ZD, fun ⟨i, hi, h⟩ => absurd h (HA.out i hi)⟩)
    go_wp2
    go_ret
    exact ⟨⟨_, rfl, HF.out⟩, rfl⟩
theorem containsO_calls {w : World} {g n c : Nat} {t : Nat → Int} (x : Int) (hg : g < w.heap.size) (hn : n ≤ 64) (hc : ∀ i, i < n → w.cell? ⟨g, i, none⟩ = some (.int .i64 (t i))) :
 Calls Tryz.prog 131 #[.slice (some ⟨g, 0, none⟩) n c, .int .i64 x] w fun e w' => e = .returned (.bool ((List.range n).any fun i => t i == x)) ∧ w' = w := by
 have hi := indexO_calls (c := c) x hg hn hc
 clear hc
 have HX := Lib.hid (show ((List.range n).any fun i => t i == x) = true ↔ ∃ i, i < n ∧ t i = x by simp [List.any_eq_true])
 generalize ((List.range n).any fun i => t i == x) = X at *
 go_enter Tryz.func131, Tryz.ntmps131
 go_wp2_with (go_at_call 163; refine hi.mono ?_; rintro e w1 ⟨⟨k, rfl, hk⟩, hw1⟩; subst w1)
 go_ret
 refine ⟨ret_bool' ?_, rfl⟩
 rw [HX.out, ← hk.out, decide_eq_true_eq]
theorem rawO_calls {w : World} (o : Nat) : Calls Tryz.prog 109 #[.int .i64 (o : Int)] w fun e w' => e = .returned (.bool (rawO o)) ∧ Below w.heap.size w w' := by
 have hx := BoxAt.new w #[.int .i64 5, .int .i64 6, .int .i64 12, .int .i64 13, .int .i64 14, .int .i64 15] 53
 have hc := containsO_calls (w := w.alloc (.cells #[.int .i64 5, .int .i64 6, .int .i64 12, .int .i64 13, .int .i64 14, .int .i64 15] 53)) (c := 6) (g := w.heap.size) (n := 6) (t := fun i => rawL.getD i 0) (o : Int) ZS ZD (fun i hi => by
  rw [hx.cell]
  match i, hi with
  | 0, _ => rfl
  | 1, _ => rfl
  | 2, _ => rfl
  | 3, _ => rfl
  | 4, _ => rfl
  | 5, _ => rfl
  | k + 6, h => exact absurd h ZO)
 have HR := Lib.hid (show ((List.range 6).any fun i => rawL.getD i 0 == (o : Int)) = rawO o from rfl)
 generalize ((List.range 6).any fun i => rawL.getD i 0 == (o : Int)) = X at *
 go_enter Tryz.func109, Tryz.ntmps109
 go_wp2_with (go_at_call 131; refine hc.mono ?_; rintro e w1 ⟨rfl, hw1⟩; subst w1)
 go_ret
 exact ⟨ret_bool HR.out, BL⟩
theorem staysO_calls {w : World} (o : Nat) (ho : o < 27) : Calls Tryz.prog 75 #[.int .i64 (o : Int)] w fun e w' => e = .returned (.bool (staysB o)) ∧ Below w.heap.size w w' := by
 have h1 := pureO_calls (w := w) o ho
 have h2 := rawO_calls (w := w) o
 have h3 := stays_eq o ho
 cases hp : pureO o
 · rw [hp] at h1 h3
   have H3 := Lib.hid h3
   clear hp h3
   go_enter Tryz.func75, Tryz.ntmps75
   go_wp2_with (go_at_call 108; refine h1.mono ?_; rintro e w1 ⟨rfl, hw1⟩; subst w1)
   go_ret
   exact ⟨ret_bool (by rw [← H3.out]; rfl), BL⟩
 · rw [hp] at h1 h3
   have H3 := Lib.hid h3
   clear hp h3
   generalize rawO o = X at *
   go_enter Tryz.func75, Tryz.ntmps75
   go_wp2_with (first | (go_at_call 108; refine h1.mono ?_; rintro e w1 ⟨rfl, hw1⟩; subst w1) | (go_at_call 109; refine h2.mono ?_; rintro e w2 ⟨rfl, hb2⟩))
   go_ret
   exact ⟨ret_bool (by rw [← H3.out]; rfl), BL⟩
end Go.Proofs.YtjdkcichkpolgaaGreatDoor
namespace Go.Proofs.YtjdkcichkpolgaaGreatDoor
open Go.RowKit
set_option maxRecDepth 100000
theorem word_eqD_all : ∀ i, i < 27 → ∀ j, j < 27 → ((kindAt i).1 == (kindAt j).1) = decide (i = j) := by decide +kernel
theorem word_eqD (i : Nat) (hi : i < 27) (j : Nat) (hj : j < 27) : ((bs (kindAt i).1).toList == (kindAt j).1) = decide (i = j) := by
 rw [show (bs (kindAt i).1).toList = (kindAt i).1 by simp [bs, Lib.toList_data]]
 exact word_eqD_all i hi j hj
theorem wordsD (i : Nat) (hi : i < 27) {sW : ByteArray} (h : sW = bs (kindAt i).1) : (sW.toList == [99, 111, 110, 115, 116]) = decide (i = 0) ∧ (sW.toList == [99, 111, 112, 121]) = decide (i = 1) ∧ (sW.toList == [97, 100, 100]) = decide (i = 2) ∧ (sW.toList == [115, 117, 98]) = decide (i = 3) ∧ (sW.toList == [109, 117, 108]) = decide (i = 4) ∧ (sW.toList == [101, 113]) = decide (i = 7) ∧ (sW.toList == [108, 116]) = decide (i = 8) ∧ (sW.toList == [108, 101]) = decide (i = 9) ∧ (sW.toList == [110, 111, 116]) = decide (i = 10) ∧ (sW.toList == [97, 110, 100]) = decide (i = 11) ∧ (sW.toList == [110, 105, 108]) = decide (i = 16) ∧ (sW.toList == [112, 105]) = decide (i = 25) ∧ (sW.toList == [112, 105, 108, 101, 110]) = decide (i = 26) := by
 rw [h]
 exact ⟨word_eqD i hi 0 ZD, word_eqD i hi 1 ZD, word_eqD i hi 2 ZD, word_eqD i hi 3 ZD, word_eqD i hi 4 ZD, word_eqD i hi 7 ZD, word_eqD i hi 8 ZD, word_eqD i hi 9 ZD, word_eqD i hi 10 ZD, word_eqD i hi 11 ZD, word_eqD i hi 16 ZD, word_eqD i hi 25 ZD, word_eqD i hi 26 ZD⟩
set_option maxHeartbeats 8000000 in
theorem refStays_calls {w : World} (o : Nat) (dst num : Int) (A5 : Option Addr) (n5 c5 : Nat) (ho : o < 27) :
 Calls Tryz.prog 35 #[.agg #[.int .i64 (o : Int), .int .i64 dst, .slice A5 n5 c5, .int .i64 num]] w fun e w' => e = .returned (.bool (staysB o)) ∧ Below w.heap.size w w' := by
 obtain ⟨sW, hsW⟩ : ∃ sW, sW = bs (kindAt o).1 := ⟨_, rfl⟩
 have HSW := Lib.hid hsW
 have HW := Lib.hid (wordsD o ho hsW)
 clear hsW
 cases hs : staysB o
 · unfold staysB at hs
   rw [Bool.not_eq_false', List.contains_iff_mem] at hs
   simp only [List.mem_cons, List.not_mem_nil, or_false] at hs
   rcases hs with h | h | h | h | h | h | h | h | h | h | h | h | h
   all_goals
    as_aux_lemma =>
    obtain ⟨e0, e1, e2, e3, e4, e7, e8, e9, e10, e11, e16, e25, e26⟩ := HW.out
    simp (decide := true) only [h, decide_true, decide_false, Nat.reduceEqDiff] at e0 e1 e2 e3 e4 e7 e8 e9 e10 e11 e16 e25 e26
    have hoI : (o : Int) < 27 := by omega
    clear h HW
    go_enter Tryz.func35, Tryz.ntmps35
    go_upto_region 1 with fail
    obtain ⟨S0, hS0⟩ : ∃ S0 : World → Prop, S0 = fun w' => w'.cell? ⟨w.heap.size, 0, none⟩ = some (.int .i64 (o : Int)) ∧ Below (w.heap.size + 1) (w.alloc (.cells #[.int .i64 (o : Int), .int .i64 dst, .slice A5 n5 c5, .int .i64 num] 55)) w' ∧ w.heap.size < w'.heap.size := ⟨_, rfl⟩
    have HS0 := Lib.hid hS0
    clear hS0
    have k0 := fun xw => (WS.at HS0 xw).1
    have k1 := fun xw => (WS.at HS0 xw).2.1
    have k2 := fun xw => (WS.at HS0 xw).2.2
    refine wp_region_schedF (S := S0) [(1, false), (2, false), (0, true), (3, false), (4, false), (5, true)] ZK ZK (fun _ _ _ _ _ h => h) ?hS (fun hSc => ?_)
    case hS =>
     rw [HS0.out]
     exact ⟨ZI, BL, ZJ⟩
    have hne0 : Nonempty (WS S0) := ⟨⟨_, hSc⟩⟩
    simp only [List.map_cons, List.map_nil, List.getD_cons_succ, List.getD_cons_zero]
    repeat
     first
     | ((with_reducible refine wpSchF_lk ?_ ?_); exact rfl; dsimp only; go_big_quiet_step (fail); (try with_reducible refine wpQuiet_nil ?_); (try dsimp only))
     | ((with_reducible refine wpSchF_at ?_ ?_ (fun K hK => ?_))
        exact rfl
        exact rfl
        dsimp only
        go_simp
        (try go_wp2_with (go_at_call 77; refine rows2_calls.mono ?_; rintro e w9 ⟨rfl, hR9, hl9, hb9⟩; have hw9 := (hR9 o ho).1; rw [← HSW.out] at hw9; obtain ⟨hc9, hf9⟩ := bcell hb9; have hz9 := hb9.size; (try simp at hz9); (try simp at hl9); (try simp only [heap_drew, World.size_alloc] at hw9)))
        refine hK.out _ _ ?hS (fun hSc => ?_)
        case hS =>
         first
         | exact hSc
         | (rw [HS0.out] at hSc ⊢; obtain ⟨p0, p1, p2⟩ := hSc; exact ⟨ZC0, ZL1, ZT2⟩)
         | (rw [HS0.out] at hSc ⊢; obtain ⟨p0, p1, p2⟩ := hSc; exact ⟨ZC, BL, ZT⟩)
        clear hK K)
    refine wpSchF_nil ?_
    rw [HS0.out] at hSc
    obtain ⟨p0, p1, p2⟩ := hSc
    clear hne0 HS0 k0 k1 k2
    go_wp2
    go_ret
    exact ⟨rfl, BL⟩
 · simp [staysB] at hs
   obtain ⟨n0, n1, n2, n3, n4, n7, n8, n9, n10, n11, n16, n25, n26⟩ := hs
   obtain ⟨e0, e1, e2, e3, e4, e7, e8, e9, e10, e11, e16, e25, e26⟩ := HW.out
   simp only [n0, n1, n2, n3, n4, n7, n8, n9, n10, n11, n16, n25, n26, decide_false] at e0 e1 e2 e3 e4 e7 e8 e9 e10 e11 e16 e25 e26
   have hoI : (o : Int) < 27 := by omega
   clear n0 n1 n2 n3 n4 n7 n8 n9 n10 n11 n16 n25 n26 HW
   go_enter Tryz.func35, Tryz.ntmps35
   go_upto_region 1 with fail
   obtain ⟨S0, hS0⟩ : ∃ S0 : World → Prop, S0 = fun w' => w'.cell? ⟨w.heap.size, 0, none⟩ = some (.int .i64 (o : Int)) ∧ Below (w.heap.size + 1) (w.alloc (.cells #[.int .i64 (o : Int), .int .i64 dst, .slice A5 n5 c5, .int .i64 num] 55)) w' ∧ w.heap.size < w'.heap.size := ⟨_, rfl⟩
   have HS0 := Lib.hid hS0
   clear hS0
   have k0 := fun xw => (WS.at HS0 xw).1
   have k1 := fun xw => (WS.at HS0 xw).2.1
   have k2 := fun xw => (WS.at HS0 xw).2.2
   refine wp_region_schedF (S := S0) [(1, false), (2, false), (0, true), (3, false), (4, false), (5, true)] ZK ZK (fun _ _ _ _ _ h => h) ?hS (fun hSc => ?_)
   case hS =>
    rw [HS0.out]
    exact ⟨ZI, BL, ZJ⟩
   have hne0 : Nonempty (WS S0) := ⟨⟨_, hSc⟩⟩
   simp only [List.map_cons, List.map_nil, List.getD_cons_succ, List.getD_cons_zero]
   repeat
    first
    | ((with_reducible refine wpSchF_lk ?_ ?_); exact rfl; dsimp only; go_big_quiet_step (fail); (try with_reducible refine wpQuiet_nil ?_); (try dsimp only))
    | ((with_reducible refine wpSchF_at ?_ ?_ (fun K hK => ?_))
       exact rfl
       exact rfl
       dsimp only
       go_simp
       (try go_wp2_with (go_at_call 77; refine rows2_calls.mono ?_; rintro e w9 ⟨rfl, hR9, hl9, hb9⟩; have hw9 := (hR9 o ho).1; rw [← HSW.out] at hw9; obtain ⟨hc9, hf9⟩ := bcell hb9; have hz9 := hb9.size; (try simp at hz9); (try simp at hl9); (try simp only [heap_drew, World.size_alloc] at hw9)))
       refine hK.out _ _ ?hS (fun hSc => ?_)
       case hS =>
        first
        | exact hSc
        | (rw [HS0.out] at hSc ⊢; obtain ⟨p0, p1, p2⟩ := hSc; exact ⟨ZC0, ZL1, ZT2⟩)
        | (rw [HS0.out] at hSc ⊢; obtain ⟨p0, p1, p2⟩ := hSc; exact ⟨ZC, BL, ZT⟩)
       clear hK K)
   refine wpSchF_nil ?_
   rw [HS0.out] at hSc
   obtain ⟨p0, p1, p2⟩ := hSc
   clear hne0 HS0 k0 k1 k2
   go_wp2
   go_ret
   exact ⟨rfl, BL⟩
end Go.Proofs.YtjdkcichkpolgaaGreatDoor
