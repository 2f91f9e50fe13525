/- The walk of the law DomFronts: it returns true, whatever the program. -/
import Derived.Test.YtjijlmddalbkbaaGreatDoorLiveD
import Derived.Test.YtjijlmddalbkbaaGreatDoorTable
namespace Go.Proofs.YtjijlmddalbkbaaGreatDoor
open Go.RowKit
set_option maxRecDepth 100000

/-- the document's word: is b in the front of a? -/
def inFrP (F : PFunc) (a b : Nat) : Prop := tabP F b b ∧ ¬ (a ≠ b ∧ tabP F a b) ∧ ∃ p, p < F.blocks.length ∧ tabP F a p ∧ leads (F.blk p).term (b : Int) = true
open Classical in
noncomputable def inFrB (F : PFunc) (a b : Nat) : Bool := decide (inFrP F a b)
open Classical in
theorem inFrB_iff {F : PFunc} {a b : Nat} : inFrB F a b = true ↔ inFrP F a b := by unfold inFrB; rw [decide_eq_true_eq]
theorem tab_anc {F : PFunc} {L : List (Option Nat)} (h : typedP F = true) (t : NearOk F.blocks.length (OR F) (PR F) L) {a p : Nat} : tabP F a p ↔ p ∈ OR F ∧ Anc (fnO L) a p := by
  unfold tabP
  constructor
  · rintro ⟨_, h2, h3⟩
    refine ⟨h2, ?_⟩
    rcases h3 with rfl | h3
    · exact .refl
    · exact (t.dom h2).2 h3
  · rintro ⟨h2, h3⟩
    exact ⟨t.tok.rr (gr_of h).gok ((t.tok.anc h3).2 (t.all h2)), h2, .inr ((t.dom h2).1 h3)⟩
theorem front_iff {F : PFunc} {L : List (Option Nat)} (h : typedP F = true) (t : NearOk F.blocks.length (OR F) (PR F) L) {a b : Nat} : SF (OR F) (PR F) (L.set 0 none) (fnO L) (OR F) a b ↔ inFrP F a b := by
  have hup := anc_up (y := a) (x := b) (L := L) rfl
  have hnot : ∀ q, fnO (L.set 0 none) b = some q → ¬ Anc (fnO L) b q := fun q hq => anc_not t rfl hq
  have hpa : PA (L.set 0 none) (fnO L) a b ↔ a ≠ b ∧ Anc (fnO L) a b := by
    constructor
    · rintro ⟨q, h1, h2⟩
      refine ⟨fun e => ?_, hup.2 (.inr ⟨q, h1, h2⟩)⟩
      subst e
      exact hnot q h1 h2
    · rintro ⟨h1, h2⟩
      rcases hup.1 h2 with e | e
      · exact absurd e h1
      · exact e
  unfold SF inFrP
  rw [tab_anc h t, tab_anc h t]
  constructor
  · rintro ⟨hb, p, h1, h2, h3, h4⟩
    have hm := (mem_PR h).1 h1
    exact ⟨⟨hb, .refl⟩, fun ⟨h5, _, h6⟩ => h4 (hpa.2 ⟨h5, h6⟩), p, hm.1, (tab_anc h t).2 ⟨h2, h3⟩, (EN_leads h hm.1).1 hm.2⟩
  · rintro ⟨⟨hb, _⟩, h2, p, h3, h4, h5⟩
    have h6 := (tab_anc h t).1 h4
    exact ⟨hb, p, (mem_PR h).2 ⟨h3, (EN_leads h h3).2 h5⟩, h6.1, h6.2, fun h7 => h2 ⟨(hpa.1 h7).1, hb, (hpa.1 h7).2⟩⟩
/-- the front of a, of those below i. -/
noncomputable def fr (F : PFunc) (a : Nat) : Nat → List Nat
  | 0 => []
  | i + 1 => if inFrB F a i = true then fr F a i ++ [i] else fr F a i
theorem fr_filter {F : PFunc} {a : Nat} : ∀ i, fr F a i = (List.range i).filter (inFrB F a)
  | 0 => rfl
  | i + 1 => by
    rw [fr, fr_filter i, List.range_succ, List.filter_append]
    by_cases h : inFrB F a i = true
    · rw [if_pos h]; simp [h]
    · rw [if_neg h]; simp [h]
theorem fr_prefix {F : PFunc} {a : Nat} : ∀ {i j : Nat}, i ≤ j → ∃ r, fr F a j = fr F a i ++ r
  | i, 0, h => ⟨[], by have : i = 0 := by omega
                       subst this; simp⟩
  | i, j + 1, h => by
    by_cases e : i = j + 1
    · subst e; exact ⟨[], by simp⟩
    · obtain ⟨r, hr⟩ := fr_prefix (F := F) (a := a) (show i ≤ j by omega)
      rw [fr]
      split
      · exact ⟨r ++ [j], by rw [hr, List.append_assoc]⟩
      · exact ⟨r, hr⟩
theorem fr_at {F : PFunc} {a i N : Nat} (hi : i < N) (hl : inFrB F a i = true) : (fr F a i).length < (fr F a N).length ∧ ith (ints (fr F a N)) (fr F a i).length = (i : Int) := by
  obtain ⟨r, hr⟩ := fr_prefix (F := F) (a := a) (show i + 1 ≤ N by omega)
  rw [fr, if_pos hl] at hr
  rw [hr]
  constructor
  · simp
  · simp [ith, ints, List.getD]
theorem fr_le {F : PFunc} {a : Nat} (i : Nat) : (fr F a i).length ≤ i := by
  rw [fr_filter]
  exact Nat.le_trans (List.length_filter_le _ _) (by simp)
open Classical in
theorem fr_front {F : PFunc} {L : List (Option Nat)} (h : typedP F = true) (t : NearOk F.blocks.length (OR F) (PR F) L) {a : Nat} :
    (if a ∈ OR F then ints (frontL F.blocks.length (SF (OR F) (PR F) (L.set 0 none) (fnO L) (OR F)) a) else []) = ints (fr F a F.blocks.length) := by
  rw [fr_filter]
  by_cases ha : a ∈ OR F
  · rw [if_pos ha]
    congr 1
    unfold frontL
    refine List.filter_congr fun b _ => ?_
    rw [Bool.eq_iff_iff, decide_eq_true_eq, inFrB_iff]
    exact front_iff h t
  · rw [if_neg ha]
    have : (List.range F.blocks.length).filter (inFrB F a) = [] := by
      rw [List.filter_eq_nil_iff]
      intro b _ hb
      obtain ⟨_, _, p, _, h4, _⟩ := inFrB_iff.1 hb
      exact ha h4.1
    rw [this]
    rfl
set_option maxHeartbeats 4000000 in
theorem inFront_calls {W w : World} {fv : Value} {F : PFunc} {b0 c : Nat} (hF : FnV W W.heap.size fv F) (hW : Below W.heap.size W w) (n2 : F.blocks.length ≤ 64) (hb0 : b0 < w.heap.size)
    (hT : ∀ a, a < F.blocks.length → ∃ b1, w.cell? ⟨b0, a, none⟩ = some (.slice (some ⟨b1, 0, none⟩) F.blocks.length F.blocks.length) ∧ b1 < w.heap.size ∧ ∀ x, x < F.blocks.length → w.cell? ⟨b1, x, none⟩ = some (.bool (tabB F a x))) (a b : Nat) (ha : a < F.blocks.length) (hb : b < F.blocks.length) :
    Calls Tryz.prog 29 #[fv, .slice (some ⟨b0, 0, none⟩) F.blocks.length c, .int .i64 (a : Int), .int .i64 (b : Int)] w fun e w' => e = .returned (.bool (inFrB F a b)) ∧ Below w.heap.size w w' := by
  have hld := Lib.hid (fun (w' : World) (h : Below W.heap.size W w') (x : Nat) (hx : x < F.blocks.length) => leads_calls hF h (x : Int) (b : Int) (by omega) (by omega))
  obtain ⟨A0, c0, A1, c1, A2, c2, rfl, l0, l1, l2, -⟩ := id hF.open_
  unfold Len at *
  have hWs := hW.size
  have hbx := (Below.refl w.heap.size w).alloc (Nat.le_refl _) (.cells #[.slice A0 F.vars.length c0, .slice A1 F.params.length c1, .slice A2 F.blocks.length c2] 26)
  obtain ⟨rb, hrb, hrbl, hrc⟩ := hT b hb
  obtain ⟨ra, hra, hral, hrac⟩ := hT a ha
  have hcb := hrc b hb
  have hca := hrac b hb
  have HRA := Lib.hid hrac
  have fa : (a : Int) < (F.blocks.length : Int) := by omega
  have fb : (b : Int) < (F.blocks.length : Int) := by omega
  clear hT hrc hrac
  cases hbb : tabB F b b
  · have HF := Lib.hid (show inFrB F a b = false by
      cases h : inFrB F a b
      · rfl
      · have := tabB_iff.2 (inFrB_iff.1 h).1
        rw [hbb] at this
        cases this)
    rw [hbb] at hcb
    clear hbb
    go_enter Tryz.func29, Tryz.ntmps29
    go_wp2
    go_ret
    exact ⟨ret_bool HF.out.symm, hbx⟩
  rw [hbb] at hcb
  by_cases hab : a ≠ b ∧ tabB F a b = true
  · have HF := Lib.hid (show inFrB F a b = false by
      cases h : inFrB F a b
      · rfl
      · exact absurd ⟨hab.1, tabB_iff.1 hab.2⟩ (inFrB_iff.1 h).2.1)
    rw [hab.2] at hca
    have e0 : ((a : Int) != (b : Int)) = true := by rw [bne_iff_ne]; have := hab.1; omega
    clear hab hbb
    go_enter Tryz.func29, Tryz.ntmps29
    go_wp2
    go_ret
    exact ⟨ret_bool HF.out.symm, hbx⟩
  have hin : ((a : Int) != (b : Int)) = false ∨ ((a : Int) != (b : Int)) = true ∧ tabB F a b = false := by
    by_cases e : a = b
    · exact .inl (by simp [e])
    · refine .inr ⟨by rw [bne_iff_ne]; omega, ?_⟩
      cases h : tabB F a b
      · rfl
      · exact absurd ⟨e, h⟩ hab
  have HF := Lib.hid (show inFrP F a b ↔ ∃ p, p < F.blocks.length ∧ tabP F a p ∧ leads (F.blk p).term (b : Int) = true from
    ⟨fun h => h.2.2, fun h => ⟨tabB_iff.1 hbb, fun h2 => hab ⟨h2.1, tabB_iff.2 h2.2⟩, h⟩⟩)
  clear hab hbb
  rcases hin with e0 | ⟨e0, e1⟩
  all_goals
    first | rw [e1] at hca | skip
    (try clear e1)
    go_enter Tryz.func29, Tryz.ntmps29
    go_wp2
    go_loopw [35] (fun i wr => ∃ p : Nat, i = .int .i64 p ∧ p ≤ F.blocks.length ∧ Hid (∀ q, q < p → ¬ (tabP F a q ∧ leads (F.blk q).term (b : Int) = true)) ∧ Below (w.heap.size + 1) (w.alloc (.cells #[.slice A0 F.vars.length c0, .slice A1 F.params.length c1, .slice A2 F.blocks.length c2] 26)) wr) (fun i _ => F.blocks.length - (intOf i).toNat)
    case atStart => exact ⟨0, rfl, Nat.zero_le _, (fun q hq => absurd hq (Nat.not_lt_zero _)), Below.refl _ _⟩
    case round => as_aux_lemma =>
      obtain ⟨p, rfl, hp, HP, hb9⟩ := hrel
      obtain ⟨q, q0, q1, q2⟩ := box3 hb9
      have hB : Below w.heap.size w wr := hbx.trans (hb9.mono (Nat.le_succ _))
      by_cases hpl : p < F.blocks.length
      · have fp : (p : Int) < (F.blocks.length : Int) := by omega
        have hcr := (hB.cell (p := ⟨b0, a, none⟩) hb0).trans hra
        have hcp := (hB.cell (p := ⟨ra, p, none⟩) hral).trans (HRA.out p hpl)
        have s1 := Nat.lt_of_lt_of_le hb0 hB.size
        have s2 := Nat.lt_of_lt_of_le hral hB.size
        have hl := hld.out wr (hW.trans (hB.mono hWs)) p hpl
        rw [Int.toNat_natCast] at hl
        cases htp : tabB F a p
        · rw [htp] at hcp
          have HN := Lib.hid (show ∀ q, q < p + 1 → ¬ (tabP F a q ∧ leads (F.blk q).term (b : Int) = true) from fun q hq => by
            rcases Nat.lt_succ_iff_lt_or_eq.1 hq with h | h
            · exact HP.out q h
            · subst h
              rintro ⟨h1, _⟩
              rw [tabB_iff.2 h1] at htp
              cases htp)
          clear htp
          go_wp2
          go_roundw
          case rel => exact ⟨p + 1, by go_num, by omega, HN, hb9⟩
          case measure => simp [intOf]; omega
        · rw [htp] at hcp
          cases hle : leads (F.blk p).term (b : Int)
          · rw [hle] at hl
            have HN := Lib.hid (show ∀ q, q < p + 1 → ¬ (tabP F a q ∧ leads (F.blk q).term (b : Int) = true) from fun q hq => by
              rcases Nat.lt_succ_iff_lt_or_eq.1 hq with h | h
              · exact HP.out q h
              · subst h
                rintro ⟨_, h2⟩
                rw [hle] at h2
                cases h2)
            clear htp hle
            go_wp2_with fail
            refine hl.mono ?_
            rintro e w8 ⟨rfl, hb8⟩
            go_wp2
            go_roundw
            case rel => exact ⟨p + 1, by go_num, by omega, HN, hb9.trans (hb8.mono (by have := hb9.size; simpa using this))⟩
            case measure => simp [intOf]; omega
          · rw [hle] at hl
            have HY := Lib.hid (show inFrB F a b = true from inFrB_iff.2 (HF.out.2 ⟨p, hpl, tabB_iff.1 htp, hle⟩))
            clear htp hle
            go_wp2_with fail
            refine hl.mono ?_
            rintro e w8 ⟨rfl, hb8⟩
            go_wp2
            go_ret
            exact ⟨ret_bool HY.out.symm, hB.trans (hb8.mono hB.size)⟩
      · obtain rfl : p = F.blocks.length := by omega
        have HN := Lib.hid (show inFrB F a b = false by
          cases h : inFrB F a b
          · rfl
          · obtain ⟨q, h1, h2⟩ := HF.out.1 (inFrB_iff.1 h)
            exact absurd h2 (HP.out q h1))
        go_wp2
        go_ret
        exact ⟨ret_bool HN.out.symm, hB⟩
end Go.Proofs.YtjijlmddalbkbaaGreatDoor
