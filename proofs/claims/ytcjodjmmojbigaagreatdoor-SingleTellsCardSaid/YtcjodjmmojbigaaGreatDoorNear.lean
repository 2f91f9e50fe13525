/- The walk of dom.nearest: the nearest block above each one. -/
import Derived.Test.YtcjodjmmojbigaaGreatDoorAbove
import Derived.Test.YtcjodjmmojbigaaGreatDoorPreds
import Derived.Deep.LoopGhost
namespace Go.Proofs.YtcjodjmmojbigaaGreatDoor
open Go.RowKit
set_option maxRecDepth 100000

structure NearOk (n : Nat) (O : List Nat) (P : Nat → List Nat) (L : List (Option Nat)) : Prop where
  len : L.length = n
  zero : fnO L 0 = some 0
  tok : TOk (· ∈ O) (pz n O) (fnO L)
  all : ∀ {b}, b ∈ O → fnO L b ≠ none
  dom : ∀ {b d}, b ∈ O → (Anc (fnO L) d b ↔ ¬ Avoid (fun a b => a ∈ P b) d b)

theorem fnO_rep {n b : Nat} : fnO (List.replicate n none) b = none := by
  simp only [fnO, List.getD, List.getElem?_replicate]
  split <;> rfl
theorem own_lower {w : World} {B B' e sz n : Nat} {v : Value} {xs : List Value} (h : w.ownsRow B e sz v n xs) (hb : B' ≤ B) : w.ownsRow B' e sz v n xs := by
  obtain ⟨h1, h2⟩ := h
  refine ⟨h1, ?_⟩
  rcases h2 with h2 | ⟨g, cap, cur, hv, hg, r⟩
  · exact .inl h2
  · exact .inr ⟨g, cap, cur, hv, Nat.le_trans hb hg, r⟩
/-- the memory of the round: the two rows and the record of both. -/
structure NI (w wr : World) (n gn ga cb : Nat) (L AT : List (Option Nat)) : Prop where
  hb : Below w.heap.size w wr
  hn : wr.ownsRow w.heap.size 3 1 (.slice (some ⟨gn, 0, none⟩) n n) n (valsO L)
  ha : wr.ownsRow w.heap.size 3 1 (.slice (some ⟨ga, 0, none⟩) n n) n (valsO AT)
  c : cb < wr.heap.size
  c0 : wr.cell? ⟨cb, 0, none⟩ = some (.slice (some ⟨gn, 0, none⟩) n n)
  c1 : wr.cell? ⟨cb, 1, none⟩ = some (.slice (some ⟨ga, 0, none⟩) n n)
  d1 : gn ≠ ga
  d2 : gn ≠ cb
  d3 : ga ≠ cb
section
variable {w wr w' : World} {n gn ga cb i : Nat} {L AT : List (Option Nat)} {o : Option Nat}
theorem NI.below (h : NI w wr n gn ga cb L AT) (hb : Below wr.heap.size wr w') : NI w w' n gn ga cb L AT :=
  ⟨h.hb.trans (hb.mono h.hb.size), own_below h.hn hb, own_below h.ha hb, Nat.lt_of_lt_of_le h.c hb.size, (hb.cell (p := ⟨cb, 0, none⟩) h.c).trans h.c0, (hb.cell (p := ⟨cb, 1, none⟩) h.c).trans h.c1, h.d1, h.d2, h.d3⟩
theorem NI.setA (h : NI w wr n gn ga cb L AT) : NI w (wr.setCell ⟨ga, i, none⟩ (.int .i64 (encO o))) n gn ga cb L (AT.set i o) := by
  have hg := (h.ha.lt _ rfl).1
  refine ⟨h.hb.setCell (p := ⟨ga, i, none⟩) hg _, ownsRow_setCell_other h.hn (a := ⟨ga, i, none⟩) (by simpa [Value.ownBlock] using h.d1) _, ?_, by simpa using h.c, ?_, ?_, h.d1, h.d2, h.d3⟩
  · rw [← valsO_set]; exact (h.ha.stored i _).1
  · rw [World.cell?_setCell_far _ _ _ _ (by simpa using h.d3)]; exact h.c0
  · rw [World.cell?_setCell_far _ _ _ _ (by simpa using h.d3)]; exact h.c1
theorem NI.setN (h : NI w wr n gn ga cb L AT) : NI w (wr.setCell ⟨gn, i, none⟩ (.int .i64 (encO o))) n gn ga cb (L.set i o) AT := by
  have hg := (h.hn.lt _ rfl).1
  refine ⟨h.hb.setCell (p := ⟨gn, i, none⟩) hg _, ?_, ownsRow_setCell_other h.ha (a := ⟨gn, i, none⟩) (by simpa [Value.ownBlock] using fun e => h.d1 e.symm) _, by simpa using h.c, ?_, ?_, h.d1, h.d2, h.d3⟩
  · rw [← valsO_set]; exact (h.hn.stored i _).1
  · rw [World.cell?_setCell_far _ _ _ _ (by simpa using h.d2)]; exact h.c0
  · rw [World.cell?_setCell_far _ _ _ _ (by simpa using h.d2)]; exact h.c1
/-- the cells that the walk reads. -/
theorem NI.facts (h : NI w wr n gn ga cb L AT) : cb < wr.heap.size ∧ gn < wr.heap.size ∧ ga < wr.heap.size ∧ (∀ j, wr.frozen? ⟨gn, j, none⟩ = false) ∧ (∀ j, wr.frozen? ⟨ga, j, none⟩ = false) ∧ gn ≠ cb ∧ cb ≠ gn ∧ ga ≠ cb ∧ cb ≠ ga ∧ gn ≠ ga ∧ ga ≠ gn :=
  ⟨h.c, (h.hn.lt _ rfl).2, (h.ha.lt _ rfl).2, fun j => h.hn.frozenAt j, fun j => h.ha.frozenAt j, h.d2, fun e => h.d2 e.symm, h.d3, fun e => h.d3 e.symm, h.d1, fun e => h.d1 e.symm⟩
theorem own_at {B e g : Nat} (h : wr.ownsRow B e 1 (.slice (some ⟨g, 0, none⟩) n n) n (valsO L)) (hl : L.length = n) (hi : i < n) : wr.cell? ⟨g, i, none⟩ = some (.int .i64 (encO (fnO L i))) :=
  (RowO.of_own h hl).2 i (by omega)
end
theorem Rd.first {W : World} {A : Option Addr} {xs : List Int} (h : Rd W.heap.size A xs 1 (IntC W)) (hn : 0 < xs.length) :
    ∃ b off, A = some ⟨b, off, none⟩ ∧ b < W.heap.size ∧ ∀ i, i < xs.length → W.cell? ⟨b, off + i, none⟩ = some (.int .i64 (ith xs i)) := by
  obtain ⟨b, off, rfl, hb, -⟩ := h.int (Below.refl _ _) hn
  refine ⟨b, off, rfl, hb, fun i hi => ?_⟩
  obtain ⟨b', off', he, -, hc⟩ := h.int (Below.refl _ _) hi
  cases he
  exact hc
theorem Rd.rows {W : World} {A : Option Addr} {xss : List (List Int)} (h : Rd W.heap.size A xss 1 (RowC W W.heap.size)) (hn : 0 < xss.length) :
    ∃ b off, A = some ⟨b, off, none⟩ ∧ b < W.heap.size ∧ ∀ i, i < xss.length → ∃ A' c, W.cell? ⟨b, off + i, none⟩ = some (.slice A' (xss.getD i []).length c) ∧ (xss.getD i []).length ≤ c ∧ Rd W.heap.size A' (xss.getD i []) 1 (IntC W) := by
  obtain ⟨b, off, rfl, hb, -⟩ := h 0 (xss.getD 0 []) (by simp [hn])
  refine ⟨b, off, rfl, hb, fun i hi => ?_⟩
  obtain ⟨b', off', he, -, v, hc, A', c, rfl, -, hk, hr⟩ := h i (xss.getD i []) (by simp [hi])
  cases he
  exact ⟨A', c, by simpa using hc, hk, hr⟩
theorem NMid.start {n : Nat} {O : List Nat} {P : Nat → List Nat} {L : List (Option Nat)} (g : GrOk n O P) (q : QInv (· ∈ O) (pz n O) (fun a b => a ∈ P b) (fnO L) 1) (hl : L.length = n) (h0 : fnO L 0 = some 0) : NMid n O P L 1 L false :=
  ⟨q, hl, h0, fun _ => ⟨rfl, fun b v hb hb0 hlt _ => (hb0 (g.gok.inj hb g.gok.r0 (by rw [g.gok.at0]; omega))).elim⟩, (fun h => by cases h)⟩
theorem pz_lt {n b : Nat} {O : List Nat} {P : Nat → List Nat} (g : GrOk n O P) (hb : b ∈ O) : pz n O b < O.length := by
  obtain ⟨i, hi, _, h⟩ := g.mem hb
  omega
theorem NearOk.of {n : Nat} {O : List Nat} {P : Nat → List Nat} {L : List (Option Nat)} (g : GrOk n O P) (q : QInv (· ∈ O) (pz n O) (fun a b => a ∈ P b) (fnO L) O.length) (hl : L.length = n) (h0 : fnO L 0 = some 0)
    (hm : ∀ b v, b ∈ O → b ≠ 0 → pz n O b < O.length → fnO L b = some v → Meets (· ∈ O) (fun a b => a ∈ P b) (fnO L) b v) : NearOk n O P L :=
  ⟨hl, h0, q.tok, fun hb => q.done hb (pz_lt g hb), fun hb => q.fin g.gok (fun _ hb => pz_lt g hb) (fun b v hb h0 hN => hm b v hb h0 (pz_lt g hb) hN) hb⟩
set_option maxHeartbeats 8000000 in
theorem nearest_calls {W w : World} {n co cp : Nat} {O : List Nat} {P : Nat → List Nat} {PP : List (List Int)} {AO AP : Option Addr} (hW : Below W.heap.size W w) (hO : Rd W.heap.size AO (ints O) 1 (IntC W)) (hco : O.length ≤ co)
    (hP : Rd W.heap.size AP PP 1 (RowC W W.heap.size)) (hPP : ∀ b, b < n → PP.getD b [] = ints (P b)) (hPl : PP.length = n) (g : GrOk n O P) (n1 : 1 ≤ n) (n2 : n ≤ 64) (hOl : O.length ≤ 64) (hPn : ∀ b, (P b).length ≤ 64) :
    Calls Tryz.prog 44 #[.slice AO O.length co, .slice AP n cp, .int .i64 (n : Int)] w fun e w' => ∃ gn, e = .returned (.slice (some ⟨gn, 0, none⟩) n n) ∧ ∃ L, Hid (NearOk n O P L) ∧
      w'.ownsRow w.heap.size 3 1 (.slice (some ⟨gn, 0, none⟩) n n) n (valsO (L.set 0 none)) ∧ Below w.heap.size w w' := by
  have G := Lib.hid g
  have HPP := Lib.hid hPP
  have hWs := hW.size
  have hO0 : 0 < O.length := by obtain ⟨r, hr⟩ := g.hd; rw [hr]; simp
  have hil : (ints O).length = O.length := by simp [ints]
  obtain ⟨bo, oo, rfl, hbo, hOc⟩ := hO.first (by rw [hil]; exact hO0)
  replace hOc : ∀ i, i < O.length → W.cell? ⟨bo, oo + i, none⟩ = some (.int .i64 ((O.getD i 0 : Nat) : Int)) := fun i hi => by
    rw [hOc i (by rw [hil]; exact hi)]
    simp [ith, ints, List.getD, hi]
  replace hOc := Lib.hid hOc
  have hOm := Lib.hid (fun i (hi : i < O.length) => g.lt _ (show O.getD i 0 ∈ O by rw [getD_get hi]; exact List.getElem_mem hi))
  obtain ⟨bp, op, rfl, hbp, hPc⟩ := hP.rows (by omega)
  replace hPc := Lib.hid (show ∀ b, b < n → ∃ A c, W.cell? ⟨bp, op + b, none⟩ = some (.slice A (P b).length c) ∧ (P b).length ≤ c ∧ Rd W.heap.size A (ints (P b)) 1 (IntC W) from fun b hb => by
    obtain ⟨A, c, h1, h2, h3⟩ := hPc b (by omega)
    rw [hPP b hb] at h1 h2 h3
    exact ⟨A, c, by simpa [ints] using h1, by simpa [ints] using h2, h3⟩)
  clear g hPP hO hP HPP
  go_enter Tryz.func44, Tryz.ntmps44
  go_wp2_with fail
  refine (repeat_calls (x := -1) (by simp) (cell_of_row _ _ 0 _ _ _ (heap_alloc_new w _)) n1 n2).mono ?_
  rintro e w1 ⟨gn, rfl, ho1, hb1⟩
  go_wp2_with fail
  refine (repeat_calls (x := -1) (by simp) (cell_of_row _ _ 0 _ _ _ (heap_alloc_new w1 _)) n1 n2).mono ?_
  rintro e w2 ⟨ga, rfl, ho2, hb2⟩
  go_wp2_with fail
  go_loopw [25] (fun i wr => ∃ k : Nat, i = .int .i64 k ∧ k ≤ O.length ∧ NI w wr n gn ga w2.heap.size (List.replicate n none) (atO n O k)) (fun i _ => O.length - (intOf i).toNat)
  case atStart =>
    have e1 := hb1.size
    have e2 := hb2.size
    simp at e1 e2
    have hbn := hb2.mono (B' := w1.heap.size) (by simp)
    have g1 := ho1.lt _ rfl
    have g2 := ho2.lt _ rfl
    simp at g1 g2
    have hw1 : Below w.heap.size w w1 := by (focus repeat (first | assumption | exact Below.refl _ _ | refine Below.drew ?_ | refine Below.alloc ?_ (by first | omega | exact Below.size (by assumption) | (simp; done) | (simp; omega)) _ | refine Below.setCell ?_ (by first | omega | exact Below.size (by assumption) | (simp; done) | (simp; omega)) _ | refine below_setRow ?_ (by first | omega | exact Below.size (by assumption) | (simp; done) | (simp; omega)) _ | (refine Below.trans ?_ (Below.mono (by assumption) ?_); rotate_left; exact (by first | omega | exact Below.size (by assumption) | (simp; done) | (simp; omega)))))
    have hw2 : Below w.heap.size w w2 := by (focus repeat (first | assumption | exact Below.refl _ _ | refine Below.drew ?_ | refine Below.alloc ?_ (by first | omega | exact Below.size (by assumption) | (simp; done) | (simp; omega)) _ | refine Below.setCell ?_ (by first | omega | exact Below.size (by assumption) | (simp; done) | (simp; omega)) _ | refine below_setRow ?_ (by first | omega | exact Below.size (by assumption) | (simp; done) | (simp; omega)) _ | (refine Below.trans ?_ (Below.mono (by assumption) ?_); rotate_left; exact (by first | omega | exact Below.size (by assumption) | (simp; done) | (simp; omega)))))
    have hon := own_below (own_below (own_below (own_lower ho1 (B' := w.heap.size) (by simp)) ((Below.refl w1.heap.size w1).alloc (Nat.le_refl _) (.cells #[.int .i64 (-1)] 3))) (hb2.mono (by simp))) ((Below.refl w2.heap.size w2).alloc (Nat.le_refl _) (.cells #[.slice (some ⟨gn, 0, none⟩) n n, .slice (some ⟨ga, 0, none⟩) n n] 103))
    have hoa := own_below (own_lower ho2 (B' := w.heap.size) (by simp; omega)) ((Below.refl w2.heap.size w2).alloc (Nat.le_refl _) (.cells #[.slice (some ⟨gn, 0, none⟩) n n, .slice (some ⟨ga, 0, none⟩) n n] 103))
    obtain ⟨c0, c1, c2⟩ := box2 (Below.refl (w2.heap.size + 1) (w2.alloc (.cells #[.slice (some ⟨gn, 0, none⟩) n n, .slice (some ⟨ga, 0, none⟩) n n] 103)))
    refine ⟨0, rfl, Nat.zero_le _, ⟨by (focus repeat (first | assumption | exact Below.refl _ _ | refine Below.drew ?_ | refine Below.alloc ?_ (by first | omega | exact Below.size (by assumption) | (simp; done) | (simp; omega)) _ | refine Below.setCell ?_ (by first | omega | exact Below.size (by assumption) | (simp; done) | (simp; omega)) _ | refine below_setRow ?_ (by first | omega | exact Below.size (by assumption) | (simp; done) | (simp; omega)) _ | (refine Below.trans ?_ (Below.mono (by assumption) ?_); rotate_left; exact (by first | omega | exact Below.size (by assumption) | (simp; done) | (simp; omega))))), by simpa [valsO, encO] using hon, by simpa [valsO, encO, atO_zero] using hoa, c0, c1, c2, by omega, by omega, by omega⟩⟩
  case round => as_aux_lemma =>
    obtain ⟨k, rfl, hk, hI⟩ := hrel
    obtain ⟨q0, q1, q2, q3, q4, d1, d2, d3, d4, d5, d6⟩ := hI.facts
    have hWr := hW.trans (hI.hb.mono hWs)
    by_cases hlt : k < O.length
    · have hc := (hWr.cell (p := ⟨bo, oo + k, none⟩) hbo).trans (hOc.out k hlt)
      have hbo' := Nat.lt_of_lt_of_le hbo hWr.size
      have hbn := hOm.out k hlt
      have hc1 := hI.c1
      have hca := own_at hI.ha atO_len hbn
      have hst := hI.setA (i := O.getD k 0) (o := some k)
      rw [← atO_step] at hst
      generalize O.getD k 0 = b at *
      have HS := Lib.hid hst
      have hfz := q4 b
      clear hst
      go_wp2
      go_roundw
      case rel => exact ⟨k + 1, by go_num, by omega, HS.out⟩
      case measure => simp [intOf]; omega
    · obtain rfl : k = O.length := by omega
      have hc0 := hI.c0
      have hcn := own_at hI.hn (by simp) (show 0 < n by omega)
      have hfz := q3 0
      have hst := hI.setN (i := 0) (o := some 0)
      obtain ⟨L0, hL0⟩ : ∃ L0 : List (Option Nat), L0 = (List.replicate n none).set 0 (some 0) := ⟨_, rfl⟩
      obtain ⟨AT, hAT⟩ : ∃ AT, AT = atO n O O.length := ⟨_, rfl⟩
      rw [← hL0, ← hAT] at hst
      have HI := Lib.hid hst
      have HL0 := Lib.hid hL0
      have HAT := Lib.hid hAT
      clear hst hL0 hAT hI
      go_wp2
      go_loopg [10] (2 * phi n O L0 + 1) (fun gk v10 wr => ∃ L m, v10 = .bool m ∧ Hid (QInv (· ∈ O) (pz n O) (fun a b => a ∈ P b) (fnO L) 1 ∧ L.length = n ∧ fnO L 0 = some 0 ∧ (m = false → NearOk n O P L) ∧ 2 * phi n O L + (if m = true then 1 else 0) ≤ gk) ∧ NI w wr n gn ga w2.heap.size L AT)
      case atStart =>
        have e0 : fnO L0 0 = some 0 := by rw [HL0.out]; exact fnO_set (by simp; omega)
        exact ⟨L0, true, rfl, ⟨QInv.start G.out.gok e0 (fun b hb => by rw [HL0.out, fnO_ne hb]; exact fnO_rep), by rw [HL0.out]; simp, e0, (fun h => by cases h), by simp⟩, HI.out⟩
      case round => as_aux_lemma =>
        clear hc0 hcn hfz q0 q1 q2 q3 q4 d1 d2 d3 d4 d5 d6 hWr HI
        obtain ⟨L, m, rfl, HD, hI⟩ := hrel
        obtain ⟨q0, q1, q2, q3, q4, d1, d2, d3, d4, d5, d6⟩ := hI.facts
        have hWr := hW.trans (hI.hb.mono hWs)
        have hc0 := hI.c0
        have hc1 := hI.c1
        have hLn := HD.out.2.1
        cases m
        · have hcn := own_at hI.hn hLn (show 0 < n by omega)
          have hfz := q3 0
          have hst := Lib.hid (hI.setN (i := 0) (o := none))
          have HK := Lib.hid (HD.out.2.2.2.1 rfl)
          go_wp2
          go_ret
          exact ⟨gn, rfl, L, HK, hst.out.hn, hst.out.hb⟩
        have HQ := Lib.hid (NMid.start G.out HD.out.1 hLn HD.out.2.2.1)
        obtain ⟨gk', rfl⟩ : ∃ f, gk = f + 1 := ⟨gk - 1, by have := HD.out.2.2.2.2; simp at this; omega⟩
        have HG := Lib.hid (show 2 * phi n O L ≤ gk' by have := HD.out.2.2.2.2; simp at this; omega)
        clear HD
        by_cases hco1 : co = 1
        · subst hco1
          have hol : O.length = 1 := by omega
          have HOL := Lib.hid hol
          have hol1 : ¬ (0 : Int) < ((O.length - 1 : Nat) : Int) := by omega
          clear hol
          go_wp2
          refine wp_loop_once ?_
          go_wp2
          go_roundg gk'
          case measure => omega
          case rel =>
            obtain ⟨h1, h2, h3, h4, h5⟩ := HQ.out
            refine ⟨L, false, rfl, ⟨h1.next (fun b hb => by have := pz_lt G.out hb; have := HOL.out; omega), h2, h3, fun hf => NearOk.of G.out (by rw [HOL.out]; exact h1) h2 h3 ?_, ?_⟩, hI⟩
            · rw [HOL.out]; exact (h4 hf).2
            · have := HG.out; simp; omega
        go_wp2
        go_loopw [10, 43] (fun s10 i wr => ∃ (j : Nat) (L' : List (Option Nat)) (m' : Bool), i = .int .i64 j ∧ s10 = .bool m' ∧ j + 1 ≤ O.length ∧ Hid (NMid n O P L (j + 1) L' m') ∧ NI w wr n gn ga w2.heap.size L' AT) (fun _ i _ => O.length - (intOf i).toNat)
        case atStart => exact ⟨0, L, false, rfl, rfl, hO0, HQ, hI⟩
        case round => as_aux_lemma =>
          clear q0 q1 q2 q3 q4 d1 d2 d3 d4 d5 d6 hWr hI hc0 hc1 HQ
          obtain ⟨j, L', m', rfl, rfl, hj, HM, hI⟩ := hrel
          obtain ⟨q0, q1, q2, q3, q4, d1, d2, d3, d4, d5, d6⟩ := hI.facts
          have hWr := hW.trans (hI.hb.mono hWs)
          have hc0 := hI.c0
          have hc1 := hI.c1
          by_cases hjl : j + 1 < O.length
          · have hc := (hWr.cell (p := ⟨bo, oo + (j + 1), none⟩) hbo).trans (hOc.out (j + 1) hjl)
            rw [show oo + (j + 1) = oo + 1 + j by omega] at hc
            have hbo' := Nat.lt_of_lt_of_le hbo hWr.size
            have hbp' := Nat.lt_of_lt_of_le hbp hWr.size
            have hbn := hOm.out (j + 1) hjl
            have hjl2 : j < O.length - 1 := by omega
            have hjl3 : (j : Int) < ((O.length - 1 : Nat) : Int) := by omega
            have HB := Lib.hid (show O.getD (j + 1) 0 ∈ O by rw [getD_get hjl]; exact List.getElem_mem hjl)
            have HPZ := Lib.hid (pz_idx G.out hjl)
            generalize O.getD (j + 1) 0 = b at *
            obtain ⟨A9, c9, hcp, k9, r9⟩ := hPc.out b hbn
            replace hcp := (hWr.cell (p := ⟨bp, op + b, none⟩) hbp).trans hcp
            have hpn := hPn b
            have h0b := Lib.hid (show b ≠ 0 from fun e => by have := HPZ.out; rw [e, G.out.gok.at0] at this; omega)
            have hLn' := HM.out.2.1
            obtain ⟨wq, rfl⟩ : ∃ wq : World, wq = wr := ⟨_, rfl⟩
            go_wp2
            go_loopw [13, 52] (fun s13 i wr => ∃ (k : Nat) (o : Option Nat) (x : Int), i = .int .i64 k ∧ s13 = .int .i64 x ∧ Hid (x = encO o) ∧ k ≤ (P b).length ∧ Hid (Best (fnO L') ((P b).take k) o) ∧ NI w wr n gn ga w2.heap.size L' AT) (fun _ i _ => (P b).length - (intOf i).toNat)
            case atStart => exact ⟨0, none, -1, rfl, rfl, rfl, Nat.zero_le _, (fun a ha => by simp at ha), hI⟩
            case round => as_aux_lemma =>
              clear q0 q1 q2 q3 q4 d1 d2 d3 d4 d5 d6 hWr hI hc0 hc1 hc hcp hbo' hbp'
              obtain ⟨k, o, x, rfl, rfl, HX, hk, HBst, hI⟩ := hrel
              obtain ⟨q0, q1, q2, q3, q4, d1, d2, d3, d4, d5, d6⟩ := hI.facts
              have hWr := hW.trans (hI.hb.mono hWs)
              have hc0 := hI.c0
              have hc1 := hI.c1
              by_cases hkl : k < (P b).length
              · obtain ⟨b9, o9, rfl, hb9, hc9⟩ := r9.int hWr (i := k) (by simpa [ints] using hkl)
                have hpe : ith (ints (P b)) k = (((P b).getD k 0 : Nat) : Int) := by simp [ith, ints, List.getD, hkl]
                rw [hpe] at hc9
                clear hpe
                have hpm : (P b).getD k 0 ∈ P b := by rw [getD_get hkl]; exact List.getElem_mem hkl
                have hpb := G.out.plt b _ hpm
                have htk := Lib.hid (show (P b).take (k + 1) = (P b).take k ++ [(P b).getD k 0] by rw [List.take_succ_eq_append_getElem hkl, getD_get hkl])
                clear hpm
                generalize (P b).getD k 0 = p at *
                have hca := own_at hI.ha (by rw [HAT.out]; exact atO_len) hpb
                have hcn := own_at hI.hn hLn' hpb
                have hav : fnO AT p = if pl n O p = 0 then none else some (pz n O p) := by rw [HAT.out]; exact atO_at hpb
                by_cases hpn : fnO L' p = none
                ·
                  have HPN := Lib.hid hpn
                  rw [hpn] at hcn
                  replace hcn : wr.cell? ⟨gn, p, none⟩ = some (.int .i64 (-1)) := hcn
                  clear hpn
                  by_cases hap : pl n O p = 0
                  · rw [if_pos hap] at hav
                    rw [hav] at hca
                    replace hca : wr.cell? ⟨ga, p, none⟩ = some (.int .i64 (-1)) := hca
                    clear hav hap
                    go_wp2
                    go_roundw
                    case rel => exact ⟨k + 1, o, x, by go_num, rfl, HX, by omega, by unfold Hid; rw [htk.out]; exact HBst.out.skip HPN.out, hI⟩
                    case measure => simp [intOf]; omega
                  · rw [if_neg hap] at hav
                    rw [hav] at hca
                    replace hca : wr.cell? ⟨ga, p, none⟩ = some (.int .i64 ((pz n O p : Nat) : Int)) := hca
                    generalize pz n O p = y at *
                    have hy : ((y : Int) == -1) = false := by rw [beq_eq_false_iff_ne]; omega
                    clear hav hap
                    go_wp2
                    go_roundw
                    case rel => exact ⟨k + 1, o, x, by go_num, rfl, HX, by omega, by unfold Hid; rw [htk.out]; exact HBst.out.skip HPN.out, hI⟩
                    case measure => simp [intOf]; omega
                · have HPN := Lib.hid hpn
                  have hpO := HM.out.1.tok.rr G.out.gok hpn
                  have hap : pl n O p ≠ 0 := by
                    obtain ⟨i, hi, he⟩ := List.mem_iff_getElem.1 hpO
                    have := pl_idx G.out.nod G.out.lt hi
                    rw [he] at this
                    omega
                  rw [if_neg hap] at hav
                  rw [hav] at hca
                  replace hca : wr.cell? ⟨ga, p, none⟩ = some (.int .i64 ((pz n O p : Nat) : Int)) := hca
                  generalize hyy : pz n O p = y at *
                  have hy : ((y : Int) == -1) = false := by rw [beq_eq_false_iff_ne]; omega
                  obtain ⟨q, hq⟩ : ∃ q, fnO L' p = some q := by
                    cases h : fnO L' p with
                    | none => exact absurd h hpn
                    | some q => exact ⟨q, rfl⟩
                  rw [hq] at hcn
                  replace hcn : wr.cell? ⟨gn, p, none⟩ = some (.int .i64 (q : Int)) := hcn
                  have hqn : ((q : Int) == -1) = false := by rw [beq_eq_false_iff_ne]; omega
                  clear hav hap hpn hq hyy hpO
                  cases o with
                  | none =>
                    obtain rfl : x = -1 := HX.out
                    go_wp2
                    go_roundw
                    case rel => exact ⟨k + 1, some p, p, by go_num, rfl, rfl, by omega, by unfold Hid; rw [htk.out]; exact HBst.out.first HPN.out, hI⟩
                    case measure => simp [intOf]; omega
                  | some v =>
                    obtain rfl : x = (v : Int) := HX.out
                    have hvn : ((v : Int) == -1) = false := by rw [beq_eq_false_iff_ne]; omega
                    have HL := Lib.hid (show AT.length = n by rw [HAT.out]; exact atO_len)
                    have HR := Lib.hid (fun b (hb : fnO L' b ≠ none) => show b ∈ O ∧ b < n ∧ fnO AT b = some (pz n O b) by
                      have hbO := HM.out.1.tok.rr G.out.gok hb
                      have hbn := G.out.lt b hbO
                      refine ⟨hbO, hbn, ?_⟩
                      rw [HAT.out, atO_at hbn, if_neg]
                      obtain ⟨i, hi, he⟩ := List.mem_iff_getElem.1 hbO
                      have := pl_idx G.out.nod G.out.lt hi
                      rw [he] at this
                      omega)
                    go_wp2_with fail
                    refine (meet_calls (RowO.of_own hI.hn hLn') (RowO.of_own hI.ha HL.out) hLn' HL.out HM.out.1.tok G.out.gok.at0 (fun _ _ => G.out.gok.inj) HR.out v p HBst.out.1 HPN.out).mono ?_
                    rintro e w9 ⟨m, rfl, hm, hmx, hb9⟩
                    clear hc9
                    go_wp2
                    go_roundw
                    case rel => exact ⟨k + 1, some m, m, by go_num, rfl, rfl, by omega, by unfold Hid; rw [htk.out]; exact HBst.out.more HPN.out hm hmx, hI.below hb9⟩
                    case measure => simp [intOf]; omega
              ·
                obtain rfl : k = (P b).length := by omega
                have hBst := HBst.out
                rw [List.take_length] at hBst
                have hfw := G.out.gok.fwd HB.out h0b.out
                cases o with
                | none =>
                  obtain ⟨a, h1, h2, h3⟩ := hfw
                  exact absurd (hBst a h2) (HM.out.1.done h1 (by have := HPZ.out; omega))
                | some v =>
                  obtain rfl : x = (v : Int) := HX.out
                  have hmt := Lib.hid (hBst.meets (P := P) (fun hn => HM.out.1.tok.rr G.out.gok hn))
                  have hvl : Hid (pz n O v < pz n O b) := by
                    obtain ⟨a, h1, h2, h3⟩ := hfw
                    have := HM.out.1.tok.le ((hBst.2.2 v).1 .refl a h2 (HM.out.1.done h1 (by have := HPZ.out; omega)))
                    unfold Hid
                    omega
                  have hv0 := Lib.hid hBst.1
                  have hcn := own_at hI.hn hLn' hbn
                  have hfz := q3 b
                  clear hBst hfw
                  by_cases hsame : fnO L' b = some v
                  · rw [hsame] at hcn
                    replace hcn : wr.cell? ⟨gn, b, none⟩ = some (.int .i64 (v : Int)) := hcn
                    have HS := Lib.hid hsame
                    clear hsame
                    go_wp2
                    go_roundw
                    case rel => exact ⟨j + 1, L', m', by go_num, rfl, by omega, HM.out.keep G.out HB.out HPZ.out h0b.out HS.out hmt.out, hI⟩
                    case measure => simp [intOf]; omega
                  · have hst := Lib.hid (hI.setN (i := b) (o := some v))
                    have hz : (encO (fnO L' b) != (v : Int)) = true := by
                      rw [bne_iff_ne]
                      intro e
                      apply hsame
                      cases hq : fnO L' b with
                      | none => rw [hq] at e; simp [encO] at e
                      | some q => rw [hq] at e; simp [encO] at e; rw [show q = v by omega]
                    have HS := Lib.hid hsame
                    generalize encO (fnO L' b) = z at *
                    clear hsame
                    go_wp2
                    go_roundw
                    case rel => exact ⟨j + 1, L'.set b (some v), true, by go_num, rfl, by omega, HM.out.move G.out HB.out HPZ.out h0b.out HS.out hmt.out hv0.out hvl.out, hst.out⟩
                    case measure => simp [intOf]; omega
          · obtain hje : j + 1 = O.length := by omega
            rw [hje] at HM
            go_wp2
            go_roundg gk'
            case measure => omega
            case rel =>
              obtain ⟨h1, h2, h3, h4, h5⟩ := HM.out
              refine ⟨L', m', rfl, ⟨h1.next (fun b hb => pz_lt G.out hb), h2, h3, fun hf => NearOk.of G.out h1 h2 h3 ?_, ?_⟩, hI⟩
              · exact (h4 hf).2
              · have := HG.out
                cases m' with
                | false => rw [(h4 rfl).1]; simp; omega
                | true => have := h5 rfl; simp; omega
end Go.Proofs.YtcjodjmmojbigaaGreatDoor
