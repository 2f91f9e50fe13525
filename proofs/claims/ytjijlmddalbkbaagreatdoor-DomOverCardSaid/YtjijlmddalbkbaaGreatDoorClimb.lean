/- The walk of dom's climb.meet: where two blocks meet, going up. The plain law of dom's nearest: places in the order, the best so far, and what grows less with each change. No program's code in sight. The walk of slices.Repeat of one number. -/
import Derived.Test.YtjijlmddalbkbaaGreatDoorAbove
import Derived.Test.YtjijlmddalbkbaaGreatDoorOwn
import Derived.BigQuiet
import Derived.Deep.QuietTactic
import Derived.Deep.LoopGhost
import Derived.Test.YtjijlmddalbkbaaGreatDoorPlace
import Derived.Test.YtjijlmddalbkbaaGreatDoorShelf
import Derived.Test.YtjijlmddalbkbaaGreatDoorSched
import Derived.Laws.CopyOwn
import Derived.WalkKit
namespace Go.Proofs.YtjijlmddalbkbaaGreatDoor
open Go.RowKit
set_option maxRecDepth 100000

/-- a number or none, as Go holds it: -1 is none. -/
def encO : Option Nat → Int
  | none => -1
  | some k => k
def fnO (L : List (Option Nat)) (b : Nat) : Option Nat := L.getD b none
/-- numbers or none, in a row of cells. -/
def RowO (w : World) (g : Nat) (L : List (Option Nat)) : Prop := g < w.heap.size ∧ ∀ i, i < L.length → w.cell? ⟨g, i, none⟩ = some (.int .i64 (encO (fnO L i)))
theorem RowO.below {w w' : World} {g : Nat} {L : List (Option Nat)} (h : RowO w g L) (hb : Below w.heap.size w w') : RowO w' g L :=
  ⟨Nat.lt_of_lt_of_le h.1 hb.size, fun i hi => (hb.cell (p := ⟨g, i, none⟩) h.1).trans (h.2 i hi)⟩
theorem RowO.at_ {w : World} {g : Nat} {L : List (Option Nat)} (h : RowO w g L) {i k : Nat} (hi : i < L.length) (hk : fnO L i = some k) : w.cell? ⟨g, i, none⟩ = some (.int .i64 (k : Int)) := by
  rw [h.2 i hi, hk]; rfl

theorem bdrewM {B : Nat} {a w : World} (h : Below B a w) (n : Nat) : Below B a (w.drewN n) := h.trans ⟨rfl, rfl, rfl, Nat.le_refl _, fun _ _ => rfl⟩
theorem box2 {w w' : World} {x y : Value} {t : TypeId} (hb : Below (w.heap.size + 1) (w.alloc (.cells #[x, y] t)) w') :
    w.heap.size < w'.heap.size ∧ w'.cell? ⟨w.heap.size, 0, none⟩ = some x ∧ w'.cell? ⟨w.heap.size, 1, none⟩ = some y := by
  have hg := heap_alloc_new w (.cells #[x, y] t)
  have hs := hb.size
  simp at hs
  exact ⟨hs, (hb.cell (p := ⟨w.heap.size, 0, none⟩) (Nat.lt_succ_self _)).trans (cell_of_row _ _ 0 _ _ _ hg), (hb.cell (p := ⟨w.heap.size, 1, none⟩) (Nat.lt_succ_self _)).trans (cell_of_row _ _ 1 _ _ _ hg)⟩
set_option maxHeartbeats 2000000 in
theorem meet_calls {R : Nat → Prop} {pl : Nat → Nat} {w : World} {n gn ga : Nat} {L AT : List (Option Nat)} (hN : RowO w gn L) (hA : RowO w ga AT) (hLn : L.length = n) (hAn : AT.length = n)
    (t : TOk R pl (fnO L)) (hz : pl 0 = 0) (hin : ∀ a b, R a → R b → pl a = pl b → a = b) (hR : ∀ b, fnO L b ≠ none → R b ∧ b < n ∧ fnO AT b = some (pl b)) (a b : Nat) (ha : fnO L a ≠ none) (hb : fnO L b ≠ none) :
    Calls Tryz.prog 78 #[.agg #[.slice (some ⟨gn, 0, none⟩) n n, .slice (some ⟨ga, 0, none⟩) n n], .int .i64 (a : Int), .int .i64 (b : Int)] w fun e w' =>
      ∃ m : Nat, e = .returned (.int .i64 (m : Int)) ∧ fnO L m ≠ none ∧ (∀ x, Anc (fnO L) x m ↔ Anc (fnO L) x a ∧ Anc (fnO L) x b) ∧ Below w.heap.size w w' := by
  have T := Lib.hid t
  have HIN := Lib.hid hin
  have HR := Lib.hid hR
  have HZ := Lib.hid hz
  have HN := Lib.hid hN
  have HA := Lib.hid hA
  have hgn := hN.1
  have hga := hA.1
  have hb0 := (Below.refl w.heap.size w).alloc (Nat.le_refl _) (.cells #[.slice (some ⟨gn, 0, none⟩) n n, .slice (some ⟨ga, 0, none⟩) n n] 124)
  have HAB := Lib.hid (And.intro ha hb)
  clear t hin hR hz hN hA ha hb
  go_enter Tryz.func78, Tryz.ntmps78
  go_wp2
  go_loopw [1, 2] (fun v1 v2 wr => ∃ a' b' : Nat, v1 = .int .i64 a' ∧ v2 = .int .i64 b' ∧ Hid (fnO L a' ≠ none ∧ fnO L b' ≠ none ∧ ∀ x, (Anc (fnO L) x a' ∧ Anc (fnO L) x b') ↔ (Anc (fnO L) x a ∧ Anc (fnO L) x b)) ∧
    Below (w.heap.size + 1) (w.alloc (.cells #[.slice (some ⟨gn, 0, none⟩) n n, .slice (some ⟨ga, 0, none⟩) n n] 124)) wr) (fun v1 v2 _ => pl (intOf v1).toNat + pl (intOf v2).toNat)
  case atStart => exact ⟨a, b, rfl, rfl, ⟨HAB.out.1, HAB.out.2, fun _ => Iff.rfl⟩, Below.refl _ _⟩
  case round => as_aux_lemma =>
    obtain ⟨a', b', rfl, rfl, HD, hb⟩ := hrel
    by_cases hab : a' = b'
    · subst hab
      go_wp2
      go_ret
      exact ⟨a', rfl, HD.out.1, fun x => ⟨fun h => (HD.out.2.2 x).1 ⟨h, h⟩, fun h => ((HD.out.2.2 x).2 h).1⟩, hb0.trans (hb.mono (Nat.le_succ _))⟩
    · have e0 : ((a' : Int) != (b' : Int)) = true := by rw [bne_iff_ne]; omega
      have HAB' := Lib.hid hab
      clear hab
      go_wp2
      go_loopw [1] (fun v1 wr => ∃ a2 : Nat, v1 = .int .i64 a2 ∧ Hid (fnO L a2 ≠ none ∧ (∀ x, (Anc (fnO L) x a2 ∧ Anc (fnO L) x b') ↔ (Anc (fnO L) x a ∧ Anc (fnO L) x b)) ∧ (a2 = a' ∨ pl a2 < pl a')) ∧
        Below (w.heap.size + 1) (w.alloc (.cells #[.slice (some ⟨gn, 0, none⟩) n n, .slice (some ⟨ga, 0, none⟩) n n] 124)) wr) (fun v1 _ => pl (intOf v1).toNat)
      case atStart => exact ⟨a', rfl, ⟨HD.out.1, HD.out.2.2, .inl rfl⟩, hb⟩
      case round => as_aux_lemma =>
        clear hb
        obtain ⟨a2, rfl, HI, hb⟩ := hrel
        obtain ⟨ra, hal, hat⟩ := HR.out a2 HI.out.1
        obtain ⟨rb, hbl, hbt⟩ := HR.out b' HD.out.2.1
        have hwb : Below w.heap.size w wr := hb0.trans (hb.mono (Nat.le_succ _))
        have hc1 := (HA.out.below hwb).at_ (by omega) hat
        have hc2 := (HA.out.below hwb).at_ (by omega) hbt
        have hga' := Nat.lt_of_lt_of_le hga hwb.size
        have hgn' := Nat.lt_of_lt_of_le hgn hwb.size
        obtain ⟨hq, q0, q1⟩ := box2 hb
        by_cases hlt : pl b' < pl a2
        · have hlt' : (pl b' : Int) < (pl a2 : Int) := by omega
          have h0 : a2 ≠ 0 := fun e => by subst e; have := HZ.out; omega
          cases hp : fnO L a2 with
          | none => exact absurd hp HI.out.1
          | some p =>
            have hc3 := (HN.out.below hwb).at_ (by omega) hp
            have HP := Lib.hid hp
            have HLT := Lib.hid hlt
            clear hp hlt hat hbt
            go_wp2
            go_quiet (fail)
            go_wp2
            go_roundw
            case rel =>
              have hu := T.out.up h0 HP.out
              exact ⟨p, rfl, ⟨hu.2.2.2, fun x => (T.out.climb HLT.out h0 HP.out).trans (HI.out.2.1 x), .inr (by rcases HI.out.2.2 with e | e; (subst e; exact hu.2.2.1); omega)⟩, bdrewM hb _⟩
            case measure =>
              have hu := T.out.up h0 HP.out
              simp [intOf]
              omega
        · have hlt' : ¬ (pl b' : Int) < (pl a2 : Int) := by omega
          have HLT := Lib.hid hlt
          clear hlt hat hbt
          go_wp2
          go_quiet (fail)
          go_wp2
          clear hc2
          go_loopw [2] (fun v2 wr => ∃ b2 : Nat, v2 = .int .i64 b2 ∧ Hid (fnO L b2 ≠ none ∧ (∀ x, (Anc (fnO L) x a2 ∧ Anc (fnO L) x b2) ↔ (Anc (fnO L) x a ∧ Anc (fnO L) x b)) ∧ (b2 = b' ∨ pl b2 < pl b')) ∧
            Below (w.heap.size + 1) (w.alloc (.cells #[.slice (some ⟨gn, 0, none⟩) n n, .slice (some ⟨ga, 0, none⟩) n n] 124)) wr) (fun v2 _ => pl (intOf v2).toNat)
          case atStart => exact ⟨b', rfl, ⟨HD.out.2.1, HI.out.2.1, .inl rfl⟩, bdrewM hb _⟩
          case round => as_aux_lemma =>
            clear hb hwb hga' hgn' hq q0 q1 hc1 hbl rb hlt'
            obtain ⟨b2, rfl, HJ, hb⟩ := hrel
            obtain ⟨ra, hal, hat⟩ := HR.out a2 HI.out.1
            obtain ⟨rb, hbl, hbt⟩ := HR.out b2 HJ.out.1
            have hwb : Below w.heap.size w wr := hb0.trans (hb.mono (Nat.le_succ _))
            have hc1 := (HA.out.below hwb).at_ (by omega) hat
            have hc2 := (HA.out.below hwb).at_ (by omega) hbt
            have hga' := Nat.lt_of_lt_of_le hga hwb.size
            have hgn' := Nat.lt_of_lt_of_le hgn hwb.size
            obtain ⟨hq, q0, q1⟩ := box2 hb
            by_cases hlt : pl a2 < pl b2
            · have hlt' : (pl a2 : Int) < (pl b2 : Int) := by omega
              have h0 : b2 ≠ 0 := fun e => by subst e; have := HZ.out; omega
              cases hp : fnO L b2 with
              | none => exact absurd hp HJ.out.1
              | some p =>
                have hc3 := (HN.out.below hwb).at_ (by omega) hp
                have HP := Lib.hid hp
                have HLT2 := Lib.hid hlt
                clear hp hlt hat hbt
                go_wp2
                go_quiet (fail)
                go_wp2
                go_roundw
                case rel =>
                  have hu := T.out.up h0 HP.out
                  exact ⟨p, rfl, ⟨hu.2.2.2, fun x => (And.comm.trans ((T.out.climb HLT2.out h0 HP.out).trans And.comm)).trans (HJ.out.2.1 x), .inr (by rcases HJ.out.2.2 with e | e; (subst e; exact hu.2.2.1); omega)⟩, bdrewM hb _⟩
                case measure =>
                  have hu := T.out.up h0 HP.out
                  simp [intOf]
                  omega
            · have hlt' : ¬ (pl a2 : Int) < (pl b2 : Int) := by omega
              have HLT2 := Lib.hid hlt
              clear hlt hat hbt
              go_wp2
              go_quiet (fail)
              go_wp2
              go_roundw
              case rel => exact ⟨a2, b2, rfl, rfl, ⟨HI.out.1, HJ.out.1, HJ.out.2.1⟩, bdrewM hb _⟩
              case measure =>
                simp [intOf]
                have h1 := HLT.out
                have h2 := HLT2.out
                rcases HI.out.2.2 with e | e
                · subst e
                  rcases HJ.out.2.2 with e2 | e2
                  · subst e2
                    exact absurd (HIN.out _ _ ra rb (by omega)) HAB'.out
                  · omega
                · rcases HJ.out.2.2 with e2 | e2
                  · subst e2; omega
                  · omega
end Go.Proofs.YtjijlmddalbkbaaGreatDoor
namespace Go.Proofs.YtjijlmddalbkbaaGreatDoor
open Go.RowKit

/-- place in the order, from 0 on. -/
def pz (n : Nat) (O : List Nat) (b : Nat) : Nat := pl n O b - 1
/-- a graph by an order and the rows of what leads to each block. -/
structure GrOk (n : Nat) (O : List Nat) (P : Nat → List Nat) : Prop where
  hd : ∃ r, O = 0 :: r
  nod : O.Nodup
  lt : ∀ b ∈ O, b < n
  plt : ∀ b, ∀ a ∈ P b, a < n
  clo : ∀ {a b}, a ∈ O → a ∈ P b → b ∈ O
  fwd : ∀ {b}, b ∈ O → b ≠ 0 → ∃ a, a ∈ O ∧ a ∈ P b ∧ pl n O a < pl n O b
section
variable {n j k b c v : Nat} {O : List Nat} {P : Nat → List Nat} {L : List (Option Nat)}
theorem pl_idx (hn : O.Nodup) (hl : ∀ b ∈ O, b < n) {i : Nat} (hi : i < O.length) : pl n O O[i] = i + 1 := atRow_at hn hl _ (Nat.le_refl _) i hi hi
theorem pl_out (hb : b ∉ O) : pl n O b = 0 := by
  unfold pl
  exact atRow_zero _ (Nat.le_refl _) (by rw [List.take_length]; exact hb)
theorem pz_idx (g : GrOk n O P) {i : Nat} (hi : i < O.length) : pz n O (O.getD i 0) = i := by
  rw [getD_get hi, pz, pl_idx g.nod g.lt hi]
  rfl
theorem GrOk.mem (g : GrOk n O P) (hb : b ∈ O) : ∃ i, i < O.length ∧ O.getD i 0 = b ∧ pz n O b = i := by
  obtain ⟨i, hi, rfl⟩ := List.mem_iff_getElem.1 hb
  exact ⟨i, hi, getD_get hi 0, by have := pz_idx g hi; rwa [getD_get hi] at this⟩
theorem GrOk.gok (g : GrOk n O P) : GOk (· ∈ O) (pz n O) (fun a b => a ∈ P b) := by
  obtain ⟨r, hr⟩ := g.hd
  refine ⟨by rw [hr]; simp, ?_, fun {a b} ha hb he => ?_, fun ha hp => g.clo ha hp, fun {b} hb h0 => ?_⟩
  · have := pz_idx g (i := 0) (by rw [hr]; simp)
    rw [show O.getD 0 0 = 0 by rw [hr]; rfl] at this
    exact this
  · obtain ⟨i, hi, rfl, h1⟩ := g.mem ha
    obtain ⟨k, hk, rfl, h2⟩ := g.mem hb
    rw [h1, h2] at he
    subst he
    rfl
  · obtain ⟨a, h1, h2, h3⟩ := g.fwd hb h0
    refine ⟨a, h1, h2, ?_⟩
    obtain ⟨i, hi, rfl⟩ := List.mem_iff_getElem.1 h1
    have := pl_idx g.nod g.lt hi
    unfold pz
    omega
/-- the places, or none. -/
def atO (n : Nat) (O : List Nat) (k : Nat) : List (Option Nat) := (atRow n O k).map fun x => if x = 0 then none else some (x - 1)
theorem atO_len : (atO n O k).length = n := by simp [atO, atRow_len]
theorem atO_zero : atO n O 0 = List.replicate n none := by simp [atO, atRow]
theorem atO_step : atO n O (k + 1) = (atO n O k).set (O.getD k 0) (some k) := by simp [atO, atRow, List.map_set]
theorem atO_at (hb : b < n) : fnO (atO n O O.length) b = if pl n O b = 0 then none else some (pz n O b) := by
  have hl : b < (atRow n O O.length).length := by rw [atRow_len]; exact hb
  unfold fnO atO pz pl
  simp [List.getD, hl]
/-- among those that lead, the best so far. -/
def Best (N : Nat → Option Nat) (l : List Nat) : Option Nat → Prop
  | none => ∀ a ∈ l, N a = none
  | some v => N v ≠ none ∧ (∃ a ∈ l, N a ≠ none) ∧ ∀ x, Anc N x v ↔ ∀ a ∈ l, N a ≠ none → Anc N x a
section
variable {N : Nat → Option Nat} {l : List Nat} {o : Option Nat} {a m : Nat}
theorem Best.skip (h : Best N l o) (ha : N a = none) : Best N (l ++ [a]) o := by
  cases o with
  | none => intro b hb; rcases List.mem_append.1 hb with hb | hb; exact h b hb; simp at hb; rw [hb]; exact ha
  | some v =>
    obtain ⟨h1, ⟨c, h2, h3⟩, h4⟩ := h
    refine ⟨h1, ⟨c, by simp [h2], h3⟩, fun x => (h4 x).trans ⟨fun h b hb hn => ?_, fun h b hb hn => h b (by simp [hb]) hn⟩⟩
    rcases List.mem_append.1 hb with hb | hb
    · exact h b hb hn
    · simp at hb; subst hb; exact absurd ha hn
theorem Best.first (h : Best N l none) (ha : N a ≠ none) : Best N (l ++ [a]) (some a) := by
  refine ⟨ha, ⟨a, by simp, ha⟩, fun x => ⟨fun hx b hb hn => ?_, fun hx => hx a (by simp) ha⟩⟩
  rcases List.mem_append.1 hb with hb | hb
  · exact absurd (h b hb) hn
  · simp at hb; subst hb; exact hx
theorem Best.more (h : Best N l (some v)) (ha : N a ≠ none) (hm : N m ≠ none) (hx : ∀ x, Anc N x m ↔ Anc N x v ∧ Anc N x a) : Best N (l ++ [a]) (some m) := by
  obtain ⟨_, ⟨c, h2, h3⟩, h4⟩ := h
  refine ⟨hm, ⟨c, by simp [h2], h3⟩, fun x => (hx x).trans ⟨fun h b hb hn => ?_, fun h => ⟨(h4 x).2 fun b hb hn => h b (by simp [hb]) hn, h a (by simp) ha⟩⟩⟩
  rcases List.mem_append.1 hb with hb | hb
  · exact (h4 x).1 h.1 b hb hn
  · simp at hb; subst hb; exact h.2
theorem Best.meets (h : Best N (P b) (some v)) (hR : ∀ {b}, N b ≠ none → b ∈ O) : Meets (· ∈ O) (fun a b => a ∈ P b) N b v :=
  fun x => (h.2.2 x).trans ⟨fun h a _ hp hn => h a hp hn, fun h a hp hn => h a (hR hn) hp hn⟩
end
/-- what grows less with each change. -/
def wgt (n : Nat) (O : List Nat) : Option Nat → Nat
  | none => O.length
  | some p => pz n O p
def phi (n : Nat) (O : List Nat) (L : List (Option Nat)) : Nat := (L.map (wgt n O)).sum
theorem phi_set : ∀ {L : List (Option Nat)} {b : Nat}, b < L.length → phi n O (L.set b (some v)) + wgt n O (L.getD b none) = phi n O L + pz n O v
  | [], b, h => by simp at h
  | o :: L, 0, _ => by simp [phi, wgt]; omega
  | o :: L, b + 1, h => by
    have := phi_set (L := L) (b := b) (by simpa using h)
    simp [phi] at this ⊢
    omega
theorem fnO_set (hb : b < L.length) : fnO (L.set b (some v)) b = some v := by simp [fnO, List.getD, hb]
theorem fnO_ne {o : Option Nat} (h : c ≠ b) : fnO (L.set b o) c = fnO L c := by
  unfold fnO
  rw [List.getD, List.getElem?_set_ne (fun e => h e.symm), ← List.getD_eq_getElem?_getD]
/-- numbers or none, as values. -/
def valsO (L : List (Option Nat)) : List Value := L.map fun o => .int .i64 (encO o)
theorem valsO_set {o : Option Nat} : (valsO L).set b (.int .i64 (encO o)) = valsO (L.set b o) := by simp [valsO, List.map_set]
theorem RowO.of_own {w : World} {B e g : Nat} (h : w.ownsRow B e 1 (.slice (some ⟨g, 0, none⟩) n n) n (valsO L)) (hl : L.length = n) : RowO w g L := by
  refine ⟨(h.lt g rfl).2, fun i hi => ?_⟩
  rw [h.cellAt i (by omega)]
  simp [valsO, fnO, List.getD, hi]
/-- in a round, ahead of the block at place j; m: has anything changed? -/
def NMid (n : Nat) (O : List Nat) (P : Nat → List Nat) (L : List (Option Nat)) (j : Nat) (L' : List (Option Nat)) (m : Bool) : Prop :=
  QInv (· ∈ O) (pz n O) (fun a b => a ∈ P b) (fnO L') j ∧ L'.length = n ∧ fnO L' 0 = some 0 ∧
  (m = false → L' = L ∧ ∀ b v, b ∈ O → b ≠ 0 → pz n O b < j → fnO L' b = some v → Meets (· ∈ O) (fun a b => a ∈ P b) (fnO L') b v) ∧ (m = true → phi n O L' < phi n O L)
theorem NMid.keep {L' : List (Option Nat)} {m : Bool} (g : GrOk n O P) (h : NMid n O P L j L' m) (hb : b ∈ O) (hj : pz n O b = j) (h0 : b ≠ 0) (hN : fnO L' b = some v) (hm : Meets (· ∈ O) (fun a b => a ∈ P b) (fnO L') b v) : NMid n O P L (j + 1) L' m := by
  obtain ⟨q, h1, h2, h3, h4⟩ := h
  refine ⟨q.keep g.gok hb hj h0 hN hm, h1, h2, fun hf => ⟨(h3 hf).1, fun c u hc hc0 hl hu => ?_⟩, h4⟩
  by_cases e : pz n O c < j
  · exact (h3 hf).2 c u hc hc0 e hu
  · obtain rfl : c = b := g.gok.inj hc hb (by omega)
    rw [hN] at hu
    obtain rfl := Option.some.inj hu
    exact hm
theorem NMid.move {L' : List (Option Nat)} {m : Bool} (g : GrOk n O P) (h : NMid n O P L j L' m) (hb : b ∈ O) (hj : pz n O b = j) (h0 : b ≠ 0) (hN : fnO L' b ≠ some v) (hm : Meets (· ∈ O) (fun a b => a ∈ P b) (fnO L') b v) (hv : fnO L' v ≠ none)
    (hvl : pz n O v < pz n O b) : NMid n O P L (j + 1) (L'.set b (some v)) true := by
  obtain ⟨q, h1, h2, h3, h4⟩ := h
  have hbl : b < L'.length := by rw [h1]; exact g.lt b hb
  have M : Move (· ∈ O) (pz n O) (fun a b => a ∈ P b) (fnO L') (fnO (L'.set b (some v))) j b v := ⟨q, hb, hj, h0, hm, hv, hvl, fnO_set hbl, fun c hc => fnO_ne hc⟩
  refine ⟨M.move g.gok, by rw [List.length_set, h1], by rw [fnO_ne (fun e => h0 e.symm)]; exact h2, (fun e => by cases e), fun _ => ?_⟩
  have h5 := phi_set (n := n) (O := O) (v := v) hbl
  have h6 : pz n O v < wgt n O (L'.getD b none) := by
    have h7 : L'.getD b none = fnO L' b := rfl
    rw [h7]
    cases hu : fnO L' b with
    | none =>
      obtain ⟨i, hi, h8, h9⟩ := g.mem (q.tok.rr g.gok hv)
      simp only [wgt]
      omega
    | some u =>
      have ha := M.higher hu
      rcases (q.tok.anc ha).1 with e | e
      · subst e; exact absurd hu hN
      · exact e
  cases m with
  | false =>
    obtain ⟨rfl, _⟩ := h3 rfl
    omega
  | true => have := h4 rfl; omega
end
end Go.Proofs.YtjijlmddalbkbaaGreatDoor
namespace Go.Proofs.YtjijlmddalbkbaaGreatDoor
open Go.RowKit
set_option maxRecDepth 100000

theorem row_own {w : World} {B e g n cap : Nat} {xs : List Value} (hB : B ≤ g) (h : w.heap[g]? = some (.cells xs.toArray e (0, 0))) (hl : xs.length = n) (hc : cap = n) (hm : n ≤ 1048576) : w.ownsRow B e 1 (.slice (some ⟨g, 0, none⟩) n cap) n xs := by
  subst hl hc
  exact ⟨by simp, .inr ⟨g, xs.length, xs.toArray, rfl, hB, h, Nat.le_refl _, by unfold maxLen; omega, by simp, by simp⟩⟩
theorem own_row {w : World} {B e g n : Nat} {xs : List Value} (h : w.ownsRow B e 1 (.slice (some ⟨g, 0, none⟩) n n) n xs) : B ≤ g ∧ w.heap[g]? = some (.cells xs.toArray e (0, 0)) := by
  obtain ⟨h1, h2⟩ := h
  rcases h2 with ⟨h2, _⟩ | ⟨g', cap, cur, hv, hg, hh, hn, hcap, hsz, htake⟩
  · cases h2
  · cases hv
    refine ⟨hg, ?_⟩
    rw [hh]
    congr 2
    rw [List.take_of_length_le (by simp [hsz])] at htake
    rw [← htake]
/-- the first k are filled. -/
def filled (x : Int) (n k : Nat) : List Value := List.replicate k (.int .i64 x) ++ List.replicate (n - k) (.int .i64 0)
theorem filled_len {x : Int} {n k : Nat} (h : k ≤ n) : (filled x n k).length = n := by simp [filled]; omega
theorem copy_fill {w : World} {g off n k m dl dc sl sc : Nat} {x : Int} {ad : Addr} (hg : w.heap[g]? = some (.cells (filled x n k).toArray 3 (0, 0))) (hk : k ≤ n) (hm : m = min sl dl) (hkm : k + m ≤ n) (ho : off = k) (hsrc : ∀ j, j < m → w.cell? (ad.add j) = some (.int .i64 x)) :
    ∃ w2, w2.heap[g]? = some (.cells (filled x n (k + m)).toArray 3 (0, 0)) ∧ (∀ B w0, Below B w0 w → B ≤ g → Below B w0 w2) ∧
      (Builtin.copy_ #[23, 23] 3 #[.slice (some ⟨g, off, none⟩) dl dc, .slice (some ad) sl sc]).run Tryz.prog w = .ok (.int .i64 (m : Int)) w2 := by
  subst ho
  have hrun := run_copy_row (P := Tryz.prog) w 23 23 3 3 g off dl dc ad sl sc (filled x n off).toArray 3 (List.replicate m (.int .i64 x)) Tryz.underlying23 (by kernel_rfl) hg (by rw [List.length_replicate, hm])
    (fun j v hv => by rw [List.getElem?_replicate] at hv; split at hv <;> simp at hv; subst hv; exact hsrc j ‹_›) (by simp [filled_len hk]; omega) (fun v hv => by simp at hv; rw [hv.2]; rfl)
  refine ⟨_, ?_, fun B w0 hb hB => below_setRow hb hB _, by rw [hrun, List.length_replicate]; rfl⟩
  rw [setRow_heap w g _ _ 3 _ hg]
  have e1 : (filled x n off).take off = List.replicate off (.int .i64 x) := by simp [filled]
  have e2 : (filled x n off).drop (off + m) = List.replicate (n - (off + m)) (.int .i64 0) := by
    simp [filled, List.drop_append, Nat.sub_sub]
  rw [show (filled x n off).toArray.toList = filled x n off from rfl, e1, e2]
  congr 3
  rw [filled, ← List.replicate_append_replicate]
set_option maxHeartbeats 2000000 in
theorem repeat_calls {w : World} {b n : Nat} {x : Int} (hb : b < w.heap.size) (hx : w.cell? ⟨b, 0, none⟩ = some (.int .i64 x)) (n1 : 1 ≤ n) (n2 : n ≤ 64) :
    Calls Tryz.prog 56 #[.slice (some ⟨b, 0, none⟩) 1 1, .int .i64 (n : Int)] w fun e w' => ∃ g, e = .returned (.slice (some ⟨g, 0, none⟩) n n) ∧
      w'.ownsRow w.heap.size 3 1 (.slice (some ⟨g, 0, none⟩) n n) n (List.replicate n (.int .i64 x)) ∧ Below w.heap.size w w' := by
  obtain ⟨ib, hib, hz0, hz1, hz2⟩ := info_parts (show (Tryz.prog.info? 3).map (fun i => (i.zero, i.size, i.bytes)) = some (some (.int .i64 0), 1, 8) by kernel_rfl)
  have hmul : ∀ w0 : World, Calls Tryz.prog 79 #[.int .u64 1, .int .u64 (n : Int)] w0 fun e w' => e = .returned (.tuple #[.int .u64 0, .int .u64 (n : Int)]) ∧ w' = w0 := fun w0 =>
    (Tryz.bits_Mul 1 n (by omega) (by omega) w0).mono fun e w' h => ⟨by rw [h.1, Nat.one_mul, Nat.div_eq_of_lt (by omega), Nat.mod_eq_of_lt (by omega)]; rfl, h.2⟩
  go_enter Tryz.func56, Tryz.ntmps56
  go_wp2_with (first
    | (go_at_call 79; refine (hmul _).mono ?_; rintro e w0 ⟨rfl, hw0⟩; subst w0)
    | (at_make; refine wpList_make_full _ rfl _ _ 23 rfl w.heap.size 3 ib _ 1 Tryz.underlying23 hib hz0 hz1 _ _ _ _ _ rfl rfl rfl rfl (by rw [hz2]; omega) (by unfold maxLen; omega) (by omega) ?_; intro w1 hs1 hg1
       have hb1 : Below w.heap.size w w1 := (Below.refl _ _).grown hg1 (Nat.le_refl _) (fun k hk => by cases hk)
       have hh1 := (own_row hs1).2
       rw [show (madeCells (Value.int IntKind.i64 0).cells (n * 1)).toList = filled x n 0 by simp [Value.cells, toList_madeCells_one, filled]] at hh1
       obtain ⟨w2, hh2, hb2, hrun⟩ := copy_fill (dl := n) (dc := n) (sl := 1) (sc := 1) (off := 0) (m := 1) (ad := ⟨b, 0, none⟩) hh1 (by omega) (by omega) (by omega) rfl (fun j hj => by
         obtain rfl : j = 0 := by omega
         exact (hb1.cell (p := ⟨b, 0, none⟩) hb).trans hx)
       replace hb2 := hb2 _ _ hb1 (Nat.le_refl _)
       clear hs1 hg1 hh1 hb1))
  go_loopw [8] (fun v8 wr => ∃ k : Nat, v8 = .int .i64 k ∧ 1 ≤ k ∧ k ≤ n ∧ wr.heap[w.heap.size]? = some (.cells (filled x n k).toArray 3 (0, 0)) ∧ Below w.heap.size w wr) (fun v8 _ => n - (intOf v8).toNat)
  case atStart => exact ⟨1, rfl, by omega, by omega, hh2, hb2⟩
  case round => as_aux_lemma =>
    clear hh2 hb2 hrun
    obtain ⟨k, rfl, hk1, hk2, hh, hb⟩ := hrel
    by_cases hlt : k < n
    · obtain ⟨w3, hh3, hb3, hrun3⟩ := copy_fill (w := wr.drew) (dl := n - k) (dc := n - k) (sl := k) (sc := n) (off := k) (m := min k (n - k)) (ad := ⟨w.heap.size, 0, none⟩) hh (by omega) rfl (by omega) rfl (fun j hj => by
        have := cell_of_row wr.drew _ j _ _ _ hh
        rw [Addr.add_lit, Nat.zero_add, this]
        simp [filled, List.getElem?_append, show j < k by omega])
      go_wp2_with fail
      obtain ⟨S0, hS0⟩ : ∃ S0 : World → Prop, S0 = fun w' => 0 < w'.heap.size + 1 := ⟨_, rfl⟩
      have HS0 := Lib.hid hS0
      clear hS0
      have k0 : ∀ xw : WS S0, 0 < xw.w.heap.size + 1 := fun xw => by have hp := cast (congrFun HS0.out xw.w) xw.h; exact hp
      refine wp_region_sched (S := S0) [0, 1, 2, 3, 4, 5, 6, 7, 8, 9] (by kernel_rfl) (by kernel_rfl) (fun _ _ _ _ _ h => h) ?hS (fun hSc => ?_)
      case hS =>
        rw [HS0.out]
        skip
        · first | omega | (rw [heap_drew]; omega) | (simp; done) | (simp; omega)
      have hne0 : Nonempty (WS S0) := ⟨⟨_, hSc⟩⟩
      simp only [List.map_cons, List.map_nil, List.getD_cons_succ, List.getD_cons_zero]
      refine wpSch_looks (L1 := [_, _, _, _, _, _, _]) (L2 := _) rfl ?_
      iterate 7 (go_big_quiet_step (fail))
      refine wpQuiet_nil ?_
      (try dsimp only)
      refine wpSch_act rfl rfl (fun K hK => ?_)
      go_simp
      go_wp2_with (fail)
      refine hK.out _ _ ?hS (fun hSc => ?_)
      case hS =>
        first
        | exact hSc
        | (rw [HS0.out] at hSc ⊢; obtain p0 := hSc; exact (by first | exact Nat.lt_of_lt_of_le p0 hb9.size | omega | (simp; done) | (simp; omega)))
      clear hK K
      refine wpSch_looks (L1 := [_, _]) (L2 := _) rfl ?_
      iterate 2 (go_big_quiet_step (fail))
      refine wpQuiet_nil ?_
      (try dsimp only)
      refine wpSch_nil ?_
      rw [HS0.out] at hSc
      obtain p0 := hSc
      clear hne0 HS0 k0
      go_wp2
      go_roundw
      case rel => exact ⟨k + min k (n - k), by go_num, by omega, by omega, hh3, hb3 _ _ (bdrewM hb 1) (Nat.le_refl _)⟩
      case measure => simp [intOf]; omega
    · obtain rfl : k = n := by omega
      go_wp2
      go_ret
      exact ⟨_, rfl, row_own (Nat.le_refl _) (by simpa [filled] using hh) (by simp) rfl (by omega), hb⟩
end Go.Proofs.YtjijlmddalbkbaaGreatDoor
