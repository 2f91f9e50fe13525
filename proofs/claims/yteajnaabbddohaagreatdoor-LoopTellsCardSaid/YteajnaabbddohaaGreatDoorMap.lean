/- A map from texts to numbers that the call makes: a function of texts. And print.unlike. -/
import Derived.Test.YteajnaabbddohaaGreatDoorLists
import Derived.Maps.OwnOps
import Derived.Maps.OwnSet
import Derived.Maps.Views
namespace Go.Proofs.YteajnaabbddohaaGreatDoor
open Go.RowKit Go.WideMaps Go.Maps
set_option maxRecDepth 100000

theorem lawS : Keyed Tryz.prog 9 := string_keyed Tryz.underlying9
theorem zeroI (w : World) : (zeroValue 3).run Tryz.prog w = .ok (.int .i64 0) w := by kernel_rfl
def keyL (s : ByteArray) : Lit := .string s.data.toList
theorem keyS {s : ByteArray} (h : s.size ≤ maxLen) : keyOf Tryz.prog 9 (.string s) = some (keyL s) := keyOf_string_mk Tryz.underlying9 h
theorem keyL_inj {s t : ByteArray} (h : keyL s = keyL t) : s = t := by
  unfold keyL at h
  injection h with h
  obtain ⟨a⟩ := s
  obtain ⟨b⟩ := t
  simp only [ByteArray.mk.injEq]
  exact Array.toList_inj.1 h

/-- block b is a map of at most n entries; at the key s it has f s. -/
def OwnM (w : World) (b n : Nat) (f : ByteArray → Int) : Prop :=
  ∃ D : DataW Unit, w.ownsMap Tryz.prog 9 (plainElem Tryz.prog 3) b n D ∧ ∀ s : ByteArray, D.atKey (keyL s) (.lit (.int .i64 0)) = .lit (.int .i64 (f s))
theorem OwnM.made (w : World) : OwnM (w.alloc (.map #[] 0)) w.heap.size 0 (fun _ => 0) := ⟨.map [], World.ownsMap_made _ _ _ _, fun _ => rfl⟩
theorem OwnM.lt {w : World} {b n : Nat} {f : ByteArray → Int} (h : OwnM w b n f) : b < w.heap.size := by
  obtain ⟨D, h, _⟩ := h
  exact h.lt
theorem OwnM.below {w w' : World} {b n : Nat} {f : ByteArray → Int} (h : OwnM w b n f) (hb : Below w.heap.size w w') : OwnM w' b n f := by
  obtain ⟨D, h1, h2⟩ := h
  exact ⟨D, h1.kept (row := none) ⟨hb.os, hb.tape, hb.output, hb.size, fun k hk _ => hb.block k hk⟩ (by simp), h2⟩
theorem OwnM.look {w : World} {b n : Nat} {f : ByteArray → Int} (h : OwnM w b n f) {s : ByteArray} (hs : s.size ≤ maxLen) :
    (Instr.lookup 218 (.map (some b)) (.string s) false).run Tryz.prog w = .ok (.int .i64 (f s)) w := by
  obtain ⟨D, h1, h2⟩ := h
  obtain ⟨c, hrun, hat, _⟩ := h1.lookup_int lawS Tryz.underlying218 Tryz.underlying3 (zeroI _) (keyS hs)
  rw [h2 s] at hat
  have hc : f s = c := by injection hat with hat; injection hat
  rw [hc]
  exact hrun
theorem wpList_mput (w : World) {ops : Array Oper} {rest : List Oper} {o : Oper} {a : Act} {Q : Exit → Act → World → Prop}
    (hg : o.guard = none) (m x v : Operand) (hop : o.op = Op.mapUpdate 218 m x v) {b n : Nat} {f : ByteArray → Int} (hm : a.eval m = .map (some b)) (hown : OwnM w b n f) (hn : n < maxLen)
    (s : ByteArray) (hs : s.size ≤ maxLen) (hx : a.eval x = .string s) (c : Int) (hv : a.eval v = .int .i64 c) (hc : (Lit.int .i64 c).wf = true)
    (hK : ∀ w', OwnM w' b (n + 1) (fun t => if t = s then c else f t) → w.grownBy w' (some b) → wpList Tryz.prog ops Q rest (a.put o.dst undef) w') : wpList Tryz.prog ops Q (o :: rest) a w := by
  obtain ⟨D, h1, h2⟩ := hown
  refine wpList_mapUpdate_own w hg m x v 218 hop 9 3 lawS Tryz.underlying218 _ b n D hm h1 hn _ _ _ hx hv (keyS hs) _ [] (plainElem_int Tryz.underlying3 hc) ?_
  intro w' h3 hg'
  refine hK w' ⟨_, h3, fun t => ?_⟩ hg'
  by_cases ht : t = s
  · subst ht
    show _ = DataW.lit (.int .i64 (if t = t then c else f t))
    rw [if_pos rfl]
    exact atKey_put_same h1.isMap (lawS.key (keyS hs)) _ _
  · show _ = DataW.lit (.int .i64 (if t = s then c else f t))
    rw [if_neg ht, atKey_put_other (fun e => ht (keyL_inj e)), h2 t]

def StrC (w : World) (b o : Nat) (s : ByteArray) : Prop := s.size ≤ maxLen ∧ w.cell? ⟨b, o, none⟩ = some (.string s)
def sth (xs : List ByteArray) (i : Nat) : ByteArray := xs.getD i ByteArray.empty
theorem sth_get {xs : List ByteArray} {i : Nat} (h : i < xs.length) : xs[i]? = some (sth xs i) := by simp [sth, h]
theorem drop_sth {xs : List ByteArray} {i : Nat} (h : i < xs.length) : xs.drop i = sth xs i :: xs.drop (i + 1) := by
  rw [List.drop_eq_getElem_cons h]
  have := sth_get h
  rw [List.getElem?_eq_getElem h] at this
  injection this with this
  rw [this]
theorem take_sth {xs : List ByteArray} {i : Nat} (h : i < xs.length) : xs.take (i + 1) = xs.take i ++ [sth xs i] := by
  have := sth_get h
  rw [List.take_add_one, this]
  rfl
theorem Rd.str {W w : World} {A : Option Addr} {xs : List ByteArray} (h : Rd W.heap.size A xs 1 (StrC W)) (hw : Below W.heap.size W w) {i : Nat} (hi : i < xs.length) :
    ∃ b off, A = some ⟨b, off, none⟩ ∧ b < w.heap.size ∧ (sth xs i).size ≤ maxLen ∧ w.cell? ⟨b, off + i, none⟩ = some (.string (sth xs i)) := by
  obtain ⟨b, off, ha, hb, hr⟩ := h i _ (sth_get hi)
  refine ⟨b, off, ha, by have := hw.size; omega, hr.1, ?_⟩
  rw [hw.cell (p := ⟨b, off + i, none⟩) hb]
  simpa using hr.2

def memB (seen : List ByteArray) (s : ByteArray) : Bool := seen.any fun x => decide (x = s)
def unlikeB : List ByteArray → List ByteArray → Bool
  | _, [] => true
  | seen, s :: r => nameB s && !(memB seen s) && unlikeB (seen ++ [s]) r
def cnt (seen : List ByteArray) (t : ByteArray) : Int := if memB seen t then 1 else 0
theorem cnt_snoc {seen : List ByteArray} {s : ByteArray} (h : memB seen s = false) : (fun t => if t = s then cnt seen s + 1 else cnt seen t) = cnt (seen ++ [s]) := by
  funext t
  unfold cnt
  by_cases ht : t = s
  · subst ht; rw [if_pos rfl, h]; simp [memB]
  · rw [if_neg ht, show memB (seen ++ [s]) t = memB seen t by unfold memB; rw [List.any_append]; simp [show ¬ s = t from fun e => ht e.symm]]

set_option maxHeartbeats 1000000 in
theorem unlike_calls {W w : World} {A : Option Addr} {c0 : Nat} {xs : List ByteArray} (hU : Uni W) (hr : Rd W.heap.size A xs 1 (StrC W)) (hl : xs.length ≤ 1048576) (hW : Below W.heap.size W w) :
    Calls Tryz.prog 162 #[.slice A xs.length c0] w fun e w' => e = .returned (.bool (unlikeB [] xs)) ∧ Below w.heap.size w w' := by
  have hmm := @run_makeMap Tryz.prog
  go_enter Tryz.func162, Tryz.ntmps162
  go_wp2
  go_loopw [9] (fun i wr => ∃ n : Nat, i = .int .i64 n ∧ n ≤ xs.length ∧ Below w.heap.size w wr ∧ OwnM wr w.heap.size n (cnt (xs.take n)) ∧ Hid (unlikeB [] xs = unlikeB (xs.take n) (xs.drop n))) (fun i _ => xs.length - (intOf i).toNat)
  case atStart => exact ⟨0, rfl, Nat.zero_le _, by (focus repeat (first | assumption | exact Below.refl _ _ | refine Below.drew ?_ | refine Below.alloc ?_ (by first | omega | exact Below.size (by assumption) | (simp; done) | (simp; omega)) _ | refine Below.setCell ?_ (by first | omega | exact Below.size (by assumption) | (simp; done) | (simp; omega)) _ | refine below_setRow ?_ (by first | omega | exact Below.size (by assumption) | (simp; done) | (simp; omega)) _ | (refine Below.trans ?_ (Below.mono (by assumption) ?_); rotate_left; exact (by first | omega | exact Below.size (by assumption) | (simp; done) | (simp; omega))))), by rw [show cnt (xs.take 0) = fun _ => 0 from by funext t; rfl]; exact OwnM.made w, by simp [Hid]⟩
  case round =>
    obtain ⟨n, rfl, hn, hb, hm, hf⟩ := hrel
    by_cases hlt : n < xs.length
    · have hWr := hW.trans (hb.mono hW.size)
      obtain ⟨b, off, rfl, hbs, hsz, hc⟩ := hr.str hWr hlt
      have hnm := name_calls hU hWr (sth xs n) hsz
      have hd := Lib.hid (drop_sth hlt)
      have htk := Lib.hid (take_sth hlt)
      have hml := hm.lt
      cases hx : nameB (sth xs n)
      · have hf2 := Lib.hid (show unlikeB [] xs = false by rw [hf.out, hd.out, unlikeB, hx]; rfl)
        rw [hx] at hnm
        clear hx
        go_wp2_with (go_at_call 175; refine hnm.mono ?_; (rintro e w1 ⟨rfl, hb1⟩; obtain ⟨hc1, hf1⟩ := bcell hb1; have hz1 := hb1.size; try simp at hz1; try have hy1 := Nat.lt_of_succ_le hz1; try have hx1 := Nat.lt_of_succ_lt hy1; try have hw1 := Nat.lt_of_succ_lt hx1))
        go_ret
        exact ⟨ret_bool hf2.out.symm, by (focus repeat (first | assumption | exact Below.refl _ _ | refine Below.drew ?_ | refine Below.alloc ?_ (by first | omega | exact Below.size (by assumption) | (simp; done) | (simp; omega)) _ | refine Below.setCell ?_ (by first | omega | exact Below.size (by assumption) | (simp; done) | (simp; omega)) _ | refine below_setRow ?_ (by first | omega | exact Below.size (by assumption) | (simp; done) | (simp; omega)) _ | (refine Below.trans ?_ (Below.mono (by assumption) ?_); rotate_left; exact (by first | omega | exact Below.size (by assumption) | (simp; done) | (simp; omega)))))⟩
      · rw [hx] at hnm
        cases hs : memB (xs.take n) (sth xs n)
        rotate_left
        · have hf2 := Lib.hid (show unlikeB [] xs = false by rw [hf.out, hd.out, unlikeB, hs]; simp)
          have hk : cnt (xs.take n) (sth xs n) = 1 := by rw [cnt, if_pos hs]
          clear hx hs
          go_wp2_with (go_at_call 175; refine hnm.mono ?_; (rintro e w1 ⟨rfl, hb1⟩; obtain ⟨hc1, hf1⟩ := bcell hb1; have hz1 := hb1.size; try simp at hz1; try have hy1 := Nat.lt_of_succ_le hz1; try have hx1 := Nat.lt_of_succ_lt hy1; try have hw1 := Nat.lt_of_succ_lt hx1); have hlk := (hm.below hb1).look hsz; rw [hk] at hlk)
          go_ret
          exact ⟨ret_bool hf2.out.symm, by (focus repeat (first | assumption | exact Below.refl _ _ | refine Below.drew ?_ | refine Below.alloc ?_ (by first | omega | exact Below.size (by assumption) | (simp; done) | (simp; omega)) _ | refine Below.setCell ?_ (by first | omega | exact Below.size (by assumption) | (simp; done) | (simp; omega)) _ | refine below_setRow ?_ (by first | omega | exact Below.size (by assumption) | (simp; done) | (simp; omega)) _ | (refine Below.trans ?_ (Below.mono (by assumption) ?_); rotate_left; exact (by first | omega | exact Below.size (by assumption) | (simp; done) | (simp; omega)))))⟩
        · have hf2 := Lib.hid (show unlikeB [] xs = unlikeB (xs.take (n + 1)) (xs.drop (n + 1)) by rw [hf.out, hd.out, unlikeB, hx, hs, htk.out]; rfl)
          have hk : cnt (xs.take n) (sth xs n) = 0 := by rw [cnt, hs]; rfl
          have HS := Lib.hid (cnt_snoc hs)
          have HK := Lib.hid hk
          clear hx hs
          go_wp2_with (first | (go_at_call 175; refine hnm.mono ?_; (rintro e w1 ⟨rfl, hb1⟩; obtain ⟨hc1, hf1⟩ := bcell hb1; have hz1 := hb1.size; try simp at hz1; try have hy1 := Nat.lt_of_succ_le hz1; try have hx1 := Nat.lt_of_succ_lt hy1; try have hw1 := Nat.lt_of_succ_lt hx1); have hm1 := hm.below hb1; have hlk := hm1.look hsz; rw [hk] at hlk; clear hk) | (at_mapUpdate; refine wpList_mput _ rfl _ _ _ rfl rfl hm1 (by unfold maxLen; omega) (sth xs n) hsz rfl _ rfl (by decide) ?_; intro w2 hm2 hg2))
          go_roundw
          case rel => exact ⟨n + 1, by go_num, by omega, (hb.trans (hb1.mono hb.size)).grown hg2 (by have := hb1.size; omega) (fun k hk => by cases hk; exact Nat.le_refl _), by rw [htk.out, ← HS.out, HK.out]; exact hm2, hf2⟩
          case measure => simp [intOf]; omega
    · have hf2 := Lib.hid (show unlikeB [] xs = true by rw [hf.out, List.drop_eq_nil_of_le (by omega)]; rfl)
      go_wp2
      go_ret
      exact ⟨ret_bool hf2.out.symm, hb⟩
end Go.Proofs.YteajnaabbddohaaGreatDoor
