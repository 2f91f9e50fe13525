/- Layer 11's example: what is above what in it. The walk of the reference's Table: which block is above which. -/
import Derived.Test.YtcjodjmmojbigaaGreatDoorLives
import Derived.Test.YtcjodjmmojbigaaGreatDoorNew
import Derived.Test.YtcjodjmmojbigaaGreatDoorTreeVC
import Derived.Test.YtcjodjmmojbigaaGreatDoorWays
import Derived.Test.YtcjodjmmojbigaaGreatDoorDomE
namespace Go.Proofs.YtcjodjmmojbigaaGreatDoor
open Go.RowKit
set_option maxRecDepth 100000

def fn1 : PFunc := ⟨[⟨⟨#[110]⟩, 0⟩, ⟨⟨#[118]⟩, 1⟩], [0, 1], [⟨⟨#[97]⟩, [], [], ⟨1, 1, 1, 2⟩⟩, ⟨⟨#[98]⟩, [], [], ⟨0, 0, 3, 0⟩⟩, ⟨⟨#[99]⟩, [], [], ⟨0, 0, 3, 0⟩⟩, ⟨⟨#[100]⟩, [], [], ⟨2, 0, 0, 0⟩⟩]⟩
theorem fn1_typed : typedP fn1 = true := by decide +kernel
theorem fn1_order : OR fn1 = [0, 2, 1, 3] := by decide +kernel
theorem fn1_pr : PR fn1 0 = [] ∧ PR fn1 1 = [0] ∧ PR fn1 2 = [0] ∧ PR fn1 3 = [1, 2] := by decide +kernel
theorem fn1_small : Small fn1 := ⟨by decide, by decide, fun i hi => by
  have : i < 4 := hi
  match i, this with
  | 0, _ => decide
  | 1, _ => decide
  | 2, _ => decide
  | 3, _ => decide⟩
def blks1 : Array Value := #[.string ⟨#[97]⟩, .slice none 0 0, .slice none 0 0, .int .i64 1, .int .i64 1, .int .i64 1, .int .i64 2, .string ⟨#[98]⟩, .slice none 0 0, .slice none 0 0, .int .i64 0, .int .i64 0, .int .i64 3, .int .i64 0, .string ⟨#[99]⟩, .slice none 0 0, .slice none 0 0, .int .i64 0, .int .i64 0, .int .i64 3, .int .i64 0, .string ⟨#[100]⟩, .slice none 0 0, .slice none 0 0, .int .i64 2, .int .i64 0, .int .i64 0, .int .i64 0]
/-- the example in memory. -/
theorem fn1_at {w : World} {b0 b1 b2 : Nat} (h0 : b0 < w.heap.size) (h1 : b1 < w.heap.size) (h2 : b2 < w.heap.size) (c0 : ∀ j, w.cell? ⟨b0, j, none⟩ = vars0[j]?) (c1 : ∀ j, w.cell? ⟨b1, j, none⟩ = (#[.int .i64 0, .int .i64 1] : Array Value)[j]?) (c2 : ∀ j, w.cell? ⟨b2, j, none⟩ = blks1[j]?) :
    FnV w w.heap.size (.agg #[.slice (some ⟨b0, 0, none⟩) 2 2, .slice (some ⟨b1, 0, none⟩) 2 2, .slice (some ⟨b2, 0, none⟩) 4 4]) fn1 := by
  refine ⟨_, _, _, rfl, ⟨_, _, rfl, by simp [Len, fn1], by decide, fun i x hx => ?_⟩, ⟨_, _, rfl, by simp [Len, fn1], by decide, fun i x hx => ?_⟩, ⟨_, _, rfl, by simp [Len, fn1], by decide, fun i x hx => ?_⟩⟩
  · refine ⟨b0, 0, rfl, h0, ?_⟩
    match i, hx with
    | 0, hx => cases hx; exact ⟨by decide, c0 0, c0 1⟩
    | 1, hx => cases hx; exact ⟨by decide, c0 2, c0 3⟩
  · refine ⟨b1, 0, rfl, h1, ?_⟩
    match i, hx with
    | 0, hx => cases hx; exact c1 0
    | 1, hx => cases hx; exact c1 1
  · refine ⟨b2, 0, rfl, h2, ?_⟩
    match i, hx with
    | 0, hx => cases hx; exact ⟨by decide, c2 0, ⟨_, c2 1, sl_nil⟩, ⟨_, c2 2, sl_nil⟩, c2 3, c2 4, c2 5, c2 6⟩
    | 1, hx => cases hx; exact ⟨by decide, c2 7, ⟨_, c2 8, sl_nil⟩, ⟨_, c2 9, sl_nil⟩, c2 10, c2 11, c2 12, c2 13⟩
    | 2, hx => cases hx; exact ⟨by decide, c2 14, ⟨_, c2 15, sl_nil⟩, ⟨_, c2 16, sl_nil⟩, c2 17, c2 18, c2 19, c2 20⟩
    | 3, hx => cases hx; exact ⟨by decide, c2 21, ⟨_, c2 22, sl_nil⟩, ⟨_, c2 23, sl_nil⟩, c2 24, c2 25, c2 26, c2 27⟩
section
variable {L : List (Option Nat)} (t : NearOk 4 (OR fn1) (PR fn1) L)
include t
theorem fn1_over13 : ¬ Anc (fnO L) 1 3 := by
  obtain ⟨p0, p1, p2, p3⟩ := fn1_pr
  rw [t.dom (by rw [fn1_order]; simp)]
  intro h
  exact h (.step (.step (.start (by decide)) (show 0 ∈ PR fn1 2 by rw [p2]; simp) (by decide)) (show 2 ∈ PR fn1 3 by rw [p3]; simp) (by decide))
theorem fn1_over23 : ¬ Anc (fnO L) 2 3 := by
  obtain ⟨p0, p1, p2, p3⟩ := fn1_pr
  rw [t.dom (by rw [fn1_order]; simp)]
  intro h
  exact h (.step (.step (.start (by decide)) (show 0 ∈ PR fn1 1 by rw [p1]; simp) (by decide)) (show 1 ∈ PR fn1 3 by rw [p3]; simp) (by decide))
theorem fn1_near3 : fnO L 3 = some 0 := by
  have h3 : 3 ∈ OR fn1 := by rw [fn1_order]; simp
  cases h : fnO L 3 with
  | none => exact absurd h (t.all h3)
  | some p =>
    have hu := t.tok.up (by decide) h
    have ha : Anc (fnO L) p 3 := .up (by decide) h .refl
    have hp := hu.2.1
    rw [fn1_order] at hp
    simp only [List.mem_cons, List.mem_nil_iff, or_false] at hp
    rcases hp with rfl | rfl | rfl | rfl
    · rfl
    · exact absurd ha (fn1_over23 t)
    · exact absurd ha (fn1_over13 t)
    · have := hu.2.2.1; omega
theorem fn1_over03 : Anc (fnO L) 0 3 := .up (by decide) (fn1_near3 t) .refl
theorem fn1_front : frontL 4 (SF (OR fn1) (PR fn1) (L.set 0 none) (fnO L) (OR fn1)) 1 = [3] := by
  obtain ⟨p0, p1, p2, p3⟩ := fn1_pr
  have hlen : (List.range 4) = [0, 1, 2, 3] := by decide
  have n3 : fnO (L.set 0 none) 3 = some 0 := by rw [fnO_ne (by decide)]; exact fn1_near3 t
  have a10 : ¬ Anc (fnO L) 1 0 := fun h => by have := h.of0; omega
  have f0 : ¬ SF (OR fn1) (PR fn1) (L.set 0 none) (fnO L) (OR fn1) 1 0 := by rintro ⟨_, p, h1, _⟩; rw [p0] at h1; cases h1
  have f1 : ¬ SF (OR fn1) (PR fn1) (L.set 0 none) (fnO L) (OR fn1) 1 1 := by rintro ⟨_, p, h1, _, h3, _⟩; rw [p1] at h1; simp at h1; subst h1; exact a10 h3
  have f2 : ¬ SF (OR fn1) (PR fn1) (L.set 0 none) (fnO L) (OR fn1) 1 2 := by rintro ⟨_, p, h1, _, h3, _⟩; rw [p2] at h1; simp at h1; subst h1; exact a10 h3
  have f3 : SF (OR fn1) (PR fn1) (L.set 0 none) (fnO L) (OR fn1) 1 3 := by
    refine ⟨by rw [fn1_order]; simp, 1, by rw [p3]; simp, by rw [fn1_order]; simp, .refl, ?_⟩
    rintro ⟨q, h1, h2⟩
    rw [n3] at h1
    obtain rfl := Option.some.inj h1
    exact a10 h2
  unfold frontL
  rw [hlen]
  simp [f0, f1, f2, f3]
end
set_option maxHeartbeats 4000000 in
theorem livesD_calls {W w : World} (hU : Uni W) (hW : Below W.heap.size W w) :
    Calls Tryz.prog 9 #[] w fun e w' => e = .returned (.bool true) ∧ Below w.heap.size w w' := by
  obtain ⟨V0, hV0⟩ : ∃ V0 : World, V0 = (((w.alloc (.cells vars0 55)).alloc (.cells #[.int .i64 0, .int .i64 1] 3)).alloc (.cells blks1 62)) := ⟨_, rfl⟩
  have hb0 : Below w.heap.size w V0 := by subst hV0; (focus repeat (first | assumption | exact Below.refl _ _ | refine Below.drew ?_ | refine Below.alloc ?_ (by first | omega | exact Below.size (by assumption) | (simp; done) | (simp; omega)) _ | refine Below.setCell ?_ (by first | omega | exact Below.size (by assumption) | (simp; done) | (simp; omega)) _ | refine below_setRow ?_ (by first | omega | exact Below.size (by assumption) | (simp; done) | (simp; omega)) _ | (refine Below.trans ?_ (Below.mono (by assumption) ?_); rotate_left; exact (by first | omega | exact Below.size (by assumption) | (simp; done) | (simp; omega)))))
  have hU0 : Uni V0 := (hU.below hW).below hb0
  have hs0 : V0.heap.size = w.heap.size + 3 := by subst hV0; simp
  have hF : FnV V0 V0.heap.size (.agg #[.slice (some ⟨w.heap.size, 0, none⟩) 2 2, .slice (some ⟨w.heap.size + 1, 0, none⟩) 2 2, .slice (some ⟨w.heap.size + 2, 0, none⟩) 4 4]) fn1 := by
    refine fn1_at (by omega) (by omega) (by omega) (fun j => ?_) (fun j => ?_) (fun j => ?_)
    · subst hV0
      rw [World.cell?_alloc_lt _ _ _ (by simp; omega), World.cell?_alloc_lt _ _ _ (by simp)]
      exact cell_of_row _ _ j _ _ _ (heap_alloc_new _ _)
    · subst hV0
      rw [World.cell?_alloc_lt _ _ _ (by simp)]
      exact cell_of_row _ _ j _ _ _ (by simpa using heap_alloc_new (w.alloc (.cells vars0 55)) (.cells #[.int .i64 0, .int .i64 1] 3))
    · subst hV0
      exact cell_of_row _ _ j _ _ _ (by simpa using heap_alloc_new ((w.alloc (.cells vars0 55)).alloc (.cells #[.int .i64 0, .int .i64 1] 3)) (.cells blks1 62))
  have hn := fun (w : World) (h : Below V0.heap.size V0 w) => newYes_calls hU0 hF h fn1_small fn1_typed
  have g := Lib.hid (gr_of fn1_typed)
  rw [show fn1.blocks.length = 4 from rfl] at hn g
  go_enter Tryz.func9, Tryz.ntmps9
  subst hV0
  have hbl : ∀ t vs, Below w.heap.size w ((((w.alloc (.cells vars0 55)).alloc (.cells #[.int .i64 0, .int .i64 1] 3)).alloc (.cells blks1 62)).alloc (.cells vs t)) := fun t vs => hb0.alloc (by simp; omega) _
  go_wp2_with fail
  refine (hn _ ((Below.refl _ _).alloc (Nat.le_refl _) _)).mono ?_
  rintro e w5 ⟨v, rfl, ⟨tb, gn, gl, gk, gf, L, V, rfl, hD⟩, hb5⟩
  have hB5 := (hbl _ _).trans (hb5.mono (by simp; omega))
  have n3 : fnO (L.set 0 none) 3 = some 0 := by rw [fnO_ne (by decide)]; exact fn1_near3 hD.near
  have hfr := front_calls g.out hD 1 (by decide) (by decide)
  rw [if_pos (by rw [fn1_order]; simp), fn1_front hD.near] at hfr
  have hO1 : inO (OR fn1) 1 = true := by rw [fn1_order]; decide
  have hO0 : inO (OR fn1) 0 = true := by rw [fn1_order]; decide
  have hO3 : inO (OR fn1) 3 = true := by rw [fn1_order]; decide
  have ov03 : overB (OR fn1) L 0 3 = true := by unfold overB; rw [hO0, hO3]; simpa using fn1_over03 hD.near
  have ov13 : overB (OR fn1) L 1 3 = false := by unfold overB; rw [hO1, hO3]; simpa using fn1_over13 hD.near
  go_wp2_with fail
  refine (tNear_calls g.out hD 3 (by decide)).mono ?_
  rintro e w6 ⟨⟨p, ⟨-, hp, rfl⟩ | ⟨hp, -⟩⟩, hw6⟩
  case inr => rw [n3] at hp; cases hp
  obtain rfl : 0 = p := by rw [n3] at hp; exact Option.some.inj hp
  subst w6
  clear hp
  go_wp2_with fail
  refine hfr.mono ?_
  rintro e w7 ⟨A7, c7, rfl, l7, k7, r7, hb7⟩
  obtain ⟨b7, o7, rfl, hb7l, hc7⟩ := r7.int (Below.refl _ _) (i := 0) (by decide)
  replace hc7 : w7.cell? ⟨b7, o7, none⟩ = some (.int .i64 3) := hc7
  have hl1 : (ints [3]).length = 1 := rfl
  rw [hl1]
  have hD7 := hD.keep (Kept.of_below hb7) hb7.size
  have h1 := over_calls g.out hD7 0 3
  rw [ov03] at h1
  go_wp2_with fail
  refine h1.mono ?_
  rintro e w8 ⟨rfl, hb8⟩
  have h2 := over_calls g.out (hD7.keep (Kept.of_below hb8) hb8.size) 1 3
  rw [ov13] at h2
  go_wp2_with fail
  refine h2.mono ?_
  rintro e w9 ⟨rfl, hb9⟩
  go_wp2
  go_ret
  refine ⟨rfl, hB5.trans ((hb7.trans ((hb8.trans (hb9.mono hb8.size)).mono hb7.size)).mono hB5.size)⟩
end Go.Proofs.YtcjodjmmojbigaaGreatDoor
namespace Go.Proofs.YtcjodjmmojbigaaGreatDoor
open Go.RowKit
set_option maxRecDepth 100000

/-- the document's table. -/
def tabP (F : PFunc) (a b : Nat) : Prop := a ∈ OR F ∧ b ∈ OR F ∧ (a = b ∨ ¬ Avoid (fun x y => x ∈ PR F y) a b)
theorem avoid_of_plus {F : PFunc} (h : typedP F = true) {a : Nat} {b : Nat} (hp : Plus (RF F (a : Int)) 0 b) : Avoid (fun x y => x ∈ PR F y) a b := by
  have key : ∀ {x y}, RF F (a : Int) x y → x ∈ PR F y ∧ y ≠ a ∧ x ≠ a := fun {x y} hr => ⟨(mem_PR h).2 ⟨hr.1, (EN_leads h hr.1).2 hr.2.2.2.2⟩, by have := hr.2.2.2.1; omega, by have := hr.2.2.1; omega⟩
  induction hp with
  | one hr => exact .step (.start (fun e => (key hr).2.2 e.symm)) (key hr).1 (key hr).2.1
  | more _ hr ih => exact .step ih (key hr).1 (key hr).2.1
theorem plus_of_avoid {F : PFunc} (h : typedP F = true) {a b : Nat} (hA : Avoid (fun x y => x ∈ PR F y) a b) : a ≠ 0 ∧ b ≠ a ∧ (b = 0 ∨ Plus (RF F (a : Int)) 0 b) := by
  induction hA with
  | start h0 => exact ⟨h0, fun e => h0 e.symm, .inl rfl⟩
  | @step x y _ hp hy ih =>
    obtain ⟨h0, hx, h1⟩ := ih
    have hm := (mem_PR h).1 hp
    have hr : RF F (a : Int) x y := ⟨hm.1, EN_lt h hm.1 y hm.2, by omega, by omega, (EN_leads h hm.1).1 hm.2⟩
    refine ⟨h0, hy, .inr ?_⟩
    rcases h1 with rfl | h1
    · exact .one hr
    · exact .more h1 hr
/-- the marks of what ways reach that don't come to a. -/
theorem left_at {F : PFunc} (h : typedP F = true) {a b : Nat} (hb : b < F.blocks.length) : (((plusL (RF F (a : Int)) F.blocks.length 0).set 0 (decide ((a : Int) ≠ 0))).getD b false = true) ↔ Avoid (fun x y => x ∈ PR F y) a b := by
  have hn := (shaped_count (typed_shaped h)).1
  by_cases h0 : b = 0
  · subst h0
    have : ((plusL (RF F (a : Int)) F.blocks.length 0).set 0 (decide ((a : Int) ≠ 0))).getD 0 false = decide ((a : Int) ≠ 0) := by
      have hl : 0 < (plusL (RF F (a : Int)) F.blocks.length 0).length := by rw [plusL_len]; omega
      simp [List.getD, hl]
    rw [this, decide_eq_true_eq]
    constructor
    · exact fun e => .start (by omega)
    · intro hA
      have := (plus_of_avoid h hA).1
      omega
  · rw [List.getD, List.getElem?_set_ne (fun e => h0 e.symm), ← List.getD_eq_getElem?_getD, plusL_at hb]
    constructor
    · exact avoid_of_plus h
    · intro hA
      exact (plus_of_avoid h hA).2.2.resolve_left h0
theorem there_at {F : PFunc} {b : Nat} (hb : b < F.blocks.length) : (marksL F.blocks.length (postO F).reverse).getD b false = true ↔ b ∈ OR F := marksL_at hb
/-- a table in memory. -/
def TabV (w : World) (B : Nat) (v : Value) (n : Nat) (T : Nat → Nat → Bool) : Prop := ∃ b0 c, v = .slice (some ⟨b0, 0, none⟩) n c ∧ n ≤ c ∧ b0 < B ∧ ∀ a, a < n → ∃ b1, w.cell? ⟨b0, a, none⟩ = some (.slice (some ⟨b1, 0, none⟩) n n) ∧ b1 < B ∧ ∀ x, x < n → w.cell? ⟨b1, x, none⟩ = some (.bool (T a x))
open Classical in
noncomputable def tabB (F : PFunc) (a b : Nat) : Bool := decide (tabP F a b)
open Classical in
theorem tabB_iff {F : PFunc} {a b : Nat} : tabB F a b = true ↔ tabP F a b := by unfold tabB; rw [decide_eq_true_eq]
theorem own_pos {w : World} {B e n : Nat} {v : Value} {xs : List Value} (h : w.ownsRow B e 1 v n xs) (hn : 1 ≤ n) : ∃ g cap, v = .slice (some ⟨g, 0, none⟩) n cap ∧ g < w.heap.size ∧ n ≤ cap := by
  obtain ⟨m, rfl⟩ : ∃ m, n = m + 1 := ⟨n - 1, by omega⟩
  obtain ⟨g, cap, rfl, _, h2, h3, _⟩ := own_succ h
  exact ⟨g, cap, rfl, h2, h3⟩
/-- one row, so far. -/
noncomputable def rowP (F : PFunc) (a b : Nat) : List Bool := (List.range F.blocks.length).map fun x => decide (x < b) && tabB F a x
theorem rowP_len {F : PFunc} {a b : Nat} : (rowP F a b).length = F.blocks.length := by simp [rowP]
theorem rowP_zero {F : PFunc} {a : Nat} : rowP F a 0 = List.replicate F.blocks.length false := by
  refine List.ext_getElem (by simp [rowP]) fun i h1 h2 => ?_
  simp [rowP]
theorem rowP_step {F : PFunc} {a b : Nat} : (rowP F a b).set b (tabB F a b) = rowP F a (b + 1) := by
  refine List.ext_getElem (by simp [rowP]) fun i h1 h2 => ?_
  rw [List.getElem_set]
  by_cases e : b = i
  · subst e; simp [rowP]
  · rw [if_neg e]
    have : (i < b) ↔ (i < b + 1) := by omega
    simp [rowP, this]
theorem rowP_none {F : PFunc} {a b : Nat} (ha : a ∉ OR F) : rowP F a b = List.replicate F.blocks.length false := by
  refine List.ext_getElem (by simp [rowP]) fun i h1 h2 => ?_
  have : tabB F a i = false := by unfold tabB; rw [decide_eq_false_iff_not]; exact fun h => ha h.1
  simp [rowP, this]
/-- the rows that are made. -/
def RowsT (F : PFunc) (wr : World) (B : Nat) (av : Nat) (vs : List Value) : Prop := ∀ k v, vs[k]? = some v → ∃ g, v = .slice (some ⟨g, 0, none⟩) F.blocks.length F.blocks.length ∧ g < av ∧ wr.ownsRow B 4 1 v F.blocks.length ((rowP F k F.blocks.length).map Value.bool)
theorem RowsT.below {F : PFunc} {wr w' : World} {B av av' : Nat} {vs : List Value} (h : RowsT F wr B av vs) (hb : Below wr.heap.size wr w') (ha : av ≤ av') : RowsT F w' B av' vs := fun k v hv => by
  obtain ⟨g, h1, h2, h3⟩ := h k v hv
  exact ⟨g, h1, by omega, own_below h3 hb⟩
theorem RowsT.set {F : PFunc} {wr : World} {B av i : Nat} {vs : List Value} {u : Value} (h : RowsT F wr B av vs) : RowsT F (wr.setCell ⟨av, i, none⟩ u) B av vs := fun k v hv => by
  obtain ⟨g, h1, h2, h3⟩ := h k v hv
  refine ⟨g, h1, h2, ownsRow_setCell_other h3 (a := ⟨av, i, none⟩) (fun e => ?_) u⟩
  subst h1
  simp [Value.ownBlock] at e
  omega
theorem Tryz.info38 : (Tryz.prog.info? 38).map (fun i => (i.zero, i.size, i.bytes)) = some (some (.slice none 0 0), 1, 24) := by kernel_rfl
set_option maxHeartbeats 8000000 in
theorem table_calls {W w : World} {fv : Value} {F : PFunc} (hF : FnV W W.heap.size fv F) (hW : Below W.heap.size W w) (hT : typedP F = true) :
    Calls Tryz.prog 12 #[fv] w fun e w' => ∃ v, e = .returned v ∧ TabV w' w'.heap.size v F.blocks.length (tabB F) ∧ Below w.heap.size w w' := by
  obtain ⟨n1, n2⟩ := shaped_count (typed_shaped hT)
  have hre := fun (w : World) (h : Below W.heap.size W w) (r : Int) => reached_calls hF h n1 n2 r
  have hr1 := fun (w : World) (h : Below W.heap.size W w) => hre w h (-1)
  rw [← reach_eq hT] at hr1
  have HTH := Lib.hid (fun b (hb : b < F.blocks.length) => there_at (F := F) hb)
  have HLF := Lib.hid (fun a b (hb : b < F.blocks.length) => left_at (a := a) hT hb)
  have hml : (marksL F.blocks.length (postO F).reverse).length = F.blocks.length := marksL_len
  obtain ⟨th, hth⟩ : ∃ th, marksL F.blocks.length (postO F).reverse = th := ⟨_, rfl⟩
  rw [hth] at hr1 HTH hml
  have hLl : ∀ a : Nat, ((plusL (RF F (a : Int)) F.blocks.length 0).set 0 (decide ((a : Int) ≠ 0))).length = F.blocks.length := fun a => by rw [List.length_set, plusL_len]
  have hWs := hW.size
  obtain ⟨A0, c0, A1, c1, A2, c2, rfl, l0, l1, l2, -⟩ := id hF.open_
  unfold Len at *
  have hb0 := (Below.refl w.heap.size w).alloc (Nat.le_refl _) (.cells #[.slice A0 F.vars.length c0, .slice A1 F.params.length c1, .slice A2 F.blocks.length c2] 26)
  obtain ⟨ib, hib, hz0, hz1, hz2⟩ := info_parts Tryz.info4
  clear hT hth
  go_enter Tryz.func12, Tryz.ntmps12
  go_wp2_with fail
  refine (hr1 _ (hW.trans (hb0.mono hWs))).mono ?_
  rintro e w1 ⟨g3, rfl, o3, hb1⟩
  have hX1 : Below (w.heap.size + 1) (w.alloc (.cells #[.slice A0 F.vars.length c0, .slice A1 F.params.length c1, .slice A2 F.blocks.length c2] 26)) w1 := by simpa using hb1
  obtain ⟨hq, hq0, hq1, hq2⟩ := box3 hX1
  have o3' := own_base o3 (B' := w.heap.size + 1) (by simp)
  clear o3
  go_wp2
  go_loopw [4, 14] (fun v4 i wr => ∃ (a : Nat) (vs : List Value), i = .int .i64 a ∧ a ≤ F.blocks.length ∧ wr.ownsRow (w.heap.size + 1) 38 1 v4 a vs ∧ RowsT F wr (w.heap.size + 1) wr.heap.size vs ∧
    wr.ownsRow (w.heap.size + 1) 4 1 (.slice (some ⟨g3, 0, none⟩) F.blocks.length F.blocks.length) F.blocks.length (th.map Value.bool) ∧ Below (w.heap.size + 1) (w.alloc (.cells #[.slice A0 F.vars.length c0, .slice A1 F.params.length c1, .slice A2 F.blocks.length c2] 26)) wr) (fun _ i _ => F.blocks.length - (intOf i).toNat)
  case atStart => exact ⟨0, [], rfl, Nat.zero_le _, World.ownsRow_nil _ _ _ _, fun k v hv => by simp at hv, o3', hX1⟩
  case round => as_aux_lemma =>
    clear hq hq0 hq1 hq2 o3' hX1
    obtain ⟨a, vs, rfl, ha, ho, hR, o3, hX⟩ := hrel
    obtain ⟨hq, hq0, hq1, hq2⟩ := box3 hX
    by_cases hal : a < F.blocks.length
    · have hal3 : (a : Int) < (F.blocks.length : Int) := by omega
      obtain ⟨wq, rfl⟩ : ∃ wq : World, wq = wr := ⟨_, rfl⟩
      have hg3 : g3 < wq.heap.size := (o3.lt _ rfl).2
      have hthr := HTH.out a hal
      have hzw : w.heap.size + 1 ≤ wq.heap.size := by have := hX.size; simpa using this
      have key : ∀ {v4 : Value} {w5 w3 : World} {v' : Value} {rw : List Bool}, Below wq.heap.size wq w5 → wq.heap.size < w5.heap.size → w5.ownsRow (w.heap.size + 1) 38 1 v4 a vs → RowsT F w5 (w.heap.size + 1) wq.heap.size vs →
          w5.ownsRow (w.heap.size + 1) 4 1 (.slice (some ⟨g3, 0, none⟩) F.blocks.length F.blocks.length) F.blocks.length (th.map Value.bool) → w5.ownsRow (w.heap.size + 1) 4 1 (.slice (some ⟨wq.heap.size, 0, none⟩) F.blocks.length F.blocks.length) F.blocks.length (rw.map Value.bool) → rw = rowP F a F.blocks.length → Below (w.heap.size + 1) (w.alloc (.cells #[.slice A0 F.vars.length c0, .slice A1 F.params.length c1, .slice A2 F.blocks.length c2] 26)) w5 →
          w3.ownsRow (w.heap.size + 1) 38 1 v' (a + 1) (vs ++ [.slice (some ⟨wq.heap.size, 0, none⟩) F.blocks.length F.blocks.length]) → (w5.alloc (.cells #[.slice (some ⟨wq.heap.size, 0, none⟩) F.blocks.length F.blocks.length] 38)).grownBy w3 v4.ownBlock →
          RowsT F w3 (w.heap.size + 1) w3.heap.size (vs ++ [.slice (some ⟨wq.heap.size, 0, none⟩) F.blocks.length F.blocks.length]) ∧ w3.ownsRow (w.heap.size + 1) 4 1 (.slice (some ⟨g3, 0, none⟩) F.blocks.length F.blocks.length) F.blocks.length (th.map Value.bool) ∧ Below (w.heap.size + 1) (w.alloc (.cells #[.slice A0 F.vars.length c0, .slice A1 F.params.length c1, .slice A2 F.blocks.length c2] 26)) w3 := by
        intro v4 w5 w3 v' rw hb5 hl5 ho5 hR5 o35 or5 hrw hX5 hown3 hg3'
        have hal5 : Below w5.heap.size w5 (w5.alloc (.cells #[.slice (some ⟨wq.heap.size, 0, none⟩) F.blocks.length F.blocks.length] 38)) := (Below.refl _ _).alloc (Nat.le_refl _) _
        have keep : ∀ {g : Nat} {xs : List Value}, w5.ownsRow (w.heap.size + 1) 4 1 (.slice (some ⟨g, 0, none⟩) F.blocks.length F.blocks.length) F.blocks.length xs → w3.ownsRow (w.heap.size + 1) 4 1 (.slice (some ⟨g, 0, none⟩) F.blocks.length F.blocks.length) F.blocks.length xs :=
          fun h => own_grown h hal5 hg3' (fun b hb => own_ne h ho5 (by decide) hb)
        have hsz := hg3'.size
        simp at hsz
        refine ⟨fun k v hv => ?_, keep o35, grown_below ho5 hg3' hX5 (Nat.le_refl _) (by omega)⟩
        have hvl : vs.length = a := by simpa using ho5.1
        by_cases hk : k < vs.length
        · rw [List.getElem?_append_left hk] at hv
          obtain ⟨g, h1, h2, h3⟩ := hR5 k v hv
          subst h1
          exact ⟨g, rfl, by omega, keep h3⟩
        · have hk2 : k = a := by
            have := (List.getElem?_eq_some_iff.1 hv).1
            simp at this
            omega
          subst hk2
          rw [List.getElem?_append_right (by omega)] at hv
          simp [hvl] at hv
          subst hv
          exact ⟨wq.heap.size, rfl, by omega, by rw [← hrw]; exact keep or5⟩
      replace key := @Lib.hid _ @key
      have hthc := own_bool o3 hal
      have hle := hLl a
      have hlfa := fun b hb => HLF.out a b hb
      have hre' := hre
      obtain ⟨A4, c4, rfl⟩ := own_form ho
      obtain ⟨ta, hta⟩ : ∃ ta, th.getD a false = ta := ⟨_, rfl⟩
      rw [hta] at hthc hthr
      cases ta
      · have hna : a ∉ OR F := fun h => by have := hthr.2 h; cases this
        have HNA := Lib.hid hna
        clear hna hthr hta
        go_wp2_with (first
          | (at_make; refine wpList_make_full _ rfl _ _ 38 rfl (w.heap.size + 1) 4 ib _ 1 Tryz.underlying38 hib hz0 hz1 _ _ _ _ _ rfl rfl rfl rfl (by rw [hz2]; omega) (by unfold maxLen; omega) (by omega) ?_; intro w2 hs2 hg2
             have hb2 : Below wq.heap.size wq w2 := (Below.refl _ _).grown hg2 (Nat.le_refl _) (fun k hk => by cases hk)
             have o2 : w2.ownsRow (w.heap.size + 1) 4 1 (.slice (some ⟨wq.heap.size, 0, none⟩) F.blocks.length F.blocks.length) F.blocks.length ((rowP F a 0).map Value.bool) := by rw [rowP_zero]; simpa [Value.cells, toList_madeCells_one] using hs2
             have hl2 : wq.heap.size < w2.heap.size := (o2.lt _ rfl).2
             have o32 := own_below o3 hb2
             have ho2 := own_below ho hb2
             have hR2 := hR.below hb2 (Nat.le_refl _)
             have hX2 := hX.trans (hb2.mono hzw)
             have hc3 := (hb2.cell (p := ⟨g3, a, none⟩) hg3).trans hthc
             have hg32 : g3 < w2.heap.size := (o32.lt _ rfl).2
             clear hs2 hg2)
          | (at_builtin; refine wpList_append1F _ rfl _ _ 33 rfl (w.heap.size + 1) 38 24 Tryz.underlying33 Tryz.info38 rfl _ _ _ rfl ho2 _ rfl _ rfl rfl (by omega) (by decide) (by omega) ?_; intro v' w3 hown3 hg3' hfr3; obtain ⟨k1, k2, k3⟩ := key.out hb2 hl2 ho2 hR2 o32 o2 (by rw [rowP_none HNA.out, rowP_none HNA.out]) hX2 hown3 hg3'))
        go_roundw
        case rel => exact ⟨a + 1, _, by go_num, by omega, hown3, k1, k2, k3⟩
        case measure => simp [intOf]; omega
      · have HA := Lib.hid (hthr.1 rfl)
        clear hthr hta
        go_wp2_with (
          at_make; refine wpList_make_full _ rfl _ _ 38 rfl (w.heap.size + 1) 4 ib _ 1 Tryz.underlying38 hib hz0 hz1 _ _ _ _ _ rfl rfl rfl rfl (by rw [hz2]; omega) (by unfold maxLen; omega) (by omega) ?_; intro w2 hs2 hg2
          have hb2 : Below wq.heap.size wq w2 := (Below.refl _ _).grown hg2 (Nat.le_refl _) (fun k hk => by cases hk)
          have o2 : w2.ownsRow (w.heap.size + 1) 4 1 (.slice (some ⟨wq.heap.size, 0, none⟩) F.blocks.length F.blocks.length) F.blocks.length ((rowP F a 0).map Value.bool) := by rw [rowP_zero]; simpa [Value.cells, toList_madeCells_one] using hs2
          have hl2 : wq.heap.size < w2.heap.size := (o2.lt _ rfl).2
          have o32 := own_below o3 hb2
          have ho2 := own_below ho hb2
          have hR2 := hR.below hb2 (Nat.le_refl _)
          have hX2 := hX.trans (hb2.mono hzw)
          have hc3 := (hb2.cell (p := ⟨g3, a, none⟩) hg3).trans hthc
          have hg32 : g3 < w2.heap.size := (o32.lt _ rfl).2
          obtain ⟨p, p0, p1, p2⟩ := box3 hX2
          clear hs2 hg2)
        refine (hre' w2 (hW.trans ((hb0.trans (hX2.mono (Nat.le_succ _))).mono hWs)) a).mono ?_
        rintro e w7 ⟨g7, rfl, o7, hb7⟩
        have hz2 : w2.heap.size ≤ w7.heap.size := hb7.size
        have hX7 := hX2.trans (hb7.mono (by omega))
        have o37 := own_below o32 hb7
        have ho7 := own_below ho2 hb7
        have hR7 := hR2.below hb7 (Nat.le_refl _)
        have o27 := own_below o2 hb7
        have o77 := own_base o7 (B' := w.heap.size + 1) (by omega)
        have hg7 := o7.lt _ rfl
        replace hg7 : w2.heap.size ≤ g7 ∧ g7 < w7.heap.size := hg7
        obtain ⟨lf, hlf⟩ : ∃ lf, (plusL (RF F (a : Int)) F.blocks.length 0).set 0 (decide ((a : Int) ≠ 0)) = lf := ⟨_, rfl⟩
        rw [hlf] at hle hlfa o77
        have HLA := Lib.hid hlfa
        have hgr : g3 ≠ wq.heap.size := by omega
        have hgr7 : g7 ≠ wq.heap.size := by omega
        have hb27 : Below wq.heap.size wq w7 := hb2.trans (hb7.mono (by omega))
        clear hlfa hlf hre hre' hr1 o7 o2 o32 ho2 hR2 hX2 hc3 hg32 p p0 p1 p2 hb7 hb2
        go_wp2
        go_loopw [30] (fun i wr => ∃ b : Nat, i = .int .i64 b ∧ b ≤ F.blocks.length ∧ wr.ownsRow (w.heap.size + 1) 4 1 (.slice (some ⟨wq.heap.size, 0, none⟩) F.blocks.length F.blocks.length) F.blocks.length ((rowP F a b).map Value.bool) ∧
          wr.ownsRow (w.heap.size + 1) 38 1 (.slice A4 a c4) a vs ∧ RowsT F wr (w.heap.size + 1) wq.heap.size vs ∧ wr.ownsRow (w.heap.size + 1) 4 1 (.slice (some ⟨g3, 0, none⟩) F.blocks.length F.blocks.length) F.blocks.length (th.map Value.bool) ∧
          wr.ownsRow (w.heap.size + 1) 4 1 (.slice (some ⟨g7, 0, none⟩) F.blocks.length F.blocks.length) F.blocks.length (lf.map Value.bool) ∧ Below wq.heap.size wq wr) (fun i _ => F.blocks.length - (intOf i).toNat)
        case atStart => exact ⟨0, rfl, Nat.zero_le _, o27, ho7, hR7, o37, o77, hb27⟩
        case round => as_aux_lemma =>
          clear o27 ho7 hR7 o37 o77 hb27 hX7
          obtain ⟨b, rfl, hbn, o2, ho2, hR2, o3, o7, hb2⟩ := hrel
          have hl2 : wq.heap.size < wr.heap.size := (o2.lt _ rfl).2
          have hX2 := hX.trans (hb2.mono hzw)
          by_cases hbl : b < F.blocks.length
          · have hbl3 : (b : Int) < (F.blocks.length : Int) := by omega
            have hc2 := own_bool o2 hbl
            have hc3 := own_bool o3 hbl
            have hc7 := own_bool o7 hbl
            have hg3w : g3 < wr.heap.size := (o3.lt _ rfl).2
            have hg7w : g7 < wr.heap.size := (o7.lt _ rfl).2
            have hfz := o2.frozenAt b
            have hset : ∀ z, tabB F a b = z → (wr.setCell ⟨wq.heap.size, b, none⟩ (.bool z)).ownsRow (w.heap.size + 1) 4 1 (.slice (some ⟨wq.heap.size, 0, none⟩) F.blocks.length F.blocks.length) F.blocks.length ((rowP F a (b + 1)).map Value.bool) ∧
                (wr.setCell ⟨wq.heap.size, b, none⟩ (.bool z)).ownsRow (w.heap.size + 1) 38 1 (.slice A4 a c4) a vs ∧ RowsT F (wr.setCell ⟨wq.heap.size, b, none⟩ (.bool z)) (w.heap.size + 1) wq.heap.size vs ∧ (wr.setCell ⟨wq.heap.size, b, none⟩ (.bool z)).ownsRow (w.heap.size + 1) 4 1 (.slice (some ⟨g3, 0, none⟩) F.blocks.length F.blocks.length) F.blocks.length (th.map Value.bool) ∧
                (wr.setCell ⟨wq.heap.size, b, none⟩ (.bool z)).ownsRow (w.heap.size + 1) 4 1 (.slice (some ⟨g7, 0, none⟩) F.blocks.length F.blocks.length) F.blocks.length (lf.map Value.bool) ∧ Below wq.heap.size wq (wr.setCell ⟨wq.heap.size, b, none⟩ (.bool z)) := by
              rintro z rfl
              refine ⟨?_, ownsRow_setCell_other ho2 (a := ⟨wq.heap.size, b, none⟩) (fun e => own_ne o2 ho2 (by decide) rfl e) _, hR2.set, ownsRow_setCell_other o3 (a := ⟨wq.heap.size, b, none⟩) (by simpa [Value.ownBlock] using hgr) _, ownsRow_setCell_other o7 (a := ⟨wq.heap.size, b, none⟩) (by simpa [Value.ownBlock] using hgr7) _, hb2.setCell (p := ⟨wq.heap.size, b, none⟩) (Nat.le_refl _) _⟩
              rw [← rowP_step, ← bool_set]
              exact (o2.stored b _).1
            have htb : tabB F a b = (th.getD b false && (decide (a = b) || !lf.getD b false)) := by
              rw [Bool.eq_iff_iff, tabB_iff]
              unfold tabP
              simp only [Bool.and_eq_true, Bool.or_eq_true, decide_eq_true_eq, Bool.not_eq_true']
              rw [HTH.out b hbl]
              constructor
              · rintro ⟨_, h2, h3 | h3⟩
                · exact ⟨h2, .inl h3⟩
                · refine ⟨h2, .inr ?_⟩
                  cases hx : lf.getD b false
                  · rfl
                  · exact absurd ((HLA.out b hbl).1 hx) h3
              · rintro ⟨h2, h3 | h3⟩
                · exact ⟨HA.out, h2, .inl h3⟩
                · exact ⟨HA.out, h2, .inr fun h4 => by rw [(HLA.out b hbl).2 h4] at h3; cases h3⟩
            obtain ⟨tb, htb'⟩ : ∃ x, th.getD b false = x := ⟨_, rfl⟩
            obtain ⟨lb, hlb'⟩ : ∃ x, lf.getD b false = x := ⟨_, rfl⟩
            rw [htb'] at hc3 htb
            rw [hlb'] at hc7 htb
            have HSET := Lib.hid hset
            have HTB := Lib.hid htb
            clear hset htb htb' hlb'
            cases tb
            · obtain ⟨h1, h2, h3, h4, h5, h6⟩ := HSET.out false (by rw [HTB.out]; rfl)
              go_wp2
              go_roundw
              case rel => exact ⟨b + 1, by go_num, by omega, h1, h2, h3, h4, h5, h6⟩
              case measure => simp [intOf]; omega
            · by_cases hab : a = b
              · have e0 : ((a : Int) == (b : Int)) = true := by simp [hab]
                obtain ⟨h1, h2, h3, h4, h5, h6⟩ := HSET.out true (by rw [HTB.out]; simp [hab])
                clear hab
                go_wp2
                go_roundw
                case rel => exact ⟨b + 1, by go_num, by omega, h1, h2, h3, h4, h5, h6⟩
                case measure => simp [intOf]; omega
              · have e0 : ((a : Int) == (b : Int)) = false := by rw [beq_eq_false_iff_ne]; omega
                have HAB := Lib.hid hab
                clear hab
                cases lb
                · obtain ⟨h1, h2, h3, h4, h5, h6⟩ := HSET.out true (by rw [HTB.out]; simp)
                  go_wp2
                  go_roundw
                  case rel => exact ⟨b + 1, by go_num, by omega, h1, h2, h3, h4, h5, h6⟩
                  case measure => simp [intOf]; omega
                · obtain ⟨h1, h2, h3, h4, h5, h6⟩ := HSET.out false (by rw [HTB.out]; simp [HAB.out])
                  go_wp2
                  go_roundw
                  case rel => exact ⟨b + 1, by go_num, by omega, h1, h2, h3, h4, h5, h6⟩
                  case measure => simp [intOf]; omega
          · obtain rfl : b = F.blocks.length := by omega
            go_wp2_with (at_builtin; refine wpList_append1F _ rfl _ _ 33 rfl (w.heap.size + 1) 38 24 Tryz.underlying33 Tryz.info38 rfl _ _ _ rfl ho2 _ rfl _ rfl rfl (by omega) (by decide) (by omega) ?_; intro v' w3 hown3 hg3' hfr3; obtain ⟨k1, k2, k3⟩ := key.out hb2 hl2 ho2 hR2 o3 o2 rfl hX2 hown3 hg3')
            go_roundw
            case rel => exact ⟨a + 1, _, by go_num, by omega, hown3, k1, k2, k3⟩
            case measure => simp [intOf]; omega
    · obtain rfl : a = F.blocks.length := by omega
      have hvl : vs.length = F.blocks.length := by simpa using ho.1
      obtain ⟨g4, cap4, rfl, hg4l, hcap⟩ := own_pos ho n1
      go_wp2
      go_ret
      refine ⟨_, rfl, ⟨g4, cap4, rfl, hcap, hg4l, fun x hx => ?_⟩, hb0.trans (hX.mono (Nat.le_succ _))⟩
      have hcx := ho.cellAt x (by omega)
      rw [List.getElem?_eq_getElem (by omega)] at hcx
      obtain ⟨g, h1, h2, h3⟩ := hR x _ (List.getElem?_eq_getElem (by omega))
      rw [h1] at hcx
      refine ⟨g, hcx, h2, fun y hy => ?_⟩
      rw [h1] at h3
      rw [own_bool h3 hy]
      simp [rowP, List.getD, hy]
end Go.Proofs.YtcjodjmmojbigaaGreatDoor
