/- slices.IndexFunc and slices.ContainsFunc over []int, with whatever predicate. -/
import Derived.Test.YteajnaabbddohaaGreatDoorOps
import Derived.Shelf.Strings.FuncGrows
namespace Go.Proofs.YteajnaabbddohaaGreatDoor
open Go.RowKit
set_option maxRecDepth 100000

/-- a predicate on numbers that a function value with one captured pointer is. -/
def PredI (w : World) (k : FuncId) (c : Value) (xs : List Int) (p : Int → Bool) : Prop :=
  ∀ x, x ∈ xs → ∀ w1, Below w.heap.size w w1 → Calls Tryz.prog k #[.int .i64 x, c] w1 fun e w' => e = .returned (.bool (p x)) ∧ Below w1.heap.size w1 w'
def firstIdx {α : Type} (p : α → Bool) : List α → Nat → Int
  | [], _ => -1
  | x :: r, i => if p x then i else firstIdx p r (i + 1)
theorem firstIdx_neg {α : Type} (p : α → Bool) : ∀ (l : List α) (i : Nat), (0 ≤ firstIdx p l i) ↔ l.any p = true
  | [], i => by simp [firstIdx]
  | x :: r, i => by
    unfold firstIdx
    by_cases h : p x = true
    · simp [h]
    · rw [if_neg h, firstIdx_neg p r (i + 1)]; simp [h]
theorem mem_of_ith {xs : List Int} {i : Nat} (h : i < xs.length) : ith xs i ∈ xs := List.mem_of_getElem? (ith_get h)
theorem drop_ith {xs : List Int} {i : Nat} (h : i < xs.length) : xs.drop i = ith xs i :: xs.drop (i + 1) := by
  rw [List.drop_eq_getElem_cons h]
  have := ith_get h
  rw [List.getElem?_eq_getElem h] at this
  injection this with this
  rw [this]

set_option maxHeartbeats 400000 in
theorem indexI_calls {W w : World} {A : Option Addr} {c0 : Nat} {xs : List Int} (hr : Rd W.heap.size A xs 1 (IntC W)) (hl : Len xs.length) (hW : Below W.heap.size W w) (k : FuncId) (c : Value) (p : Int → Bool) (eg : ∀ args w, (callFunc k args).run Tryz.prog w = .ok (.enter k args) w) (hp : PredI w k c xs p) :
    Calls Tryz.prog 137 #[.slice A xs.length c0, .func (.func k) #[] #[c]] w fun e w' => e = .returned (.int .i64 (firstIdx p xs 0)) ∧ Below w.heap.size w w' := by
  unfold Len at hl
  go_enter Tryz.func137, Tryz.ntmps137
  go_wp2
  go_loopw [5, 8] (fun _ i wr => ∃ n : Nat, i = .int .i64 n ∧ n ≤ xs.length ∧ Below w.heap.size w wr ∧ Hid (firstIdx p xs 0 = firstIdx p (xs.drop n) n)) (fun _ i _ => xs.length - (intOf i).toNat)
  case atStart => exact ⟨0, rfl, Nat.zero_le _, Below.refl _ _, by simp [Hid]⟩
  case round =>
    obtain ⟨n, rfl, hn, hb, hf⟩ := hrel
    by_cases hlt : n < xs.length
    · obtain ⟨b, off, rfl, hbs, hc⟩ := hr.int (hW.trans (hb.mono hW.size)) hlt
      have hcl := hp _ (mem_of_ith hlt) wr hb
      have hd := Lib.hid (drop_ith hlt)
      cases hx : p (ith xs n)
      · rw [hx] at hcl
        have hf2 := Lib.hid (show firstIdx p xs 0 = firstIdx p (xs.drop (n + 1)) (n + 1) by rw [hf.out, hd.out, firstIdx, if_neg (by rw [hx]; decide)])
        clear hx
        go_wp2_with (go_at_fn k; refine hcl.mono ?_; (rintro e w1 ⟨rfl, hb1⟩; obtain ⟨hc1, hf1⟩ := bcell hb1; have hz1 := hb1.size; try simp at hz1; try have hy1 := Nat.lt_of_succ_le hz1; try have hx1 := Nat.lt_of_succ_lt hy1; try have hw1 := Nat.lt_of_succ_lt hx1))
        go_roundw
        case rel => exact ⟨n + 1, by go_num, by omega, by (focus repeat (first | assumption | exact Below.refl _ _ | refine Below.drew ?_ | refine Below.alloc ?_ (by first | omega | exact Below.size (by assumption) | (simp; done) | (simp; omega)) _ | refine Below.setCell ?_ (by first | omega | exact Below.size (by assumption) | (simp; done) | (simp; omega)) _ | refine below_setRow ?_ (by first | omega | exact Below.size (by assumption) | (simp; done) | (simp; omega)) _ | (refine Below.trans ?_ (Below.mono (by assumption) ?_); rotate_left; exact (by first | omega | exact Below.size (by assumption) | (simp; done) | (simp; omega))))), hf2⟩
        case measure => simp [intOf]; omega
      · rw [hx] at hcl
        have hf2 := Lib.hid (show firstIdx p xs 0 = n by rw [hf.out, hd.out, firstIdx, if_pos hx])
        clear hx
        go_wp2_with (go_at_fn k; refine hcl.mono ?_; (rintro e w1 ⟨rfl, hb1⟩; obtain ⟨hc1, hf1⟩ := bcell hb1; have hz1 := hb1.size; try simp at hz1; try have hy1 := Nat.lt_of_succ_le hz1; try have hx1 := Nat.lt_of_succ_lt hy1; try have hw1 := Nat.lt_of_succ_lt hx1))
        go_ret
        exact ⟨ret_int hf2.out.symm, by (focus repeat (first | assumption | exact Below.refl _ _ | refine Below.drew ?_ | refine Below.alloc ?_ (by first | omega | exact Below.size (by assumption) | (simp; done) | (simp; omega)) _ | refine Below.setCell ?_ (by first | omega | exact Below.size (by assumption) | (simp; done) | (simp; omega)) _ | refine below_setRow ?_ (by first | omega | exact Below.size (by assumption) | (simp; done) | (simp; omega)) _ | (refine Below.trans ?_ (Below.mono (by assumption) ?_); rotate_left; exact (by first | omega | exact Below.size (by assumption) | (simp; done) | (simp; omega)))))⟩
    · have hf2 := Lib.hid (show firstIdx p xs 0 = -1 by rw [hf.out, List.drop_eq_nil_of_le (by omega)]; rfl)
      go_wp2
      go_ret
      exact ⟨ret_int hf2.out.symm, hb⟩

theorem containsI_calls {W w : World} {A : Option Addr} {c0 : Nat} {xs : List Int} (hr : Rd W.heap.size A xs 1 (IntC W)) (hl : Len xs.length) (hW : Below W.heap.size W w) (k : FuncId) (c : Value) (p : Int → Bool) (eg : ∀ args w, (callFunc k args).run Tryz.prog w = .ok (.enter k args) w) (hp : PredI w k c xs p) :
    Calls Tryz.prog 99 #[.slice A xs.length c0, .func (.func k) #[] #[c]] w fun e w' => e = .returned (.bool (xs.any p)) ∧ Below w.heap.size w w' := by
  have hi := indexI_calls (c0 := c0) hr hl hW k c p eg hp
  go_enter Tryz.func99, Tryz.ntmps99
  go_wp2_with (go_at_call 137; refine hi.mono ?_; rintro e w1 ⟨rfl, hb⟩)
  go_ret
  exact ⟨ret_bool' (by simp only [decide_eq_true_eq]; exact firstIdx_neg p xs 0), hb⟩

theorem eg_vars1 : ∀ args w, (callFunc 176 args).run Tryz.prog w = .ok (.enter 176 args) w := fun _ _ => by kernel_rfl
/-- the program lies in a box of its own. -/
def FnBox (w : World) (c : Value) (fv : Value) : Prop := ∃ b x y z, c = .pointer (some ⟨b, 0, none⟩) ∧ fv = .agg #[x, y, z] ∧ b < w.heap.size ∧ w.cell? ⟨b, 0, none⟩ = some x ∧ w.cell? ⟨b, 1, none⟩ = some y ∧ w.cell? ⟨b, 2, none⟩ = some z
theorem FnBox.later {w w' : World} {c fv : Value} (h : FnBox w c fv) (hb : Below w.heap.size w w') : FnBox w' c fv := by
  obtain ⟨b, x, y, z, hc, hf, hl, h0, h1, h2⟩ := h
  exact ⟨b, x, y, z, hc, hf, by have := hb.size; omega, (hb.cell (p := ⟨b, 0, none⟩) hl).trans h0, (hb.cell (p := ⟨b, 1, none⟩) hl).trans h1, (hb.cell (p := ⟨b, 2, none⟩) hl).trans h2⟩
theorem vars1_calls {W w : World} {fv c : Value} {F : PFunc} (hF : FnV W W.heap.size fv F) (hc : FnBox w c fv) (v : Int) :
    Calls Tryz.prog 176 #[.int .i64 v, c] w fun e w' => e = .returned (.bool (!inB v F.vars.length)) ∧ Below w.heap.size w w' := by
  obtain ⟨b, x, y, z, rfl, rfl, hl, h0, h1, h2⟩ := hc
  go_enter Tryz.func176, Tryz.ntmps176
  go_wp2_with (go_at_call 164; refine (has_calls hF v).mono ?_; rintro e w1 ⟨rfl, hb⟩)
  go_ret
  exact ⟨rfl, hb⟩
theorem FnBox.new (w : World) (x y z : Value) (t : TypeId) : FnBox (w.alloc (.cells #[x, y, z] t)) (.pointer (some ⟨w.heap.size, 0, none⟩)) (.agg #[x, y, z]) := by
  have hg := heap_alloc_new w (.cells #[x, y, z] t)
  exact ⟨w.heap.size, x, y, z, rfl, rfl, by simp, cell_of_row _ _ 0 _ _ _ hg, cell_of_row _ _ 1 _ _ _ hg, cell_of_row _ _ 2 _ _ _ hg⟩
theorem pred_vars1 {W w : World} {fv c : Value} {F : PFunc} (hF : FnV W W.heap.size fv F) (hc : FnBox w c fv) (xs : List Int) : PredI w 176 c xs (fun v => !inB v F.vars.length) :=
  fun x _ _ hb => vars1_calls hF (hc.later hb) x
def varsB (F : PFunc) (l : List Int) : Bool := l.all fun v => inB v F.vars.length
theorem vars_calls {W w : World} {fv : Value} {F : PFunc} (hF : FnV W W.heap.size fv F) (hW : Below W.heap.size W w) {A : Option Addr} {c0 : Nat} {xs : List Int} (hr : Rd W.heap.size A xs 1 (IntC W)) (hl : Len xs.length) :
    Calls Tryz.prog 165 #[fv, .slice A xs.length c0] w fun e w' => e = .returned (.bool (varsB F xs)) ∧ Below w.heap.size w w' := by
  obtain ⟨A0, c0', A1, c1, A2, c2, rfl, -⟩ := hF.open_
  go_enter Tryz.func165, Tryz.ntmps165
  go_wp2_with (go_at_call 99; refine (containsI_calls hr hl (by (focus repeat (first | assumption | exact Below.refl _ _ | refine Below.drew ?_ | refine Below.alloc ?_ (by first | omega | exact Below.size (by assumption) | (simp; done) | (simp; omega)) _ | refine Below.setCell ?_ (by first | omega | exact Below.size (by assumption) | (simp; done) | (simp; omega)) _ | refine below_setRow ?_ (by first | omega | exact Below.size (by assumption) | (simp; done) | (simp; omega)) _ | (refine Below.trans ?_ (Below.mono (by assumption) ?_); rotate_left; exact (by first | omega | exact Below.size (by assumption) | (simp; done) | (simp; omega)))))) _ _ _ eg_vars1 (pred_vars1 hF (FnBox.new _ _ _ _ _) xs)).mono ?_; rintro e w1 ⟨rfl, hb⟩)
  go_ret
  exact ⟨ret_bool (by simp [varsB, List.all_eq_not_any_not]), by (focus repeat (first | assumption | exact Below.refl _ _ | refine Below.drew ?_ | refine Below.alloc ?_ (by first | omega | exact Below.size (by assumption) | (simp; done) | (simp; omega)) _ | refine Below.setCell ?_ (by first | omega | exact Below.size (by assumption) | (simp; done) | (simp; omega)) _ | refine below_setRow ?_ (by first | omega | exact Below.size (by assumption) | (simp; done) | (simp; omega)) _ | (refine Below.trans ?_ (Below.mono (by assumption) ?_); rotate_left; exact (by first | omega | exact Below.size (by assumption) | (simp; done) | (simp; omega)))))⟩
end Go.Proofs.YteajnaabbddohaaGreatDoor
