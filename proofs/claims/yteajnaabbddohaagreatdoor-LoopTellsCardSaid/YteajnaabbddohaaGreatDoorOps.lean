/- The walks of package ops, as far as programs are looked at: what an operation takes and makes. -/
import Derived.Test.YteajnaabbddohaaGreatDoorName
import Derived.Test.YteajnaabbddohaaGreatDoorLeaf
import Derived.Test.YteajnaabbddohaaGreatDoorTab
import Derived.Test.YteajnaabbddohaaGreatDoorOwn
namespace Go.Proofs.YteajnaabbddohaaGreatDoor
open Go.RowKit

def isOp (op : Int) : Bool := inB op 27
def bs (l : List UInt8) : ByteArray := ⟨l.toArray⟩
theorem index_kinds : ∀ n, n < 27 → ∀ w, (Instr.index 219 (.agg kindsArr) (.int .i64 (n : Nat))).run Tryz.prog w = .ok (.agg #[.string (bs (kindAt n).1), .string (bs (kindAt n).2.1), .string (bs (kindAt n).2.2)]) w := by
  intro n q
  iterate 27 (refine (Nat.lt_succ_iff_lt_or_eq.1 q).elim ?_ (by rintro rfl; intro w; kernel_rfl); clear q; intro q)
  exact absurd q (Nat.not_lt_zero _)

theorem is_calls {w : World} (op : Int) : Calls Tryz.prog 177 #[.int .i64 op] w fun e w' => e = .returned (.bool (isOp op)) ∧ w = w' := by
  by_cases h0 : 0 ≤ op
  all_goals
    go_enter Tryz.func177, Tryz.ntmps177
    go_wp2
    go_ret
    exact ⟨ret_bool' (by simp [isOp, inB] <;> omega), rfl⟩
def kindOf (op : Int) : List UInt8 × List UInt8 × List UInt8 := if isOp op then kindAt op.toNat else ([], [], [])
def wordOf (op : Int) : ByteArray := bs (kindOf op).1
theorem kindOf_yes {op : Int} (h : isOp op = true) : kindOf op = kindAt op.toNat := by simp [kindOf, h]
theorem kindOf_no {op : Int} (h : isOp op = false) : kindOf op = ([], [], []) := by simp [kindOf, h]
set_option maxRecDepth 100000 in
theorem of2_calls {w : World} (op : Int) : Calls Tryz.prog 170 #[.int .i64 op] w fun e w' => e = .returned (.agg #[.string (bs (kindOf op).1), .string (bs (kindOf op).2.1), .string (bs (kindOf op).2.2)]) ∧ Below w.heap.size w w' := by
  cases hi : isOp op
  · have hs := fun w => is_calls (w := w) op
    rw [hi] at hs
    rw [kindOf_no hi]
    go_enter Tryz.func170, Tryz.ntmps170
    go_wp2_with (go_at_call 177; refine (hs _).mono ?_; rintro e w1 ⟨rfl, rfl⟩)
    exact bodyPost_ret (v := .agg #[.string (bs []), .string (bs []), .string (bs [])]) (by simp [results, Tryz.results170, go_sem, bs]) rfl ⟨rfl, by (focus repeat (first | assumption | exact Below.refl _ _ | refine Below.drew ?_ | refine Below.alloc ?_ (by first | omega | exact Below.size (by assumption) | (simp; done) | (simp; omega)) _ | refine Below.setCell ?_ (by first | omega | exact Below.size (by assumption) | (simp; done) | (simp; omega)) _ | refine below_setRow ?_ (by first | omega | exact Below.size (by assumption) | (simp; done) | (simp; omega)) _ | (refine Below.trans ?_ (Below.mono (by assumption) ?_); rotate_left; exact (by first | omega | exact Below.size (by assumption) | (simp; done) | (simp; omega)))))⟩
  · have hs := fun w => is_calls (w := w) op
    rw [hi] at hs
    rw [kindOf_yes hi]
    obtain ⟨n, rfl⟩ := Int.eq_ofNat_of_zero_le (inB_true hi).1
    rw [Int.toNat_natCast]
    have hn : n < 27 := by have := (inB_true hi).2; omega
    have hix := index_kinds n hn
    clear hi
    generalize bs (kindAt n).1 = a at *
    generalize bs (kindAt n).2.1 = b at *
    generalize bs (kindAt n).2.2 = c at *
    go_enter Tryz.func170, Tryz.ntmps170
    go_wp2_with (first | (go_at_call 177; refine (hs _).mono ?_; rintro e w1 ⟨rfl, rfl⟩) | (go_at_call 178; refine kinds_calls.mono ?_; (rintro e w2 ⟨rfl, hb2⟩; obtain ⟨hc2, hf2⟩ := bcell hb2; have hz2 := hb2.size; try simp at hz2; try have hy2 := Nat.lt_of_succ_le hz2; try have hx2 := Nat.lt_of_succ_lt hy2; try have hw2 := Nat.lt_of_succ_lt hx2)))
    exact bodyPost_ret (v := .agg #[.string a, .string b, .string c]) (by simp [results, Tryz.results170, go_sem, hc2]) rfl ⟨rfl, by (focus repeat (first | assumption | exact Below.refl _ _ | refine Below.drew ?_ | refine Below.alloc ?_ (by first | omega | exact Below.size (by assumption) | (simp; done) | (simp; omega)) _ | refine Below.setCell ?_ (by first | omega | exact Below.size (by assumption) | (simp; done) | (simp; omega)) _ | refine below_setRow ?_ (by first | omega | exact Below.size (by assumption) | (simp; done) | (simp; omega)) _ | (refine Below.trans ?_ (Below.mono (by assumption) ?_); rotate_left; exact (by first | omega | exact Below.size (by assumption) | (simp; done) | (simp; omega)))))⟩

def typOf (c : Int) : Int := if c = 98 then 1 else if c = 97 then 2 else 0
theorem typed2_calls {w : World} (c : Int) : Calls Tryz.prog 171 #[.int .i32 c] w fun e w' => e = .returned (.int .i64 (typOf c)) ∧ w = w' := by
  by_cases h0 : c = 98
  · subst h0
    go_enter Tryz.func171, Tryz.ntmps171
    go_wp2
    go_ret
    exact ⟨rfl, rfl⟩
  · by_cases h1 : c = 97
    · subst h1
      go_enter Tryz.func171, Tryz.ntmps171
      go_wp2
      go_ret
      exact ⟨rfl, rfl⟩
    · rw [show typOf c = 0 by simp [typOf, h0, h1]]
      go_enter Tryz.func171, Tryz.ntmps171
      go_wp2
      go_ret
      exact ⟨rfl, rfl⟩
theorem kind_f0 (a b c : ByteArray) (w : World) : (Instr.field 211 (.agg #[.string a, .string b, .string c]) 0).run Tryz.prog w = .ok (.string a) w := by kernel_rfl
theorem kind_f1 (a b c : ByteArray) (w : World) : (Instr.field 211 (.agg #[.string a, .string b, .string c]) 1).run Tryz.prog w = .ok (.string b) w := by kernel_rfl
theorem kind_f2 (a b c : ByteArray) (w : World) : (Instr.field 211 (.agg #[.string a, .string b, .string c]) 2).run Tryz.prog w = .ok (.string c) w := by kernel_rfl
theorem word_calls {w : World} (op : Int) : Calls Tryz.prog 168 #[.int .i64 op] w fun e w' => e = .returned (.string (wordOf op)) ∧ Below w.heap.size w w' := by
  have hk := of2_calls (w := w) op
  unfold wordOf
  generalize bs (kindOf op).1 = a at *
  generalize bs (kindOf op).2.1 = b at *
  generalize bs (kindOf op).2.2 = c at *
  have hf0 := kind_f0 a b c
  go_enter Tryz.func168, Tryz.ntmps168
  go_wp2_with (go_at_call 170; refine hk.mono ?_; rintro e w1 ⟨rfl, hb⟩)
  go_ret
  exact ⟨rfl, hb⟩
theorem any_calls {w : World} (op : Int) : Calls Tryz.prog 148 #[.int .i64 op] w fun e w' => e = .returned (.bool (decide (op = 1))) ∧ w = w' := by
  go_enter Tryz.func148, Tryz.ntmps148
  go_wp2
  go_ret
  exact ⟨ret_bool' (by simp), rfl⟩
theorem numbered_calls {w : World} (op : Int) : Calls Tryz.prog 169 #[.int .i64 op] w fun e w' => e = .returned (.bool (decide (op = 0 ∨ op = 25))) ∧ w = w' := by
  by_cases h0 : op = 0
  all_goals
    go_enter Tryz.func169, Tryz.ntmps169
    go_wp2
    go_ret
    exact ⟨ret_bool' (by simp [h0]), rfl⟩
def typeWord (t : Int) : ByteArray := bs (if t = 0 then [105, 110, 116] else if t = 1 then [98, 111, 111, 108] else if t = 2 then [97, 114, 114] else [])
theorem typeWord_calls {w : World} (t : Int) : Calls Tryz.prog 161 #[.int .i64 t] w fun e w' => e = .returned (.string (typeWord t)) ∧ w = w' := by
  by_cases h0 : t = 0
  · subst h0
    go_enter Tryz.func161, Tryz.ntmps161
    go_wp2
    go_ret
    exact ⟨rfl, rfl⟩
  · by_cases h1 : t = 1
    · subst h1
      go_enter Tryz.func161, Tryz.ntmps161
      go_wp2
      go_ret
      exact ⟨rfl, rfl⟩
    · by_cases h2 : t = 2
      · subst h2
        go_enter Tryz.func161, Tryz.ntmps161
        go_wp2
        go_ret
        exact ⟨rfl, rfl⟩
      · have hw : typeWord t = ByteArray.empty := by simp only [typeWord, if_neg h0, if_neg h1, if_neg h2]; rfl
        rw [hw]
        go_enter Tryz.func161, Tryz.ntmps161
        go_wp2
        go_ret
        exact ⟨rfl, rfl⟩

def takesOf (op : Int) : List Int := (runes (bs (kindOf op).2.1)).map typOf
def makesOf (op : Int) : List Int := (runes (bs (kindOf op).2.2)).map typOf
theorem kindOf_small (op : Int) : (bs (kindOf op).2.1).size ≤ 3 ∧ (bs (kindOf op).2.2).size ≤ 1 := by
  have key : ∀ n, n < 27 → (kindAt n).2.1.length ≤ 3 ∧ (kindAt n).2.2.length ≤ 1 := by decide
  cases hi : isOp op
  · rw [kindOf_no hi]; decide
  · rw [kindOf_yes hi]
    have := inB_true hi
    exact key op.toNat (by omega)
theorem Tryz.info81 : (Tryz.prog.info? 81).map (fun i => (i.zero, i.size, i.bytes)) = some (some (.int .i64 0), 1, 8) := by kernel_rfl

set_option maxRecDepth 100000 in
set_option maxHeartbeats 400000 in
theorem takes_calls {w : World} (op : Int) : Calls Tryz.prog 149 #[.int .i64 op] w (RetInts w (takesOf op)) := by
  have hk := of2_calls (w := w) op
  unfold takesOf
  have hs := (kindOf_small op).1
  generalize bs (kindOf op).1 = sa at *
  generalize bs (kindOf op).2.1 = s at *
  generalize bs (kindOf op).2.2 = sc at *
  have hf1 := kind_f1 sa s sc
  go_enter Tryz.func149, Tryz.ntmps149
  go_wp2_with (go_at_call 170; refine hk.mono ?_; rintro e w1 ⟨rfl, hb⟩)
  clear hf1
  go_loopw [3] (fun v wr => ∃ (pos f : Nat) (pre : List Int), wr.ownsRow (w1.heap.size + 1) 81 1 v pre.length (pre.map (Value.int .i64)) ∧ wr.heap[w1.heap.size]? = some (.stringIter s pos) ∧ Below w1.heap.size w1 wr ∧ Hid ((runes s).map typOf = pre ++ (runesFrom s f pos).map typOf) ∧ s.size ≤ pos + f ∧ pre.length ≤ pos ∧ pre.length ≤ s.size) (fun _ wr => s.size - wr.iterPos w1.heap.size)
  case atStart => exact ⟨0, s.size, [], ⟨rfl, .inl ⟨rfl, rfl⟩⟩, World.iter_heap _ _ _, (Below.refl _ _).alloc (Nat.le_refl _) _, by simp [Hid, runes], by omega, by simp, by simp⟩
  case round =>
    obtain ⟨pos, f, pre, hown, hit, hb1, hr, hf, hp, hp2⟩ := hrel
    have hsz3 : w1.heap.size < wr.heap.size := (Array.getElem?_eq_some_iff.1 hit).1
    by_cases hlt : pos < s.size
    · have hnx : ∀ ty, (Instr.next (.pointer (some ⟨w1.heap.size, 0, none⟩)) true ty).run Tryz.prog wr = _ := fun ty => Lib.run_next_any_at wr w1.heap.size s pos ty hit hlt
      obtain ⟨f', rfl, hf', he⟩ := runesFrom_cons hf hlt
      have HE := Lib.hid he
      have hw1 := Lib.decode_width_pos s pos hlt
      clear he
      have hit1 := Lib.hid (Lib.iterAt_heap wr w1.heap.size s pos (pos + (Utf8.decode s pos).2) hit)
      have hb2 := Lib.below_iterAt hb1 (Nat.le_refl w1.heap.size) s (pos + (Utf8.decode s pos).2)
      have hown1 := ownsRow_iterAt hown (k := w1.heap.size) (by omega) s (pos + (Utf8.decode s pos).2)
      have hsz := Lib.iterAt_size wr w1.heap.size s (pos + (Utf8.decode s pos).2)
      go_wp2_with (first
        | (go_at_call 171; refine (typed2_calls _).mono ?_; rintro e w2 ⟨rfl, rfl⟩)
        | (at_builtin; go_loud (refine wpList_append1 _ rfl _ _ 190 rfl (w1.heap.size + 1) 81 8 Tryz.underlying190 Tryz.info81 rfl _ _ _ rfl hown1 _ hsz _ rfl rfl (by omega) (by decide) (by omega) ?_); intro v' w3 hown2 hg))
      go_roundw
      case rel => exact ⟨_, f', pre ++ [typOf ((Utf8.decode s pos).1 : Int)], by simpa using hown2, (grown_kept hown1 hg (by omega) (by rw [hsz]; omega)).trans hit1.out, grown_below hown1 hg hb2 (by omega) (by rw [hsz]; omega), by unfold Hid; rw [hr.out, HE.out]; simp, hf', by simp; omega, by simp; omega⟩
      case measure => rw [iterPos_of ((grown_kept hown1 hg (k := w1.heap.size) (by omega) (by rw [hsz]; omega)).trans hit1.out), iterPos_of hit]; omega
    · have hnx : ∀ ty, (Instr.next (.pointer (some ⟨w1.heap.size, 0, none⟩)) true ty).run Tryz.prog wr = _ := fun ty => Lib.run_next_end_at wr w1.heap.size s pos ty hit hlt
      have he := runesFrom_end (f := f) hlt
      have HX := Lib.hid (show (runes s).map typOf = pre by rw [hr.out, he]; simp)
      clear he
      go_wp2
      go_ret
      rw [HX.out]
      exact RetInts.of_own hown (by omega) (hb.trans (hb1.mono hb.size))

/-- two results: what is made, and whether. -/
def makesT (op : Int) : Int := (makesOf op).headD 0
def makesB (op : Int) : Bool := !(makesOf op).isEmpty
set_option maxRecDepth 100000 in
set_option maxHeartbeats 400000 in
theorem makes_calls {w : World} (op : Int) : Calls Tryz.prog 150 #[.int .i64 op] w fun e w' => e = .returned (.tuple #[.int .i64 (makesT op), .bool (makesB op)]) ∧ Below w.heap.size w w' := by
  have hk := of2_calls (w := w) op
  unfold makesT makesB makesOf
  have hs := (kindOf_small op).2
  generalize bs (kindOf op).1 = sa at *
  generalize bs (kindOf op).2.1 = sb at *
  generalize bs (kindOf op).2.2 = s at *
  have hf2 := kind_f2 sa sb s
  have hr : runes s = runesFrom s s.size 0 := rfl
  by_cases hlt : 0 < s.size
  · obtain ⟨f', _, hf', he⟩ := runesFrom_cons (f := s.size) (pos := 0) (by omega) hlt
    have HE := Lib.hid (hr.trans he)
    clear he hr
    have hnx : ∀ (w1 : World) ty, (Instr.next (.pointer (some ⟨w1.heap.size, 0, none⟩)) true ty).run Tryz.prog (w1.iter s 0) = _ := fun w1 ty => run_next_any w1 s 0 ty hlt
    go_enter Tryz.func150, Tryz.ntmps150
    go_wp2_with (go_at_call 170; refine hk.mono ?_; rintro e w1 ⟨rfl, hb⟩)
    refine wp_loop_once ?_
    go_wp2_with (go_at_call 171; refine (typed2_calls _).mono ?_; rintro e w2 ⟨rfl, rfl⟩)
    go_ret2
    rw [HE.out]
    exact ⟨by simp, hb.trans ((Below.refl _ _).alloc (Nat.le_refl _) _ |>.mono hb.size)⟩
  · have he := runesFrom_end (s := s) (f := s.size) (pos := 0) hlt
    have HE := Lib.hid (hr.trans he)
    clear he hr
    have hnx : ∀ (w1 : World) ty, (Instr.next (.pointer (some ⟨w1.heap.size, 0, none⟩)) true ty).run Tryz.prog (w1.iter s 0) = _ := fun w1 ty => run_next_end w1 s 0 ty hlt
    go_enter Tryz.func150, Tryz.ntmps150
    go_wp2_with (go_at_call 170; refine hk.mono ?_; rintro e w1 ⟨rfl, hb⟩)
    refine wp_loop_once ?_
    go_wp2
    go_ret2
    rw [HE.out]
    exact ⟨by simp, hb.trans ((Below.refl _ _).alloc (Nat.le_refl _) _ |>.mono hb.size)⟩
end Go.Proofs.YteajnaabbddohaaGreatDoor
