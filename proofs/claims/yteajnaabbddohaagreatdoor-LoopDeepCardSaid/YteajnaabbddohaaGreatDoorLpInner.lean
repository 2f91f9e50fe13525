/- The walk of (*Nest).Inner: the head of the smallest loop in which a block is. -/
import Derived.Test.YteajnaabbddohaaGreatDoorLpDpP
namespace Go.Proofs.YteajnaabbddohaaGreatDoor
open Go.RowKit
set_option maxRecDepth 100000

/-- the innermost so far, in two numbers. -/
def InnR (st : Option (Nat × Nat)) (bh bz : Nat) : Prop := match st with
  | none => bh = 0 ∧ bz = 0
  | some p => p = (bz, bh) ∧ 0 < bz
section
variable {f : Nat → Bool} {sz : Nat → Nat} {st : Option (Nat × Nat)} {bh bz a : Nat}
theorem InnR.no (h : InnR st bh bz) (hf : f a = false) : InnR (innS f sz st a) bh bz := by
  unfold innS
  rw [if_neg (by rw [hf]; simp)]
  exact h
theorem InnR.first (h : InnR st bh bz) (hf : f a = true) (hz : bz = 0) (hs : 0 < sz a) : InnR (innS f sz st a) a (sz a) := by
  unfold innS
  rw [if_pos hf]
  cases st with
  | none => exact ⟨rfl, hs⟩
  | some p =>
    have := h.2
    omega
theorem InnR.less (h : InnR st bh bz) (hf : f a = true) (hz : bz ≠ 0) (hl : sz a < bz) (hs : 0 < sz a) : InnR (innS f sz st a) a (sz a) := by
  unfold innS
  rw [if_pos hf]
  cases st with
  | none => exact absurd h.2 hz
  | some p =>
    obtain ⟨rfl, _⟩ := h
    show InnR (if sz a < bz then some (sz a, a) else some (bz, bh)) _ _
    rw [if_pos hl]
    exact ⟨rfl, hs⟩
theorem InnR.more (h : InnR st bh bz) (hf : f a = true) (hz : bz ≠ 0) (hl : ¬ sz a < bz) : InnR (innS f sz st a) bh bz := by
  unfold innS
  rw [if_pos hf]
  cases st with
  | none => exact absurd h.2 hz
  | some p =>
    obtain ⟨rfl, h2⟩ := h
    show InnR (if sz a < bz then some (sz a, a) else some (bz, bh)) _ _
    rw [if_neg hl]
    exact ⟨rfl, h2⟩
end
set_option maxHeartbeats 4000000 in
theorem ninner_calls {w : World} {nv : Value} {l : List Nat} {b : Int} {f : Nat → Bool} {sz : Nat → Nat} (hH : HeadsC w nv l) (hl : l.length ≤ 64)
    (hO : ∀ h ∈ l, ∀ W, Below w.heap.size w W → Calls Tryz.prog 48 #[nv, .int .i64 (h : Int)] W fun e W' => ∃ A0 n0 c0 A1 n1 c1, e = .returned (.tuple #[.agg #[.slice A0 n0 c0, .slice A1 n1 c1, .int .i64 (sz h : Nat)], .bool true]) ∧ Below W.heap.size W W')
    (hI : ∀ h ∈ l, ∀ W, Below w.heap.size w W → Calls Tryz.prog 16 #[nv, .int .i64 (h : Int), .int .i64 b] W fun e W' => e = .returned (.bool (f h)) ∧ Below W.heap.size W W')
    (hs : ∀ h ∈ l, 0 < sz h) :
    Calls Tryz.prog 29 #[nv, .int .i64 b] w fun e w' => ∃ bh bz : Nat, e = .returned (.tuple #[.int .i64 bh, .bool (decide (0 < bz))]) ∧ InnR (innF f sz l) bh bz ∧ Below w.heap.size w w' := by
  have hh := hH w (Below.refl _ _)
  have HI := Lib.hid hI
  have HO := Lib.hid hO
  have HS := Lib.hid hs
  clear hH hI hO hs
  go_enter Tryz.func29, Tryz.ntmps29
  go_wp2_with fail
  refine hh.mono ?_
  rintro e w1 ⟨v, rfl, ho, hb1⟩
  obtain ⟨Av, cv, rfl⟩ := own_form ho
  have HR := Lib.hid ho
  have HB1 := Lib.hid hb1
  clear ho hb1 hh
  go_wp2
  go_loopw [15, 6, 7] (fun x x6 x7 wr => ∃ i bh bz : Nat, x = .int .i64 i ∧ x6 = .int .i64 bh ∧ x7 = .int .i64 bz ∧ i ≤ l.length ∧ Hid (InnR (innF f sz (l.take i)) bh bz) ∧ Below w1.heap.size w1 wr) (fun x _ _ _ => l.length - (intOf x).toNat)
  case atStart => exact ⟨0, 0, 0, rfl, rfl, rfl, Nat.zero_le _, ⟨rfl, rfl⟩, Below.refl _ _⟩
  case round => as_aux_lemma =>
    obtain ⟨i, bh, bz, rfl, rfl, rfl, hi, HN, hb⟩ := hrel
    by_cases hlt : i < l.length
    · obtain ⟨a, hai⟩ : ∃ a, l[i]? = some a := ⟨_, List.getElem?_eq_getElem hlt⟩
      have ham := List.mem_of_getElem? hai
      have ho := own_below HR.out hb
      obtain ⟨gh, ch', hvh, hghl, -⟩ := own_pos ho (by omega)
      cases hvh
      have hca := ho.cellAt i (by omega)
      rw [show ((ints l).map (Value.int .i64))[i]? = some (.int .i64 (a : Int)) by simp [ints, hai]] at hca
      have hbw := HB1.out.trans (hb.mono HB1.out.size)
      have hof := HO.out a ham wr hbw
      have hin := fun (W : World) (hW : Below wr.heap.size wr W) => HI.out a ham W (hbw.trans (hW.mono hbw.size))
      have hst : innF f sz (l.take (i + 1)) = innS f sz (innF f sz (l.take i)) a := by
        rw [List.take_add_one, hai]
        exact innF_snoc
      have HST := Lib.hid hst
      have HSZ := Lib.hid (HS.out a ham)
      have HB := Lib.hid hb
      obtain ⟨z, hz⟩ : ∃ z, f a = z := ⟨_, rfl⟩
      rw [hz] at hin
      have HZ := Lib.hid hz
      obtain ⟨s, hs⟩ : ∃ s, sz a = s := ⟨_, rfl⟩
      rw [hs] at hof
      have HSS := Lib.hid hs
      clear ho hb hst hai hbw hz hs ham
      cases z
      case false =>
        as_aux_lemma =>
        go_wp2_with fail
        refine hof.mono ?_
        rintro e w8 ⟨A0, n0, c0, A1, n1, c1, rfl, hb8⟩
        go_wp2_with fail
        refine (hin _ (by (focus repeat (first | assumption | exact Below.refl _ _ | refine Below.drew ?_ | refine Below.alloc ?_ (by first | omega | exact Below.size (by assumption) | (simp; done) | (simp; omega)) _ | refine Below.setCell ?_ (by first | omega | exact Below.size (by assumption) | (simp; done) | (simp; omega)) _ | refine below_setRow ?_ (by first | omega | exact Below.size (by assumption) | (simp; done) | (simp; omega)) _ | (refine Below.trans ?_ (Below.mono (by assumption) ?_); rotate_left; exact (by first | omega | exact Below.size (by assumption) | (simp; done) | (simp; omega))))))).mono ?_
        rintro e w9 ⟨rfl, hb9⟩
        have hb89 : Below wr.heap.size wr w9 := (hb8.alloc hb8.size _).trans (hb9.mono (by have := hb8.size; simp; omega))
        go_wp2
        go_roundw
        case rel => exact ⟨i + 1, bh, bz, by go_num, rfl, rfl, by omega, by show InnR _ _ _; rw [HST.out]; exact HN.out.no HZ.out, HB.out.trans (hb89.mono HB.out.size)⟩
        case measure => simp [intOf]; omega
      case true =>
        have hcase : ((bz : Int) == 0) = true ∧ bz = 0 ∨ ((bz : Int) == 0) = false ∧ bz ≠ 0 ∧ ((s : Int) < (bz : Int) ∨ decide ((s : Int) < (bz : Int)) = false) := by
          by_cases e : bz = 0
          · exact .inl ⟨by simp [e], e⟩
          · refine .inr ⟨by rw [beq_eq_false_iff_ne]; omega, e, ?_⟩
            by_cases e2 : (s : Int) < (bz : Int)
            · exact .inl e2
            · exact .inr (decide_eq_false e2)
        rcases hcase with ⟨e1, e2⟩ | ⟨e1, e2, e3 | e3⟩
        · as_aux_lemma =>
          have HE := Lib.hid e2
          clear e2
          go_wp2_with fail
          refine hof.mono ?_
          rintro e w8 ⟨A0, n0, c0, A1, n1, c1, rfl, hb8⟩
          have hbx := (Below.refl (w8.alloc (.cells #[.slice A0 n0 c0, .slice A1 n1 c1, .int .i64 (s : Int)] 92)).heap.size (w8.alloc (.cells #[.slice A0 n0 c0, .slice A1 n1 c1, .int .i64 (s : Int)] 92)))
          go_wp2_with fail
          refine (hin _ (by (focus repeat (first | assumption | exact Below.refl _ _ | refine Below.drew ?_ | refine Below.alloc ?_ (by first | omega | exact Below.size (by assumption) | (simp; done) | (simp; omega)) _ | refine Below.setCell ?_ (by first | omega | exact Below.size (by assumption) | (simp; done) | (simp; omega)) _ | refine below_setRow ?_ (by first | omega | exact Below.size (by assumption) | (simp; done) | (simp; omega)) _ | (refine Below.trans ?_ (Below.mono (by assumption) ?_); rotate_left; exact (by first | omega | exact Below.size (by assumption) | (simp; done) | (simp; omega))))))).mono ?_
          rintro e w9 ⟨rfl, hb9⟩
          have hb89 : Below wr.heap.size wr w9 := (hb8.alloc hb8.size _).trans (hb9.mono (by have := hb8.size; simp; omega))
          obtain ⟨hc9, hf9⟩ := bcell hb9
          have hz9 := hb9.size
          simp at hz9
          go_wp2
          go_quiet (fail)
          go_wp2
          go_roundw
          case rel => exact ⟨i + 1, a, s, by go_num, rfl, rfl, by omega, by show InnR _ _ _; rw [HST.out, ← HSS.out]; exact HN.out.first HZ.out HE.out HSZ.out, bdrewM (HB.out.trans (hb89.mono HB.out.size)) _⟩
          case measure => simp [intOf]; omega
        · as_aux_lemma =>
          have HE := Lib.hid e2
          clear e2
          go_wp2_with fail
          refine hof.mono ?_
          rintro e w8 ⟨A0, n0, c0, A1, n1, c1, rfl, hb8⟩
          go_wp2_with fail
          refine (hin _ (by (focus repeat (first | assumption | exact Below.refl _ _ | refine Below.drew ?_ | refine Below.alloc ?_ (by first | omega | exact Below.size (by assumption) | (simp; done) | (simp; omega)) _ | refine Below.setCell ?_ (by first | omega | exact Below.size (by assumption) | (simp; done) | (simp; omega)) _ | refine below_setRow ?_ (by first | omega | exact Below.size (by assumption) | (simp; done) | (simp; omega)) _ | (refine Below.trans ?_ (Below.mono (by assumption) ?_); rotate_left; exact (by first | omega | exact Below.size (by assumption) | (simp; done) | (simp; omega))))))).mono ?_
          rintro e w9 ⟨rfl, hb9⟩
          have hb89 : Below wr.heap.size wr w9 := (hb8.alloc hb8.size _).trans (hb9.mono (by have := hb8.size; simp; omega))
          obtain ⟨hc9, hf9⟩ := bcell hb9
          have hz9 := hb9.size
          simp at hz9
          go_wp2
          go_quiet (fail)
          go_wp2
          go_roundw
          case rel => exact ⟨i + 1, a, s, by go_num, rfl, rfl, by omega, by show InnR _ _ _; rw [HST.out, ← HSS.out]; exact HN.out.less HZ.out HE.out (by rw [HSS.out]; omega) HSZ.out, bdrewM (HB.out.trans (hb89.mono HB.out.size)) _⟩
          case measure => simp [intOf]; omega
        · as_aux_lemma =>
          have HE := Lib.hid e2
          have HE3 := Lib.hid (of_decide_eq_false e3)
          have e4 : decide (s < bz) = false := decide_eq_false (by have := of_decide_eq_false e3; omega)
          have e5 : ¬ s < bz := of_decide_eq_false e4
          clear e2
          go_wp2_with fail
          refine hof.mono ?_
          rintro e w8 ⟨A0, n0, c0, A1, n1, c1, rfl, hb8⟩
          go_wp2_with fail
          refine (hin _ (by (focus repeat (first | assumption | exact Below.refl _ _ | refine Below.drew ?_ | refine Below.alloc ?_ (by first | omega | exact Below.size (by assumption) | (simp; done) | (simp; omega)) _ | refine Below.setCell ?_ (by first | omega | exact Below.size (by assumption) | (simp; done) | (simp; omega)) _ | refine below_setRow ?_ (by first | omega | exact Below.size (by assumption) | (simp; done) | (simp; omega)) _ | (refine Below.trans ?_ (Below.mono (by assumption) ?_); rotate_left; exact (by first | omega | exact Below.size (by assumption) | (simp; done) | (simp; omega))))))).mono ?_
          rintro e w9 ⟨rfl, hb9⟩
          have hb89 : Below wr.heap.size wr w9 := (hb8.alloc hb8.size _).trans (hb9.mono (by have := hb8.size; simp; omega))
          obtain ⟨hc9, hf9⟩ := bcell hb9
          have hz9 := hb9.size
          simp at hz9
          go_wp2
          go_roundw
          case rel => exact ⟨i + 1, bh, bz, by go_num, rfl, rfl, by omega, by show InnR _ _ _; rw [HST.out]; exact HN.out.more HZ.out HE.out (by rw [HSS.out]; have := HE3.out; omega), HB.out.trans (hb89.mono HB.out.size)⟩
          case measure => simp [intOf]; omega
    · obtain rfl : i = l.length := by omega
      rw [List.take_length] at HN
      have HB := Lib.hid hb
      clear hb
      go_wp2
      go_ret2
      exact ⟨bh, bz, rfl, HN.out, HB1.out.trans (HB.out.mono HB1.out.size)⟩
end Go.Proofs.YteajnaabbddohaaGreatDoor
