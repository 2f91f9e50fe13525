/- The reference's From: to which blocks ways go. -/
import Derived.Test.YtenedeaiepjedaaDoorWayA
import Derived.Test.YtenedeaiepjedaaDoorRefR
namespace Go.Proofs.YtenedeaiepjedaaDoor
open Go.RowKit
set_option maxRecDepth 100000

/-- one step that comes neither from nor to the block r. -/
def RF (F : PFunc) (r : Int) (x y : Nat) : Prop := x < F.blocks.length ∧ y < F.blocks.length ∧ (x : Int) ≠ r ∧ (y : Int) ≠ r ∧ leads (F.blk x).term (y : Int) = true
/-- before block x, in a round that began with the marks t. -/
def Mid (R : Nat → Nat → Prop) (a : Nat) (t : List Bool) (x : Nat) (t' : List Bool) (m : Bool) : Prop :=
  (m = false → t' = t ∧ ∀ x' y, x' < x → (x' = a ∨ t.getD x' false = true) → R x' y → t.getD y false = true) ∧ (m = true → left t' < left t)
def Inn (R : Nat → Nat → Prop) (a : Nat) (t : List Bool) (x y : Nat) (t' : List Bool) (m : Bool) : Prop :=
  (x = a ∨ t'.getD x false = true) ∧ (m = false → t' = t ∧ (∀ x' y, x' < x → (x' = a ∨ t.getD x' false = true) → R x' y → t.getD y false = true) ∧ ∀ y', y' < y → R x y' → t.getD y' false = true) ∧ (m = true → left t' < left t)
section
variable {R : Nat → Nat → Prop} {n a x y : Nat} {t t' : List Bool} {m : Bool}
theorem Mid.start : Mid R a t 0 t false := ⟨fun _ => ⟨rfl, fun x' y h => absurd h (Nat.not_lt_zero _)⟩, fun h => by cases h⟩
theorem Mid.skip (h : Mid R a t x t' m) (hn : ∀ y, (x = a ∨ t'.getD x false = true) → R x y → False) : Mid R a t (x + 1) t' m := by
  refine ⟨fun hm => ?_, h.2⟩
  obtain ⟨rfl, h1⟩ := h.1 hm
  refine ⟨rfl, fun x' y hx hy hr => ?_⟩
  rcases Nat.lt_succ_iff_lt_or_eq.1 hx with hx | rfl
  · exact h1 x' y hx hy hr
  · exact (hn y hy hr).elim
theorem Mid.inn (h : Mid R a t x t' m) (hx : x = a ∨ t'.getD x false = true) : Inn R a t x 0 t' m :=
  ⟨hx, fun hm => ⟨(h.1 hm).1, (h.1 hm).2, fun _ h0 => absurd h0 (Nat.not_lt_zero _)⟩, h.2⟩
theorem Inn.skip (h : Inn R a t x y t' m) (hs : R x y → t'.getD y false = true) : Inn R a t x (y + 1) t' m := by
  refine ⟨h.1, fun hm => ?_, h.2.2⟩
  obtain ⟨rfl, h1, h2⟩ := h.2.1 hm
  refine ⟨rfl, h1, fun y' hy hr => ?_⟩
  rcases Nat.lt_succ_iff_lt_or_eq.1 hy with hy | rfl
  · exact h2 y' hy hr
  · exact hs hr
theorem Inn.mark (h : Inn R a t x y t' m) (hy : y < t'.length) (hs : t'.getD y false = false) : Inn R a t x (y + 1) (t'.set y true) true := by
  refine ⟨?_, (fun hm => by cases hm), fun _ => ?_⟩
  · rcases h.1 with e | e
    · exact .inl e
    · exact .inr ((getD_set_true hy).2 (.inr e))
  · have := left_set hy hs
    cases m with
    | false => rw [(h.2.1 rfl).1] at this ⊢; omega
    | true => have := h.2.2 rfl; omega
theorem Inn.mid (h : Inn R a t x n t' m) (hR : ∀ x y, R x y → y < n) : Mid R a t (x + 1) t' m := by
  refine ⟨fun hm => ?_, h.2.2⟩
  obtain ⟨rfl, h1, h2⟩ := h.2.1 hm
  refine ⟨rfl, fun x' y hx hy hr => ?_⟩
  rcases Nat.lt_succ_iff_lt_or_eq.1 hx with hx | rfl
  · exact h1 x' y hx hy hr
  · exact h2 y (hR _ _ hr) hr
theorem Mid.closed (h : Mid R a t n t' false) (hR : ∀ x y, R x y → x < n) : Closed R a t' := by
  obtain ⟨rfl, h1⟩ := h.1 rfl
  exact fun x y hx hr => h1 x y (hR x y hr) hx hr
end
set_option maxHeartbeats 4000000 in
theorem from_calls {W w : World} {fv : Value} {F : PFunc} (hF : FnV W W.heap.size fv F) (hW : Below W.heap.size W w) (n1 : 1 ≤ F.blocks.length) (n2 : F.blocks.length ≤ 64) (a : Nat) (r : Int) :
    Calls Tryd.prog 17 #[fv, .int .i64 (a : Int), .int .i64 r] w fun e w' => ∃ g, e = .returned (.slice (some ⟨g, 0, none⟩) F.blocks.length F.blocks.length) ∧
      w'.ownsRow w.heap.size 4 1 (.slice (some ⟨g, 0, none⟩) F.blocks.length F.blocks.length) F.blocks.length ((plusL (RF F r) F.blocks.length a).map Value.bool) ∧ Below w.heap.size w w' := by
  have hld := Lib.hid (fun (w' : World) (h : Below W.heap.size W w') (x y : Nat) (hx : x < F.blocks.length) => leads_calls hF h (x : Int) (y : Int) (by omega) (by omega))
  obtain ⟨A0, c0, A1, c1, A2, c2, rfl, l0, l1, l2, -⟩ := id hF.open_
  have hRy := Lib.hid (fun x y (h : RF F r x y) => h.2.1)
  have hRx := Lib.hid (fun x y (h : RF F r x y) => h.1)
  unfold Len at *
  have hWs := hW.size
  have hb0 := (Below.refl w.heap.size w).alloc (Nat.le_refl _) (.cells #[.slice A0 F.vars.length c0, .slice A1 F.params.length c1, .slice A2 F.blocks.length c2] 26)
  obtain ⟨ib, hib, hz0, hz1, hz2⟩ := info_parts Tryd.info4
  go_enter Tryd.func17, Tryd.ntmps17
  go_wp2_with (
    at_make; refine wpList_make_full _ rfl _ _ 39 rfl (w.heap.size + 1) 4 ib _ 1 Tryd.underlying39 hib hz0 hz1 _ _ _ _ _ rfl rfl rfl rfl (by rw [hz2]; omega) (by unfold maxLen; omega) (by simp) ?_; intro w1 hs1 hg1
    have hs2 : w1.ownsRow (w.heap.size + 1) 4 1 (.slice (some ⟨w.heap.size + 1, 0, none⟩) F.blocks.length F.blocks.length) F.blocks.length ((List.replicate F.blocks.length false).map Value.bool) := by simpa [Value.cells, toList_madeCells_one] using hs1
    have hg2 : (w.alloc (.cells #[.slice A0 F.vars.length c0, .slice A1 F.params.length c1, .slice A2 F.blocks.length c2] 26)).grownBy w1 none := hg1
    clear hs1 hg1)
  have hbx : Below (w.heap.size + 1) (w.alloc (.cells #[.slice A0 F.vars.length c0, .slice A1 F.params.length c1, .slice A2 F.blocks.length c2] 26)) w1 := (Below.refl _ _).grown hg2 (by simp) (fun k hk => by cases hk)
  clear hg2
  go_loopg [9] (2 * F.blocks.length + 1) (fun gk v9 wr => ∃ t m, v9 = .bool m ∧ Hid (MarkInv (RF F r) F.blocks.length a t ∧ (m = false → Closed (RF F r) a t) ∧ 2 * left t + (if m = true then 1 else 0) ≤ gk) ∧
    wr.ownsRow (w.heap.size + 1) 4 1 (.slice (some ⟨w.heap.size + 1, 0, none⟩) F.blocks.length F.blocks.length) F.blocks.length (t.map Value.bool) ∧ Below (w.heap.size + 1) (w.alloc (.cells #[.slice A0 F.vars.length c0, .slice A1 F.params.length c1, .slice A2 F.blocks.length c2] 26)) wr)
  case atStart => exact ⟨_, true, rfl, ⟨MarkInv.start, (fun h => by cases h), by have := left_le (t := List.replicate F.blocks.length false); simp at this ⊢; omega⟩, hs2, hbx⟩
  case round => as_aux_lemma =>
    obtain ⟨t, m, rfl, HD, ho, hb⟩ := hrel
    cases m
    · have hfin := HD.out.1.fin (HD.out.2.1 rfl)
      go_wp2
      go_ret
      exact ⟨_, rfl, by rw [← hfin]; exact own_base ho (Nat.le_succ _), hb0.trans (hb.mono (Nat.le_succ _))⟩
    clear hs2 hbx
    go_wp2
    obtain ⟨wv, rfl⟩ : ∃ wv : World, wv = wr := ⟨_, rfl⟩
    go_loopw [9, 19] (fun s9 i wr => ∃ (x : Nat) (t' : List Bool) (m' : Bool), i = .int .i64 x ∧ s9 = .bool m' ∧ x ≤ F.blocks.length ∧ Hid (MarkInv (RF F r) F.blocks.length a t' ∧ Mid (RF F r) a t x t' m') ∧
      wr.ownsRow (w.heap.size + 1) 4 1 (.slice (some ⟨w.heap.size + 1, 0, none⟩) F.blocks.length F.blocks.length) F.blocks.length (t'.map Value.bool) ∧ Below (w.heap.size + 1) (w.alloc (.cells #[.slice A0 F.vars.length c0, .slice A1 F.params.length c1, .slice A2 F.blocks.length c2] 26)) wr) (fun _ i _ => F.blocks.length - (intOf i).toNat)
    case atStart => exact ⟨0, t, false, rfl, rfl, Nat.zero_le _, ⟨HD.out.1, Mid.start⟩, ho, hb⟩
    case round => as_aux_lemma =>
      clear ho hb
      obtain ⟨x, t', m', rfl, rfl, hx, HM, ho, hb⟩ := hrel
      by_cases hxl : x < F.blocks.length
      · have hcx := own_bool ho hxl
        have hgl := (ho.lt _ rfl).2
        by_cases hxr : (x : Int) = r
        · have e0 : ((x : Int) == r) = true := by simp [hxr]
          have HX := Lib.hid hxr
          clear hxr
          go_wp2
          go_roundw
          case rel => exact ⟨x + 1, t', m', by go_num, rfl, by omega, ⟨HM.out.1, HM.out.2.skip fun y _ h => h.2.2.1 HX.out⟩, ho, hb⟩
          case measure => simp [intOf]; omega
        have ex := beq_eq_false_iff_ne.2 hxr
        by_cases hen : x = a ∨ t'.getD x false = true
        · have hin : ((x : Int) != (a : Int)) = false ∨ ((x : Int) != (a : Int)) = true ∧ t'.getD x false = true := by
            by_cases e : x = a
            · exact .inl (by simp [e])
            · exact .inr ⟨by rw [bne_iff_ne]; omega, hen.resolve_left e⟩
          have HEN := Lib.hid hen
          have HXR := Lib.hid hxr
          clear hen hxr
          rcases hin with ea | ⟨ea, et⟩
          all_goals
            first | rw [et] at hcx | skip
            go_wp2
            obtain ⟨wu, rfl⟩ : ∃ wu : World, wu = wr := ⟨_, rfl⟩
            go_loopw [9, 38] (fun s9 i wr => ∃ (y : Nat) (t2 : List Bool) (m2 : Bool), i = .int .i64 y ∧ s9 = .bool m2 ∧ y ≤ F.blocks.length ∧ Hid (MarkInv (RF F r) F.blocks.length a t2 ∧ Inn (RF F r) a t x y t2 m2) ∧
              wr.ownsRow (w.heap.size + 1) 4 1 (.slice (some ⟨w.heap.size + 1, 0, none⟩) F.blocks.length F.blocks.length) F.blocks.length (t2.map Value.bool) ∧ Below (w.heap.size + 1) (w.alloc (.cells #[.slice A0 F.vars.length c0, .slice A1 F.params.length c1, .slice A2 F.blocks.length c2] 26)) wr) (fun _ i _ => F.blocks.length - (intOf i).toNat)
            case atStart => exact ⟨0, t', m', rfl, rfl, Nat.zero_le _, ⟨HM.out.1, HM.out.2.inn HEN.out⟩, ho, hb⟩
            case round => as_aux_lemma =>
              clear ho hb hcx hgl
              obtain ⟨y, t2, m2, rfl, rfl, hy, HI, ho, hb⟩ := hrel
              by_cases hyl : y < F.blocks.length
              · have hcy := own_bool ho hyl
                have hgl := (ho.lt _ rfl).2
                by_cases hyr : (y : Int) = r
                · have e0 : ((y : Int) != r) = false := by simp [hyr]
                  have HY := Lib.hid hyr
                  clear hyr
                  go_wp2
                  go_roundw
                  case rel => exact ⟨y + 1, t2, m2, by go_num, rfl, by omega, ⟨HI.out.1, HI.out.2.skip fun h => absurd HY.out h.2.2.2.1⟩, ho, hb⟩
                  case measure => simp [intOf]; omega
                have e0 : ((y : Int) != r) = true := by rw [bne_iff_ne]; exact hyr
                have HYR := Lib.hid hyr
                clear hyr
                cases hty : t2.getD y false
                · rw [hty] at hcy
                  have HTY := Lib.hid hty
                  clear hty
                  obtain ⟨hq, hq0, hq1, hq2⟩ := box3 hb
                  have hB := hb0.trans (hb.mono (Nat.le_succ _))
                  have hl := hld.out wr (hW.trans (hB.mono hWs)) x y hxl
                  rw [Int.toNat_natCast] at hl
                  have hfz := ho.frozenAt y
                  cases hle : leads (F.blk x).term (y : Int)
                  · rw [hle] at hl
                    have HL := Lib.hid hle
                    clear hle
                    go_wp2_with fail
                    refine hl.mono ?_
                    rintro e w8 ⟨rfl, hb8⟩
                    go_wp2
                    go_roundw
                    case rel => exact ⟨y + 1, t2, m2, by go_num, rfl, by omega, ⟨HI.out.1, HI.out.2.skip fun h => by have := h.2.2.2.2; rw [HL.out] at this; cases this⟩, own_below ho hb8, hb.trans (hb8.mono (by omega))⟩
                    case measure => simp [intOf]; omega
                  · rw [hle] at hl
                    have HL := Lib.hid hle
                    clear hle
                    go_wp2_with fail
                    refine hl.mono ?_
                    rintro e w8 ⟨rfl, hb8⟩
                    have ho8 := own_below ho hb8
                    have hgl8 := (ho8.lt _ rfl).2
                    have hfz8 := ho8.frozenAt y
                    have hcy8 := own_bool ho8 hyl
                    go_wp2
                    go_roundw
                    case rel => exact ⟨y + 1, t2.set y true, true, by go_num, rfl, by omega, ⟨HI.out.1.set HI.out.2.1 ⟨hxl, hyl, HXR.out, HYR.out, HL.out⟩ hyl, HI.out.2.mark (by rw [HI.out.1.len]; exact hyl) HTY.out⟩, by rw [← bool_set]; exact (ho8.stored y (.bool true)).1, (hb.trans (hb8.mono (by omega))).setCell (Nat.le_refl _) _⟩
                    case measure => simp [intOf]; omega
                · rw [hty] at hcy
                  have HTY := Lib.hid hty
                  clear hty
                  go_wp2
                  go_roundw
                  case rel => exact ⟨y + 1, t2, m2, by go_num, rfl, by omega, ⟨HI.out.1, HI.out.2.skip fun _ => HTY.out⟩, ho, hb⟩
                  case measure => simp [intOf]; omega
              · obtain rfl : y = F.blocks.length := by omega
                go_wp2
                go_roundw
                case rel => exact ⟨x + 1, t2, m2, by go_num, rfl, by omega, ⟨HI.out.1, HI.out.2.mid hRy.out⟩, ho, hb⟩
                case measure => simp [intOf]; omega
        · have ea : ((x : Int) != (a : Int)) = true := by rw [bne_iff_ne]; omega
          have et : t'.getD x false = false := by
            cases h : t'.getD x false
            · rfl
            · exact absurd (.inr h) hen
          have HEN := Lib.hid hen
          rw [et] at hcx
          clear hen hxr et
          go_wp2
          go_roundw
          case rel => exact ⟨x + 1, t', m', by go_num, rfl, by omega, ⟨HM.out.1, HM.out.2.skip fun y h _ => HEN.out h⟩, ho, hb⟩
          case measure => simp [intOf]; omega
      · obtain rfl : x = F.blocks.length := by omega
        have hk := HD.out.2.2
        simp only [if_true] at hk
        obtain ⟨gk', rfl⟩ : ∃ f, gk = f + 1 := ⟨gk - 1, by omega⟩
        go_wp2
        go_roundg gk'
        case measure => omega
        case rel =>
          refine ⟨t', m', rfl, ⟨HM.out.1, fun hm => ?_, ?_⟩, ho, hb⟩
          · subst hm; exact HM.out.2.closed hRx.out
          · cases m' with
            | false => rw [(HM.out.2.1 rfl).1]; simp; omega
            | true => have := HM.out.2.2 rfl; simp; omega
end Go.Proofs.YtenedeaiepjedaaDoor
