/- The walk of the reference's Table: which block is above which. -/
import Derived.Test.YteajnaabbddohaaGreatDoorGraph
import Derived.Test.YteajnaabbddohaaGreatDoorNew
import Derived.Test.YteajnaabbddohaaGreatDoorTreeVC
import Derived.Test.YteajnaabbddohaaGreatDoorWays
namespace Go.Proofs.YteajnaabbddohaaGreatDoor
open Go.RowKit
set_option maxRecDepth 100000

/-- the document's table. -/
def tabP (F : PFunc) (a b : Nat) : Prop := a ∈ OR F ∧ b ∈ OR F ∧ (a = b ∨ ¬ Avoid (fun x y => x ∈ PR F y) a b)
theorem avoid_of_plus {F : PFunc} (h : typedP F = true) {a : Nat} {b : Nat} (hp : Plus (RF F (a : Int)) 0 b) : Avoid (fun x y => x ∈ PR F y) a b := by
  have key : ∀ {x y}, RF F (a : Int) x y → x ∈ PR F y ∧ y ≠ a ∧ x ≠ a := fun {x y} hr => ⟨(mem_PR h).2 ⟨hr.1, (EN_leads h hr.1).2 hr.2.2.2.2⟩, by have := hr.2.2.2.1; omega, by have := hr.2.2.1; omega⟩
  induction hp with
  | one hr => exact .step (.start (fun e => (key hr).2.2 e.symm)) (key hr).1 (key hr).2.1
  | more _ hr ih => exact .step ih (key hr).1 (key hr).2.1
theorem plus_of_avoid {F : PFunc} (h : typedP F = true) {a b : Nat} (hA : Avoid (fun x y => x ∈ PR F y) a b) : a ≠ 0 ∧ b ≠ a ∧ (b = 0 ∨ Plus (RF F (a : Int)) 0 b) := by
  induction hA with
  | start h0 => exact ⟨h0, fun e => h0 e.symm, .inl rfl⟩
  | @step x y _ hp hy ih =>
    obtain ⟨h0, hx, h1⟩ := ih
    have hm := (mem_PR h).1 hp
    have hr : RF F (a : Int) x y := ⟨hm.1, EN_lt h hm.1 y hm.2, by omega, by omega, (EN_leads h hm.1).1 hm.2⟩
    refine ⟨h0, hy, .inr ?_⟩
    rcases h1 with rfl | h1
    · exact .one hr
    · exact .more h1 hr
/-- the marks of what ways reach that don't come to a. -/
theorem left_at {F : PFunc} (h : typedP F = true) {a b : Nat} (hb : b < F.blocks.length) : (((plusL (RF F (a : Int)) F.blocks.length 0).set 0 (decide ((a : Int) ≠ 0))).getD b false = true) ↔ Avoid (fun x y => x ∈ PR F y) a b := by
  have hn := (shaped_count (typed_shaped h)).1
  by_cases h0 : b = 0
  · subst h0
    have : ((plusL (RF F (a : Int)) F.blocks.length 0).set 0 (decide ((a : Int) ≠ 0))).getD 0 false = decide ((a : Int) ≠ 0) := by
      have hl : 0 < (plusL (RF F (a : Int)) F.blocks.length 0).length := by rw [plusL_len]; omega
      simp [List.getD, hl]
    rw [this, decide_eq_true_eq]
    constructor
    · exact fun e => .start (by omega)
    · intro hA
      have := (plus_of_avoid h hA).1
      omega
  · rw [List.getD, List.getElem?_set_ne (fun e => h0 e.symm), ← List.getD_eq_getElem?_getD, plusL_at hb]
    constructor
    · exact avoid_of_plus h
    · intro hA
      exact (plus_of_avoid h hA).2.2.resolve_left h0
theorem there_at {F : PFunc} {b : Nat} (hb : b < F.blocks.length) : (marksL F.blocks.length (postO F).reverse).getD b false = true ↔ b ∈ OR F := marksL_at hb
/-- a table in memory. -/
def TabV (w : World) (B : Nat) (v : Value) (n : Nat) (T : Nat → Nat → Bool) : Prop := ∃ b0 c, v = .slice (some ⟨b0, 0, none⟩) n c ∧ n ≤ c ∧ b0 < B ∧ ∀ a, a < n → ∃ b1, w.cell? ⟨b0, a, none⟩ = some (.slice (some ⟨b1, 0, none⟩) n n) ∧ b1 < B ∧ ∀ x, x < n → w.cell? ⟨b1, x, none⟩ = some (.bool (T a x))
open Classical in
noncomputable def tabB (F : PFunc) (a b : Nat) : Bool := decide (tabP F a b)
open Classical in
theorem tabB_iff {F : PFunc} {a b : Nat} : tabB F a b = true ↔ tabP F a b := by unfold tabB; rw [decide_eq_true_eq]
theorem own_pos {w : World} {B e n : Nat} {v : Value} {xs : List Value} (h : w.ownsRow B e 1 v n xs) (hn : 1 ≤ n) : ∃ g cap, v = .slice (some ⟨g, 0, none⟩) n cap ∧ g < w.heap.size ∧ n ≤ cap := by
  obtain ⟨m, rfl⟩ : ∃ m, n = m + 1 := ⟨n - 1, by omega⟩
  obtain ⟨g, cap, rfl, _, h2, h3, _⟩ := own_succ h
  exact ⟨g, cap, rfl, h2, h3⟩
/-- one row, so far. -/
noncomputable def rowP (F : PFunc) (a b : Nat) : List Bool := (List.range F.blocks.length).map fun x => decide (x < b) && tabB F a x
theorem rowP_len {F : PFunc} {a b : Nat} : (rowP F a b).length = F.blocks.length := by simp [rowP]
theorem rowP_zero {F : PFunc} {a : Nat} : rowP F a 0 = List.replicate F.blocks.length false := by
  refine List.ext_getElem (by simp [rowP]) fun i h1 h2 => ?_
  simp [rowP]
theorem rowP_step {F : PFunc} {a b : Nat} : (rowP F a b).set b (tabB F a b) = rowP F a (b + 1) := by
  refine List.ext_getElem (by simp [rowP]) fun i h1 h2 => ?_
  rw [List.getElem_set]
  by_cases e : b = i
  · subst e; simp [rowP]
  · rw [if_neg e]
    have : (i < b) ↔ (i < b + 1) := by omega
    simp [rowP, this]
theorem rowP_none {F : PFunc} {a b : Nat} (ha : a ∉ OR F) : rowP F a b = List.replicate F.blocks.length false := by
  refine List.ext_getElem (by simp [rowP]) fun i h1 h2 => ?_
  have : tabB F a i = false := by unfold tabB; rw [decide_eq_false_iff_not]; exact fun h => ha h.1
  simp [rowP, this]
/-- the rows that are made. -/
def RowsT (F : PFunc) (wr : World) (B : Nat) (av : Nat) (vs : List Value) : Prop := ∀ k v, vs[k]? = some v → ∃ g, v = .slice (some ⟨g, 0, none⟩) F.blocks.length F.blocks.length ∧ g < av ∧ wr.ownsRow B 4 1 v F.blocks.length ((rowP F k F.blocks.length).map Value.bool)
theorem RowsT.below {F : PFunc} {wr w' : World} {B av av' : Nat} {vs : List Value} (h : RowsT F wr B av vs) (hb : Below wr.heap.size wr w') (ha : av ≤ av') : RowsT F w' B av' vs := fun k v hv => by
  obtain ⟨g, h1, h2, h3⟩ := h k v hv
  exact ⟨g, h1, by omega, own_below h3 hb⟩
theorem RowsT.set {F : PFunc} {wr : World} {B av i : Nat} {vs : List Value} {u : Value} (h : RowsT F wr B av vs) : RowsT F (wr.setCell ⟨av, i, none⟩ u) B av vs := fun k v hv => by
  obtain ⟨g, h1, h2, h3⟩ := h k v hv
  refine ⟨g, h1, h2, ownsRow_setCell_other h3 (a := ⟨av, i, none⟩) (fun e => ?_) u⟩
  subst h1
  simp [Value.ownBlock] at e
  omega
theorem Tryz.info45 : (Tryz.prog.info? 45).map (fun i => (i.zero, i.size, i.bytes)) = some (some (.slice none 0 0), 1, 24) := by kernel_rfl
set_option maxHeartbeats 8000000 in
theorem table_calls {W w : World} {fv : Value} {F : PFunc} (hF : FnV W W.heap.size fv F) (hW : Below W.heap.size W w) (hT : typedP F = true) :
    Calls Tryz.prog 26 #[fv] w fun e w' => ∃ v, e = .returned v ∧ TabV w' w'.heap.size v F.blocks.length (tabB F) ∧ Below w.heap.size w w' := by
  obtain ⟨n1, n2⟩ := shaped_count (typed_shaped hT)
  have hre := fun (w : World) (h : Below W.heap.size W w) (r : Int) => reached_calls hF h n1 n2 r
  have hr1 := fun (w : World) (h : Below W.heap.size W w) => hre w h (-1)
  rw [← reach_eq hT] at hr1
  have HTH := Lib.hid (fun b (hb : b < F.blocks.length) => there_at (F := F) hb)
  have HLF := Lib.hid (fun a b (hb : b < F.blocks.length) => left_at (a := a) hT hb)
  have hml : (marksL F.blocks.length (postO F).reverse).length = F.blocks.length := marksL_len
  obtain ⟨th, hth⟩ : ∃ th, marksL F.blocks.length (postO F).reverse = th := ⟨_, rfl⟩
  rw [hth] at hr1 HTH hml
  have hLl : ∀ a : Nat, ((plusL (RF F (a : Int)) F.blocks.length 0).set 0 (decide ((a : Int) ≠ 0))).length = F.blocks.length := fun a => by rw [List.length_set, plusL_len]
  have hWs := hW.size
  obtain ⟨A0, c0, A1, c1, A2, c2, rfl, l0, l1, l2, -⟩ := id hF.open_
  unfold Len at *
  have hb0 := (Below.refl w.heap.size w).alloc (Nat.le_refl _) (.cells #[.slice A0 F.vars.length c0, .slice A1 F.params.length c1, .slice A2 F.blocks.length c2] 26)
  obtain ⟨ib, hib, hz0, hz1, hz2⟩ := info_parts Tryz.info4
  clear hT hth
  go_enter Tryz.func26, Tryz.ntmps26
  go_wp2_with fail
  refine (hr1 _ (hW.trans (hb0.mono hWs))).mono ?_
  rintro e w1 ⟨g3, rfl, o3, hb1⟩
  have hX1 : Below (w.heap.size + 1) (w.alloc (.cells #[.slice A0 F.vars.length c0, .slice A1 F.params.length c1, .slice A2 F.blocks.length c2] 26)) w1 := by simpa using hb1
  obtain ⟨hq, hq0, hq1, hq2⟩ := box3 hX1
  have o3' := own_base o3 (B' := w.heap.size + 1) (by simp)
  clear o3
  go_wp2
  go_loopw [4, 14] (fun v4 i wr => ∃ (a : Nat) (vs : List Value), i = .int .i64 a ∧ a ≤ F.blocks.length ∧ wr.ownsRow (w.heap.size + 1) 45 1 v4 a vs ∧ RowsT F wr (w.heap.size + 1) wr.heap.size vs ∧
    wr.ownsRow (w.heap.size + 1) 4 1 (.slice (some ⟨g3, 0, none⟩) F.blocks.length F.blocks.length) F.blocks.length (th.map Value.bool) ∧ Below (w.heap.size + 1) (w.alloc (.cells #[.slice A0 F.vars.length c0, .slice A1 F.params.length c1, .slice A2 F.blocks.length c2] 26)) wr) (fun _ i _ => F.blocks.length - (intOf i).toNat)
  case atStart => exact ⟨0, [], rfl, Nat.zero_le _, World.ownsRow_nil _ _ _ _, fun k v hv => by simp at hv, o3', hX1⟩
  case round => as_aux_lemma =>
    clear hq hq0 hq1 hq2 o3' hX1
    obtain ⟨a, vs, rfl, ha, ho, hR, o3, hX⟩ := hrel
    obtain ⟨hq, hq0, hq1, hq2⟩ := box3 hX
    by_cases hal : a < F.blocks.length
    · have hal3 : (a : Int) < (F.blocks.length : Int) := by omega
      obtain ⟨wq, rfl⟩ : ∃ wq : World, wq = wr := ⟨_, rfl⟩
      have hg3 : g3 < wq.heap.size := (o3.lt _ rfl).2
      have hthr := HTH.out a hal
      have hzw : w.heap.size + 1 ≤ wq.heap.size := by have := hX.size; simpa using this
      have key : ∀ {v4 : Value} {w5 w3 : World} {v' : Value} {rw : List Bool}, Below wq.heap.size wq w5 → wq.heap.size < w5.heap.size → w5.ownsRow (w.heap.size + 1) 45 1 v4 a vs → RowsT F w5 (w.heap.size + 1) wq.heap.size vs →
          w5.ownsRow (w.heap.size + 1) 4 1 (.slice (some ⟨g3, 0, none⟩) F.blocks.length F.blocks.length) F.blocks.length (th.map Value.bool) → w5.ownsRow (w.heap.size + 1) 4 1 (.slice (some ⟨wq.heap.size, 0, none⟩) F.blocks.length F.blocks.length) F.blocks.length (rw.map Value.bool) → rw = rowP F a F.blocks.length → Below (w.heap.size + 1) (w.alloc (.cells #[.slice A0 F.vars.length c0, .slice A1 F.params.length c1, .slice A2 F.blocks.length c2] 26)) w5 →
          w3.ownsRow (w.heap.size + 1) 45 1 v' (a + 1) (vs ++ [.slice (some ⟨wq.heap.size, 0, none⟩) F.blocks.length F.blocks.length]) → (w5.alloc (.cells #[.slice (some ⟨wq.heap.size, 0, none⟩) F.blocks.length F.blocks.length] 45)).grownBy w3 v4.ownBlock →
          RowsT F w3 (w.heap.size + 1) w3.heap.size (vs ++ [.slice (some ⟨wq.heap.size, 0, none⟩) F.blocks.length F.blocks.length]) ∧ w3.ownsRow (w.heap.size + 1) 4 1 (.slice (some ⟨g3, 0, none⟩) F.blocks.length F.blocks.length) F.blocks.length (th.map Value.bool) ∧ Below (w.heap.size + 1) (w.alloc (.cells #[.slice A0 F.vars.length c0, .slice A1 F.params.length c1, .slice A2 F.blocks.length c2] 26)) w3 := by
        intro v4 w5 w3 v' rw hb5 hl5 ho5 hR5 o35 or5 hrw hX5 hown3 hg3'
        have hal5 : Below w5.heap.size w5 (w5.alloc (.cells #[.slice (some ⟨wq.heap.size, 0, none⟩) F.blocks.length F.blocks.length] 45)) := (Below.refl _ _).alloc (Nat.le_refl _) _
        have keep : ∀ {g : Nat} {xs : List Value}, w5.ownsRow (w.heap.size + 1) 4 1 (.slice (some ⟨g, 0, none⟩) F.blocks.length F.blocks.length) F.blocks.length xs → w3.ownsRow (w.heap.size + 1) 4 1 (.slice (some ⟨g, 0, none⟩) F.blocks.length F.blocks.length) F.blocks.length xs :=
          fun h => own_grown h hal5 hg3' (fun b hb => own_ne h ho5 (by decide) hb)
        have hsz := hg3'.size
        simp at hsz
        refine ⟨fun k v hv => ?_, keep o35, grown_below ho5 hg3' hX5 (Nat.le_refl _) (by omega)⟩
        have hvl : vs.length = a := by simpa using ho5.1
        by_cases hk : k < vs.length
        · rw [List.getElem?_append_left hk] at hv
          obtain ⟨g, h1, h2, h3⟩ := hR5 k v hv
          subst h1
          exact ⟨g, rfl, by omega, keep h3⟩
        · have hk2 : k = a := by
            have := (List.getElem?_eq_some_iff.1 hv).1
            simp at this
            omega
          subst hk2
          rw [List.getElem?_append_right (by omega)] at hv
          simp [hvl] at hv
          subst hv
          exact ⟨wq.heap.size, rfl, by omega, by rw [← hrw]; exact keep or5⟩
      replace key := @Lib.hid _ @key
      have hthc := own_bool o3 hal
      have hle := hLl a
      have hlfa := fun b hb => HLF.out a b hb
      have hre' := hre
      obtain ⟨A4, c4, rfl⟩ := own_form ho
      obtain ⟨ta, hta⟩ : ∃ ta, th.getD a false = ta := ⟨_, rfl⟩
      rw [hta] at hthc hthr
      cases ta
      · have hna : a ∉ OR F := fun h => by have := hthr.2 h; cases this
        have HNA := Lib.hid hna
        clear hna hthr hta
        go_wp2_with (first
          | (at_make; refine wpList_make_full _ rfl _ _ 45 rfl (w.heap.size + 1) 4 ib _ 1 Tryz.underlying45 hib hz0 hz1 _ _ _ _ _ rfl rfl rfl rfl (by rw [hz2]; omega) (by unfold maxLen; omega) (by omega) ?_; intro w2 hs2 hg2
             have hb2 : Below wq.heap.size wq w2 := (Below.refl _ _).grown hg2 (Nat.le_refl _) (fun k hk => by cases hk)
             have o2 : w2.ownsRow (w.heap.size + 1) 4 1 (.slice (some ⟨wq.heap.size, 0, none⟩) F.blocks.length F.blocks.length) F.blocks.length ((rowP F a 0).map Value.bool) := by rw [rowP_zero]; simpa [Value.cells, toList_madeCells_one] using hs2
             have hl2 : wq.heap.size < w2.heap.size := (o2.lt _ rfl).2
             have o32 := own_below o3 hb2
             have ho2 := own_below ho hb2
             have hR2 := hR.below hb2 (Nat.le_refl _)
             have hX2 := hX.trans (hb2.mono hzw)
             have hc3 := (hb2.cell (p := ⟨g3, a, none⟩) hg3).trans hthc
             have hg32 : g3 < w2.heap.size := (o32.lt _ rfl).2
             clear hs2 hg2)
          | (at_builtin; refine wpList_append1F _ rfl _ _ 66 rfl (w.heap.size + 1) 45 24 Tryz.underlying66 Tryz.info45 rfl _ _ _ rfl ho2 _ rfl _ rfl rfl (by omega) (by decide) (by omega) ?_; intro v' w3 hown3 hg3' hfr3; obtain ⟨k1, k2, k3⟩ := key.out hb2 hl2 ho2 hR2 o32 o2 (by rw [rowP_none HNA.out, rowP_none HNA.out]) hX2 hown3 hg3'))
        go_roundw
        case rel => exact ⟨a + 1, _, by go_num, by omega, hown3, k1, k2, k3⟩
        case measure => simp [intOf]; omega
      · have HA := Lib.hid (hthr.1 rfl)
        clear hthr hta
        go_wp2_with (
          at_make; refine wpList_make_full _ rfl _ _ 45 rfl (w.heap.size + 1) 4 ib _ 1 Tryz.underlying45 hib hz0 hz1 _ _ _ _ _ rfl rfl rfl rfl (by rw [hz2]; omega) (by unfold maxLen; omega) (by omega) ?_; intro w2 hs2 hg2
          have hb2 : Below wq.heap.size wq w2 := (Below.refl _ _).grown hg2 (Nat.le_refl _) (fun k hk => by cases hk)
          have o2 : w2.ownsRow (w.heap.size + 1) 4 1 (.slice (some ⟨wq.heap.size, 0, none⟩) F.blocks.length F.blocks.length) F.blocks.length ((rowP F a 0).map Value.bool) := by rw [rowP_zero]; simpa [Value.cells, toList_madeCells_one] using hs2
          have hl2 : wq.heap.size < w2.heap.size := (o2.lt _ rfl).2
          have o32 := own_below o3 hb2
          have ho2 := own_below ho hb2
          have hR2 := hR.below hb2 (Nat.le_refl _)
          have hX2 := hX.trans (hb2.mono hzw)
          have hc3 := (hb2.cell (p := ⟨g3, a, none⟩) hg3).trans hthc
          have hg32 : g3 < w2.heap.size := (o32.lt _ rfl).2
          obtain ⟨p, p0, p1, p2⟩ := box3 hX2
          clear hs2 hg2)
        refine (hre' w2 (hW.trans ((hb0.trans (hX2.mono (Nat.le_succ _))).mono hWs)) a).mono ?_
        rintro e w7 ⟨g7, rfl, o7, hb7⟩
        have hz2 : w2.heap.size ≤ w7.heap.size := hb7.size
        have hX7 := hX2.trans (hb7.mono (by omega))
        have o37 := own_below o32 hb7
        have ho7 := own_below ho2 hb7
        have hR7 := hR2.below hb7 (Nat.le_refl _)
        have o27 := own_below o2 hb7
        have o77 := own_base o7 (B' := w.heap.size + 1) (by omega)
        have hg7 := o7.lt _ rfl
        replace hg7 : w2.heap.size ≤ g7 ∧ g7 < w7.heap.size := hg7
        obtain ⟨lf, hlf⟩ : ∃ lf, (plusL (RF F (a : Int)) F.blocks.length 0).set 0 (decide ((a : Int) ≠ 0)) = lf := ⟨_, rfl⟩
        rw [hlf] at hle hlfa o77
        have HLA := Lib.hid hlfa
        have hgr : g3 ≠ wq.heap.size := by omega
        have hgr7 : g7 ≠ wq.heap.size := by omega
        have hb27 : Below wq.heap.size wq w7 := hb2.trans (hb7.mono (by omega))
        clear hlfa hlf hre hre' hr1 o7 o2 o32 ho2 hR2 hX2 hc3 hg32 p p0 p1 p2 hb7 hb2
        go_wp2
        go_loopw [30] (fun i wr => ∃ b : Nat, i = .int .i64 b ∧ b ≤ F.blocks.length ∧ wr.ownsRow (w.heap.size + 1) 4 1 (.slice (some ⟨wq.heap.size, 0, none⟩) F.blocks.length F.blocks.length) F.blocks.length ((rowP F a b).map Value.bool) ∧
          wr.ownsRow (w.heap.size + 1) 45 1 (.slice A4 a c4) a vs ∧ RowsT F wr (w.heap.size + 1) wq.heap.size vs ∧ wr.ownsRow (w.heap.size + 1) 4 1 (.slice (some ⟨g3, 0, none⟩) F.blocks.length F.blocks.length) F.blocks.length (th.map Value.bool) ∧
          wr.ownsRow (w.heap.size + 1) 4 1 (.slice (some ⟨g7, 0, none⟩) F.blocks.length F.blocks.length) F.blocks.length (lf.map Value.bool) ∧ Below wq.heap.size wq wr) (fun i _ => F.blocks.length - (intOf i).toNat)
        case atStart => exact ⟨0, rfl, Nat.zero_le _, o27, ho7, hR7, o37, o77, hb27⟩
        case round => as_aux_lemma =>
          clear o27 ho7 hR7 o37 o77 hb27 hX7
          obtain ⟨b, rfl, hbn, o2, ho2, hR2, o3, o7, hb2⟩ := hrel
          have hl2 : wq.heap.size < wr.heap.size := (o2.lt _ rfl).2
          have hX2 := hX.trans (hb2.mono hzw)
          by_cases hbl : b < F.blocks.length
          · have hbl3 : (b : Int) < (F.blocks.length : Int) := by omega
            have hc2 := own_bool o2 hbl
            have hc3 := own_bool o3 hbl
            have hc7 := own_bool o7 hbl
            have hg3w : g3 < wr.heap.size := (o3.lt _ rfl).2
            have hg7w : g7 < wr.heap.size := (o7.lt _ rfl).2
            have hfz := o2.frozenAt b
            have hset : ∀ z, tabB F a b = z → (wr.setCell ⟨wq.heap.size, b, none⟩ (.bool z)).ownsRow (w.heap.size + 1) 4 1 (.slice (some ⟨wq.heap.size, 0, none⟩) F.blocks.length F.blocks.length) F.blocks.length ((rowP F a (b + 1)).map Value.bool) ∧
                (wr.setCell ⟨wq.heap.size, b, none⟩ (.bool z)).ownsRow (w.heap.size + 1) 45 1 (.slice A4 a c4) a vs ∧ RowsT F (wr.setCell ⟨wq.heap.size, b, none⟩ (.bool z)) (w.heap.size + 1) wq.heap.size vs ∧ (wr.setCell ⟨wq.heap.size, b, none⟩ (.bool z)).ownsRow (w.heap.size + 1) 4 1 (.slice (some ⟨g3, 0, none⟩) F.blocks.length F.blocks.length) F.blocks.length (th.map Value.bool) ∧
                (wr.setCell ⟨wq.heap.size, b, none⟩ (.bool z)).ownsRow (w.heap.size + 1) 4 1 (.slice (some ⟨g7, 0, none⟩) F.blocks.length F.blocks.length) F.blocks.length (lf.map Value.bool) ∧ Below wq.heap.size wq (wr.setCell ⟨wq.heap.size, b, none⟩ (.bool z)) := by
              rintro z rfl
              refine ⟨?_, ownsRow_setCell_other ho2 (a := ⟨wq.heap.size, b, none⟩) (fun e => own_ne o2 ho2 (by decide) rfl e) _, hR2.set, ownsRow_setCell_other o3 (a := ⟨wq.heap.size, b, none⟩) (by simpa [Value.ownBlock] using hgr) _, ownsRow_setCell_other o7 (a := ⟨wq.heap.size, b, none⟩) (by simpa [Value.ownBlock] using hgr7) _, hb2.setCell (p := ⟨wq.heap.size, b, none⟩) (Nat.le_refl _) _⟩
              rw [← rowP_step, ← bool_set]
              exact (o2.stored b _).1
            have htb : tabB F a b = (th.getD b false && (decide (a = b) || !lf.getD b false)) := by
              rw [Bool.eq_iff_iff, tabB_iff]
              unfold tabP
              simp only [Bool.and_eq_true, Bool.or_eq_true, decide_eq_true_eq, Bool.not_eq_true']
              rw [HTH.out b hbl]
              constructor
              · rintro ⟨_, h2, h3 | h3⟩
                · exact ⟨h2, .inl h3⟩
                · refine ⟨h2, .inr ?_⟩
                  cases hx : lf.getD b false
                  · rfl
                  · exact absurd ((HLA.out b hbl).1 hx) h3
              · rintro ⟨h2, h3 | h3⟩
                · exact ⟨HA.out, h2, .inl h3⟩
                · exact ⟨HA.out, h2, .inr fun h4 => by rw [(HLA.out b hbl).2 h4] at h3; cases h3⟩
            obtain ⟨tb, htb'⟩ : ∃ x, th.getD b false = x := ⟨_, rfl⟩
            obtain ⟨lb, hlb'⟩ : ∃ x, lf.getD b false = x := ⟨_, rfl⟩
            rw [htb'] at hc3 htb
            rw [hlb'] at hc7 htb
            have HSET := Lib.hid hset
            have HTB := Lib.hid htb
            clear hset htb htb' hlb'
            cases tb
            · obtain ⟨h1, h2, h3, h4, h5, h6⟩ := HSET.out false (by rw [HTB.out]; rfl)
              go_wp2
              go_roundw
              case rel => exact ⟨b + 1, by go_num, by omega, h1, h2, h3, h4, h5, h6⟩
              case measure => simp [intOf]; omega
            · by_cases hab : a = b
              · have e0 : ((a : Int) == (b : Int)) = true := by simp [hab]
                obtain ⟨h1, h2, h3, h4, h5, h6⟩ := HSET.out true (by rw [HTB.out]; simp [hab])
                clear hab
                go_wp2
                go_roundw
                case rel => exact ⟨b + 1, by go_num, by omega, h1, h2, h3, h4, h5, h6⟩
                case measure => simp [intOf]; omega
              · have e0 : ((a : Int) == (b : Int)) = false := by rw [beq_eq_false_iff_ne]; omega
                have HAB := Lib.hid hab
                clear hab
                cases lb
                · obtain ⟨h1, h2, h3, h4, h5, h6⟩ := HSET.out true (by rw [HTB.out]; simp)
                  go_wp2
                  go_roundw
                  case rel => exact ⟨b + 1, by go_num, by omega, h1, h2, h3, h4, h5, h6⟩
                  case measure => simp [intOf]; omega
                · obtain ⟨h1, h2, h3, h4, h5, h6⟩ := HSET.out false (by rw [HTB.out]; simp [HAB.out])
                  go_wp2
                  go_roundw
                  case rel => exact ⟨b + 1, by go_num, by omega, h1, h2, h3, h4, h5, h6⟩
                  case measure => simp [intOf]; omega
          · obtain rfl : b = F.blocks.length := by omega
            go_wp2_with (at_builtin; refine wpList_append1F _ rfl _ _ 66 rfl (w.heap.size + 1) 45 24 Tryz.underlying66 Tryz.info45 rfl _ _ _ rfl ho2 _ rfl _ rfl rfl (by omega) (by decide) (by omega) ?_; intro v' w3 hown3 hg3' hfr3; obtain ⟨k1, k2, k3⟩ := key.out hb2 hl2 ho2 hR2 o3 o2 rfl hX2 hown3 hg3')
            go_roundw
            case rel => exact ⟨a + 1, _, by go_num, by omega, hown3, k1, k2, k3⟩
            case measure => simp [intOf]; omega
    · obtain rfl : a = F.blocks.length := by omega
      have hvl : vs.length = F.blocks.length := by simpa using ho.1
      obtain ⟨g4, cap4, rfl, hg4l, hcap⟩ := own_pos ho n1
      go_wp2
      go_ret
      refine ⟨_, rfl, ⟨g4, cap4, rfl, hcap, hg4l, fun x hx => ?_⟩, hb0.trans (hX.mono (Nat.le_succ _))⟩
      have hcx := ho.cellAt x (by omega)
      rw [List.getElem?_eq_getElem (by omega)] at hcx
      obtain ⟨g, h1, h2, h3⟩ := hR x _ (List.getElem?_eq_getElem (by omega))
      rw [h1] at hcx
      refine ⟨g, hcx, h2, fun y hy => ?_⟩
      rw [h1] at h3
      rw [own_bool h3 hy]
      simp [rowP, List.getD, hy]
end Go.Proofs.YteajnaabbddohaaGreatDoor
