/- The walk of loop.round: the loop of a head, backward from its latches. A nest of loops in memory, while it is built. No program's code is walked here. A map keyed by ints whatever its elements are: a new entry, a look-up, a range. No program's code is walked here. The walk of loop.New of a typed program. graph.Order's answer is a new row. -/
import Derived.Test.YthhpbkfngcflcaaGreatDoorLpPl
import Derived.Test.YthhpbkfngcflcaaGreatDoorSlc
import Derived.Test.YthhpbkfngcflcaaGreatDoorTreeP
import Derived.Maps.OwnSet
import Derived.Maps.RangeWalk
import Derived.Test.YthhpbkfngcflcaaGreatDoorUni
import Derived.Test.YthhpbkfngcflcaaGreatDoorNew
import Derived.Test.YthhpbkfngcflcaaGreatDoorGraph
import Derived.Test.YthhpbkfngcflcaaGreatDoorPreds
namespace Go.Proofs.YthhpbkfngcflcaaGreatDoor
open Go.RowKit
set_option maxRecDepth 100000
theorem wpList_append_run {P : Program} {ops : Array Oper} {rest : List Oper} {o : Oper} {a : Act} {w w' : World} {Q : Exit → Act → World → Prop} (hgd : o.guard = none) (s x : Operand) (t : TypeId) (ho : o.op = .call { callee := .builtin .append, args := #[s, x], argTypes := #[t, t] })
 {v xv v' : Value} (hs : a.eval s = v) (hx : a.eval x = xv) (hrun : (Builtin.append_ #[t, t] o.type #[v, xv]).run P w = .ok v' w') (h : wpList P ops Q rest (a.put o.dst v') w') : wpList P ops Q (o :: rest) a w :=
 wpList_plain hgd fun _ hK => wp_append_run s x t ho hs hx hrun (hK _ _ h)
def RetRing (F : PFunc) (ls : List Nat) (h : Nat) (Al : Option Addr) (cl : Nat) (w : World) (e : Ending) (w' : World) : Prop :=
 ∃ g, e = .returned (.agg #[.slice Al ls.length cl, .slice (some ⟨g, 0, none⟩) F.blocks.length F.blocks.length, .int .i64 (((lpL F ls h).count true : Nat) : Int)]) ∧
  w'.ownsRow w.heap.size 4 1 (.slice (some ⟨g, 0, none⟩) F.blocks.length F.blocks.length) F.blocks.length ((lpL F ls h).map Value.bool) ∧ Below w.heap.size w w'
theorem count_le (t : List Bool) : t.count true ≤ t.length := List.count_le_length
theorem count_start {n h : Nat} (hh : h < n) : ((List.replicate n false).set h true).count true = 1 := by
 rw [count_set (by simpa using hh) (by simp [List.getD, hh])]
 simp [List.count_replicate]
set_option maxHeartbeats 8000000 in
theorem round_calls {W w : World} {F : PFunc} {h : Nat} {ls : List Nat} {Al Ap : Option Addr} {cl cp gt ct : Nat} (hT : typedP F = true) (hh : h < F.blocks.length) (hls : ∀ x ∈ ls, x < F.blocks.length) (hll : ls.length ≤ 64)
 (hL : Rd W.heap.size Al (ints ls) 1 (IntC W)) (hP : Rd W.heap.size Ap (predsOf F) 1 (RowC W W.heap.size)) (hgt : gt < W.heap.size) (hTh : ∀ i, i < F.blocks.length → W.cell? ⟨gt, i, none⟩ = some (.bool (decide (i ∈ OR F)))) (hW : Below W.heap.size W w) :
 Calls Tryz.prog 59 #[.int .i64 (h : Int), .slice Al ls.length cl, .slice Ap F.blocks.length cp, .slice (some ⟨gt, 0, none⟩) F.blocks.length ct] w (RetRing F ls h Al cl w) := by
 have hWs := hW.size
 obtain ⟨n1, n2⟩ := shaped_count (typed_shaped hT)
 have hpl : (predsOf F).length = F.blocks.length := predsF_len _
 have HPR := Lib.hid (fun b (hb : b < F.blocks.length) => PR_row hT hb)
 have HT := Lib.hid hT
 have HTH := Lib.hid hTh
 have HLS := Lib.hid hls
 have hil : (ints ls).length = ls.length := by simp [ints]
 have hhn : (h : Int) < (F.blocks.length : Int) := by omega
 have HPP := Lib.hid hP
 have HPL := Lib.hid hpl
 obtain ⟨ib, hib, hz0, hz1, hz2⟩ := info_parts Tryz.info4
 obtain ⟨Z, hZ⟩ : ∃ Z : Array Value, Z = #[.slice none 0 0, .slice none 0 0, .int .i64 0] := ⟨_, rfl⟩
 have hbz : Below w.heap.size w (w.alloc (.cells Z 113)) := (Below.refl _ _).alloc (Nat.le_refl _) _
 have HCL := Lib.hid (fun (w' : World) (h : Below W.heap.size W w') => clone_calls (c := cl) (hL.move h) (by rw [hil]; omega))
 rw [hil] at HCL
 clear hT hTh hls hP hL hpl hil
 subst hZ
 go_enter Tryz.func59, Tryz.ntmps59
 go_wp2_with (
  at_make; refine wpList_make_full _ rfl _ _ 42 rfl (w.heap.size + 1) 4 ib _ 1 Tryz.underlying42 hib hz0 hz1 _ _ _ _ _ rfl rfl rfl rfl (by rw [hz2]; omega) (by unfold maxLen; omega) ZS ?_; intro w1 hs1 hg1
  have hs2 : w1.ownsRow (w.heap.size + 1) 4 1 (.slice (some ⟨w.heap.size + 1, 0, none⟩) F.blocks.length F.blocks.length) F.blocks.length ((List.replicate F.blocks.length false).map Value.bool) := by simpa [Value.cells, toList_madeCells_one] using hs1
  have hg2 : (w.alloc (.cells #[.slice none 0 0, .slice none 0 0, .int .i64 0] 113)).grownBy w1 none := hg1
  have hb1 : Below (w.heap.size + 1) (w.alloc (.cells #[.slice none 0 0, .slice none 0 0, .int .i64 0] 113)) w1 := (Below.refl _ _).grown hg2 ZS (fun k hk => by cases hk)
  have hgl := (hs2.lt _ rfl).2
  have hfz := hs2.frozenAt h
  have hcz := own_bool hs2 (i := h) hh
  clear hs1 hg1 hg2)
 have hbA : Below w.heap.size w ((w1.setCell ⟨w.heap.size + 1, h, none⟩ (.bool true)).alloc (.cells #[.slice Al ls.length cl, .slice (some ⟨w.heap.size + 1, 0, none⟩) F.blocks.length F.blocks.length, .int .i64 1] 113)) :=
  ((hbz.trans (hb1.mono (Nat.le_succ _))).setCell ZS _).alloc ZX _
 refine (HCL.out _ (hW.trans (hbA.mono hWs))).mono ?_
 rintro e w4 ⟨v4, rfl, ho4, hb4⟩
 have hB4 := hbA.trans (hb4.mono hbA.size)
 have hx4 : BoxAt w4 w1.heap.size #[.slice Al ls.length cl, .slice (some ⟨w.heap.size + 1, 0, none⟩) F.blocks.length F.blocks.length, .int .i64 ((((List.replicate F.blocks.length false).set h true).count true : Nat) : Int)] 113 := by
  rw [count_start hh]
  have := (BoxAt.new (w1.setCell ⟨w.heap.size + 1, h, none⟩ (.bool true)) #[.slice Al ls.length cl, .slice (some ⟨w.heap.size + 1, 0, none⟩) F.blocks.length F.blocks.length, .int .i64 1] 113)
  have hsz : (w1.setCell ⟨w.heap.size + 1, h, none⟩ (.bool true)).heap.size = w1.heap.size := by simp
  rw [hsz] at this
  exact this.below hb4 this.lt
 have hz4 : BoxAt w4 w.heap.size #[.slice none 0 0, .slice none 0 0, .int .i64 0] 113 := by
  have := (((BoxAt.new w #[.slice none 0 0, .slice none 0 0, .int .i64 0] 113).below hb1 (Nat.lt_succ_self _)).other (p := ⟨w.heap.size + 1, h, none⟩) ZS (.bool true)).alloc (.cells #[.slice Al ls.length cl, .slice (some ⟨w.heap.size + 1, 0, none⟩) F.blocks.length F.blocks.length, .int .i64 1] 113)
  exact this.below hb4 this.lt
 have hs4 := own_below (((hs2.stored h (.bool true)).1).alloc (.cells #[.slice Al ls.length cl, .slice (some ⟨w.heap.size + 1, 0, none⟩) F.blocks.length F.blocks.length, .int .i64 1] 113)) hb4
 rw [bool_set] at hs4
 have ho4' : w4.ownsRow (w.heap.size + 1) 3 1 v4 ls.length ((ints ls).map (Value.int .i64)) := own_base ho4 ZX
 have hrb1 : w1.heap.size ≠ w.heap.size := by omega
 have hrbg : w.heap.size + 1 < w1.heap.size := hgl
 clear hbA hb4 ho4 hs2 hb1 hgl hfz hcz hbz HCL
 go_wp2
 go_loopg [10] 5000 (fun gk v10 wr => ∃ (t : List Bool) (l : List Nat), Hid (LpInv F ls h t l ∧ 65 * left t + l.length + 1 ≤ gk ∧ 65 * left t + l.length + 1 ≤ 5000) ∧
  BoxAt wr w1.heap.size #[.slice Al ls.length cl, .slice (some ⟨w.heap.size + 1, 0, none⟩) F.blocks.length F.blocks.length, .int .i64 ((t.count true : Nat) : Int)] 113 ∧ BoxAt wr w.heap.size #[.slice none 0 0, .slice none 0 0, .int .i64 0] 113 ∧
  wr.ownsRow (w.heap.size + 1) 4 1 (.slice (some ⟨w.heap.size + 1, 0, none⟩) F.blocks.length F.blocks.length) F.blocks.length (t.map Value.bool) ∧ wr.ownsRow (w.heap.size + 1) 3 1 v10 l.length ((ints l).map (Value.int .i64)) ∧ Below w.heap.size w wr)
 case atStart =>
  have hlf := left_le (t := (List.replicate F.blocks.length false).set h true)
  rw [List.length_set, List.length_replicate] at hlf
  exact ⟨_, ls, ⟨LpInv.start hh, ZO, ZO⟩, hx4, hz4, hs4, ho4', hB4⟩
 case round => as_aux_lemma =>
  clear hx4 hz4 hs4 ho4' hB4
  obtain ⟨t, l, HD, hx, hz, ho, hs, hb⟩ := hrel
  have hWr : Below W.heap.size W wr := hW.trans (hb.mono hWs)
  have x0 := hx.cell 0
  have x1 := hx.cell 1
  have x2 := hx.cell 2
  have xl := hx.lt
  have xf := fun j => hx.frozen j
  replace x0 : wr.cell? ⟨w1.heap.size, 0, none⟩ = some (.slice Al ls.length cl) := x0
  replace x1 : wr.cell? ⟨w1.heap.size, 1, none⟩ = some (.slice (some ⟨w.heap.size + 1, 0, none⟩) F.blocks.length F.blocks.length) := x1
  replace x2 : wr.cell? ⟨w1.heap.size, 2, none⟩ = some (.int .i64 ((t.count true : Nat) : Int)) := x2
  rcases List.eq_nil_or_concat l with hn | ⟨s0, x, hsx⟩
  · subst hn
    have hfin := HD.out.1.fin
    obtain ⟨Av, cv, rfl⟩ := own_form hs
    have z0 := hz.cell 0
    have z1 := hz.cell 1
    have z2 := hz.cell 2
    have zl := hz.lt
    have zf0 := hz.frozen 0
    have zf1 := hz.frozen 1
    have zf2 := hz.frozen 2
    replace z0 : wr.cell? ⟨w.heap.size, 0, none⟩ = some (.slice none 0 0) := z0
    replace z1 : wr.cell? ⟨w.heap.size, 1, none⟩ = some (.slice none 0 0) := z1
    replace z2 : wr.cell? ⟨w.heap.size, 2, none⟩ = some (.int .i64 0) := z2
    have HF := Lib.hid hfin
    have hne : ∀ g', (Value.slice (some ⟨w.heap.size + 1, 0, none⟩) F.blocks.length F.blocks.length).ownBlock = some g' → g' ≠ w.heap.size := fun g' e => by simp only [Value.ownBlock, Option.some.injEq] at e; omega
    clear hs hfin
    generalize hm : t.count true = m at *
    have HM := Lib.hid hm
    clear hm
    go_wp2
    have hz3 := hz.set3 (a := .slice Al ls.length cl) (b := .slice (some ⟨w.heap.size + 1, 0, none⟩) F.blocks.length F.blocks.length) (c := .int .i64 ((m : Nat) : Int))
    have y0 := hz3.cell 0
    have y1 := hz3.cell 1
    have y2 := hz3.cell 2
    simp at y0 y1 y2
    refine bodyPost_ret (v := .agg #[.slice Al ls.length cl, .slice (some ⟨w.heap.size + 1, 0, none⟩) F.blocks.length F.blocks.length, .int .i64 ((m : Nat) : Int)]) (by simp [results, Tryz.results59, go_sem, y0, y1, y2]) rfl ⟨w.heap.size + 1, ?_, ?_, ?_⟩
    · rw [← HF.out, HM.out]
    · rw [← HF.out]
      exact own_base (ownsRow_setCell_other (ownsRow_setCell_other (ownsRow_setCell_other ho (fun e => hne _ e rfl) _) (fun e => hne _ e rfl) _) (fun e => hne _ e rfl) _) (Nat.le_succ _)
    · exact ((hb.setCell (Nat.le_refl _) _).setCell (Nat.le_refl _) _).setCell (Nat.le_refl _) _
  · rw [List.concat_eq_append] at hsx
    subst hsx
    have hl : (s0 ++ [x]).length = s0.length + 1 := by simp
    rw [hl] at hs
    obtain ⟨g, cap, rfl, hg0, hgl2, hcp, hcm⟩ := own_succ hs
    unfold maxLen at hcm
    have hbnd := HD.out.2
    rw [hl] at hbnd
    have hct := hs.cellAt s0.length ZO
    simp [ints] at hct
    have hxn := HD.out.1.mem HT.out HLS.out
    have hs0 : wr.ownsRow (w.heap.size + 1) 3 1 (.slice (some ⟨g, 0, none⟩) s0.length cap) s0.length ((ints s0).map (Value.int .i64)) := own_popL (by simpa [ints] using hs)
    have hcb := own_bool ho hxn
    have hth := (hWr.cell (p := ⟨gt, x, none⟩) hgt).trans (HTH.out x hxn)
    have hgtl := Nat.lt_of_lt_of_le hgt hWr.size
    have hgl := (ho.lt _ rfl).2
    have hfz := ho.frozenAt x
    have hxn' : (x : Int) < (F.blocks.length : Int) := by omega
    obtain ⟨gk', rfl⟩ : ∃ f, gk = f + 1 := ⟨gk - 1, ZO⟩
    clear hs
    obtain ⟨bx, hbx⟩ : ∃ bx, t.getD x false = bx := ⟨_, rfl⟩
    have HBX := Lib.hid hbx
    rw [hbx] at hcb
    clear hbx
    cases bx
    case true =>
     as_aux_lemma =>
     have HN := Lib.hid (HD.out.1.old (.inl HBX.out))
     have HB := Lib.hid hbnd
     go_wp2
     go_roundg gk'
     case measure => omega
     case rel => exact ⟨t, s0, ⟨HN.out, ZO, ZO⟩, hx, hz, ho, hs0, hb⟩
    case false =>
     by_cases hO : x ∈ OR F
     case neg =>
      as_aux_lemma =>
      rw [decide_eq_false hO] at hth
      have HN := Lib.hid (HD.out.1.old (.inr hO))
      clear hO
      go_wp2
      go_roundg gk'
      case measure => omega
      case rel => exact ⟨t, s0, ⟨HN.out, ZO, ZO⟩, hx, hz, ho, hs0, hb⟩
     case pos =>
      as_aux_lemma =>
      rw [decide_eq_true hO] at hth
      have HN := Lib.hid (HD.out.1.new HBX.out hO hxn)
      have hlf := left_set (t := t) (y := x) (by rw [HD.out.1.len]; exact hxn) HBX.out
      have hct2 := Lib.hid (count_set (c := x) (seen := t) (by rw [HD.out.1.len]; exact hxn) HBX.out)
      have hcl := count_le t
      rw [HD.out.1.len] at hcl
      have hpn := PR_le (F := F) (b := x)
      obtain ⟨bp, op, Aq, cq, rfl, hbp, hcp0, lq, kq, rq⟩ := RowRd HPP.out hWr (i := x) (by rw [HPL.out]; exact hxn)
      rw [HPR.out x hxn] at hcp0 lq kq rq
      have hil : (ints (PR F x)).length = (PR F x).length := by simp [ints]
      have hne1 : ∀ g', (Value.slice (some ⟨w.heap.size + 1, 0, none⟩) F.blocks.length F.blocks.length).ownBlock = some g' → g' ≠ w1.heap.size := fun g' e => by simp only [Value.ownBlock, Option.some.injEq] at e; omega
      have hbg : g ≠ w.heap.size + 1 := fun e => own_ne hs0 ho ZD (g := g) rfl (by rw [e]; rfl)
      have hgr : g ≠ w1.heap.size := fun e => own_box_ne hs0 hx ZD (by rw [e]; rfl)
      have hbpl : bp < W.heap.size := by
       obtain ⟨b', o', he, hb', -⟩ := HPP.out x _ (List.getElem?_eq_getElem (by rw [HPL.out]; exact hxn))
       cases he
       exact hb'
      obtain ⟨W5, hW5⟩ : ∃ W5 : World, W5 = (wr.setCell ⟨w.heap.size + 1, x, none⟩ (.bool true)).setCell ⟨w1.heap.size, 2, none⟩ (.int .i64 ((t.count true : Nat) + 1 : Int)) := ⟨_, rfl⟩
      have hb5 : Below w.heap.size w W5 := by subst hW5; exact (hb.setCell ZS _).setCell ZX _
      have ho5 : W5.ownsRow (w.heap.size + 1) 4 1 (.slice (some ⟨w.heap.size + 1, 0, none⟩) F.blocks.length F.blocks.length) F.blocks.length ((t.set x true).map Value.bool) := by
       subst hW5
       rw [← bool_set]
       exact ownsRow_setCell_other (ho.stored x (.bool true)).1 (fun e => hne1 _ e rfl) _
      have hs5 : W5.ownsRow (w.heap.size + 1) 3 1 (.slice (some ⟨g, 0, none⟩) s0.length cap) s0.length ((ints s0).map (Value.int .i64)) := by
       subst hW5
       exact ownsRow_setCell_other (ownsRow_setCell_other hs0 (by simpa [Value.ownBlock] using hbg) _) (by simpa [Value.ownBlock] using hgr) _
      have hx5 : BoxAt W5 w1.heap.size #[.slice Al ls.length cl, .slice (some ⟨w.heap.size + 1, 0, none⟩) F.blocks.length F.blocks.length, .int .i64 ((t.count true : Nat) + 1 : Int)] 113 := by
       subst hW5
       exact (hx.other (p := ⟨w.heap.size + 1, x, none⟩) ZX (.bool true)).set 2 _
      have hz5 : BoxAt W5 w.heap.size #[.slice none 0 0, .slice none 0 0, .int .i64 0] 113 := by
       subst hW5
       exact (hz.other (p := ⟨w.heap.size + 1, x, none⟩) ZS (.bool true)).other (by simpa using hrb1) _
      have hW5W : Below W.heap.size W W5 := hW.trans (hb5.mono hWs)
      obtain ⟨v6, w6, hrun, ho6, hg6⟩ := run_append_ints (P := Tryz.prog) (t := 23) (ty := 23) (c := cq) W5 (w.heap.size + 1) 3 Tryz.underlying23 Tryz.info3 rfl _ _ _ hs5 (rq.move hW5W) ZO (by have := hb5.size; subst hW5; simp; omega)
      rw [hil] at hrun ho6 hcp0 kq lq
      obtain ⟨A6, c6, rfl⟩ := own_form ho6
      have hob6 := Lib.hid (own_grown ho5 (Below.refl _ _) hg6 (fun b e e2 => own_ne ho5 hs5 ZD e e2))
      have hx6 := Lib.hid (hx5.grown hg6 (own_box_ne hs5 hx5 ZD))
      have hz6 := Lib.hid (hz5.grown hg6 (own_box_ne hs5 hz5 ZD))
      have hb6 := Lib.hid (hb5.grown hg6 hb5.size (fun k hk => by have := (hs5.lt k hk).1; omega))
      have HO6 := Lib.hid ho6
      have e1 : ¬ (w.heap.size + 1 = bp) := by omega
      have e2 : ¬ (w1.heap.size = bp) := by omega
      have e3 : ¬ (bp = w.heap.size + 1) := by omega
      have e4 : ¬ (bp = w1.heap.size) := by omega
      subst hW5
      clear ho5 hs5 hx5 hz5 hb5 hg6 hW5W ho6 hO rq hne1
      go_wp2_with (at_builtin; refine wpList_append_run rfl _ _ 23 rfl rfl rfl hrun ?_)
      go_roundg gk'
      case measure => omega
      case rel =>
       refine ⟨t.set x true, s0 ++ PR F x, ⟨HN.out, ?_, ?_⟩, ?_, hz6.out, hob6.out, ?_, hb6.out⟩
       · rw [List.length_append]; omega
       · rw [List.length_append]; omega
       · rw [hct2.out]
         exact hx6.out
       · rw [List.length_append]
         have := HO6.out
         rw [show ints (s0 ++ PR F x) = ints s0 ++ ints (PR F x) by simp [ints]]
         exact this
end Go.Proofs.YthhpbkfngcflcaaGreatDoor
namespace Go.Proofs.YthhpbkfngcflcaaGreatDoor
open Go.RowKit
set_option maxRecDepth 100000
def KeepIB (w w' : World) : Prop := ∀ (k : Nat) (cs : Array Value) (t : TypeId) (fr : Nat × Nat), w.heap[k]? = some (.cells cs t fr) → (t = 3 ∨ t = 4) → w'.heap[k]? = w.heap[k]?
section
variable {w w' w2 : World} {base e sz n : Nat} {v : Value} {xs : List Value}
theorem KeepIB.refl : KeepIB w w := fun _ _ _ _ _ _ => rfl
theorem KeepIB.trans (h : KeepIB w w') (h' : KeepIB w' w2) : KeepIB w w2 := fun k cs t fr hk ht => (h' k cs t fr ((h k cs t fr hk ht).trans hk) ht).trans (h k cs t fr hk ht)
theorem KeepIB.of_below (h : Below w.heap.size w w') : KeepIB w w' := fun k _ _ _ hk _ => h.block k (Array.getElem?_eq_some_iff.1 hk).1
theorem own_ib (h : w.ownsRow base e sz v n xs) (he : e = 3 ∨ e = 4) (hk : KeepIB w w') : w'.ownsRow base e sz v n xs := by
 obtain ⟨hl, h⟩ := h
 refine ⟨hl, ?_⟩
 rcases h with h | ⟨g, cap, cur, hv, hg, hh, r⟩
 · exact .inl h
 · exact .inr ⟨g, cap, cur, hv, hg, (hk g _ _ _ hh he).trans hh, r⟩
theorem own_ty {g : Nat} (h : w.ownsRow base e sz v n xs) (hg : v.ownBlock = some g) : ∃ cs, w.heap[g]? = some (.cells cs e (0, 0)) := by
 rcases h.2 with ⟨rfl, _⟩ | ⟨g', cap, cur, rfl, _, hh, _⟩
 · simp [Value.ownBlock] at hg
 · simp only [Value.ownBlock, Option.some.injEq] at hg
   subst hg
   exact ⟨cur, hh⟩
theorem KeepIB.grown {o : Obj} (h : w.ownsRow base e sz v n xs) (he : ¬ (e = 3 ∨ e = 4)) (hg : (w.alloc o).grownBy w' v.ownBlock) : KeepIB w w' := fun k cs t fr hk ht => by
 have hl := (Array.getElem?_eq_some_iff.1 hk).1
 rw [hg.block k ZX (fun e' => by
  obtain ⟨cs', h'⟩ := own_ty h e'.symm
  rw [hk] at h'
  simp only [Option.some.injEq, Obj.cells.injEq] at h'
  exact he (h'.2.1 ▸ ht))]
 exact heap_alloc_old w o hl
theorem KeepIB.setBox {g j : Nat} {cs : Array Value} {t : TypeId} {u : Value} (h : BoxAt w g cs t) (ht : ¬ (t = 3 ∨ t = 4)) : KeepIB w (w.setCell ⟨g, j, none⟩ u) := fun k cs' t' fr hk ht' =>
 Below.heap_setCell w _ _ k (fun e' => by
  have e'' : k = g := e'
  subst e''
  unfold BoxAt at h
  rw [hk] at h
  simp only [Option.some.injEq, Obj.cells.injEq] at h
  exact ht (h.2.1 ▸ ht'))
theorem KeepIB.setRow {g j : Nat} {u : Value} (h : w.ownsRow base e sz v n xs) (hv : v.ownBlock = some g) (he : ¬ (e = 3 ∨ e = 4)) : KeepIB w (w.setCell ⟨g, j, none⟩ u) := by
 obtain ⟨cs, hc⟩ := own_ty h hv
 exact KeepIB.setBox (cs := cs) (t := e) hc he
theorem own_map_ne {mb : Nat} {es : Array MapEntry} {clk : Nat} (h : w.ownsRow base e sz v n xs) (hm : w.heap[mb]? = some (.map es clk)) : v.ownBlock ≠ some mb := fun hg => by
 obtain ⟨cs, hc⟩ := own_ty h hg
 rw [hm] at hc
 cases hc
theorem box_map_ne {mb g : Nat} {es : Array MapEntry} {clk : Nat} {cs : Array Value} {t : TypeId} (h : BoxAt w g cs t) (hm : w.heap[mb]? = some (.map es clk)) : mb ≠ g := fun e => by
 subst e
 unfold BoxAt at h
 rw [hm] at h
 cases h
end
def endsAt (F : PFunc) (i : Nat) : List Int := if i ∈ OR F then ints (EN F i) else []
noncomputable def headsL (F : PFunc) (n : Nat) : List Nat := (List.range n).filter fun h => decide (0 < (latL F h).length)
theorem headsL_succ_yes {F : PFunc} {n : Nat} (h : 0 < (latL F n).length) : headsL F (n + 1) = headsL F n ++ [n] := by simp [headsL, List.range_succ, h]
theorem headsL_succ_no {F : PFunc} {n : Nat} (h : ¬ 0 < (latL F n).length) : headsL F (n + 1) = headsL F n := by simp [headsL, List.range_succ, h]
theorem mem_headsL {F : PFunc} {n h : Nat} : h ∈ headsL F n ↔ h < n ∧ 0 < (latL F h).length := by simp [headsL]
def RingO (w : World) (base : Nat) (F : PFunc) (h : Nat) (v : Value) : Prop :=
 ∃ vl g, v = .agg #[vl, .slice (some ⟨g, 0, none⟩) F.blocks.length F.blocks.length, .int .i64 (((lpL F (latL F h) h).count true : Nat) : Int)] ∧ w.ownsRow base 3 1 vl (latL F h).length ((ints (latL F h)).map (Value.int .i64)) ∧
  w.ownsRow base 4 1 (.slice (some ⟨g, 0, none⟩) F.blocks.length F.blocks.length) F.blocks.length ((lpL F (latL F h) h).map Value.bool)
theorem RingO.ib {w w' : World} {base h : Nat} {F : PFunc} {v : Value} (hr : RingO w base F h v) (hk : KeepIB w w') : RingO w' base F h v := by
 obtain ⟨vl, g, h0, h1, h2⟩ := hr
 exact ⟨vl, g, h0, own_ib h1 (.inl rfl) hk, own_ib h2 (.inr rfl) hk⟩
structure EntsO (w : World) (base : Nat) (F : PFunc) (n : Nat) (es : Array MapEntry) (clk : Nat) : Prop where
 keys : es.toList.map (·.key) = (headsL F n).map fun (h : Nat) => Value.int .i64 (h : Int)
 vals : ∀ e ∈ es.toList, ∀ h : Nat, e.key = .int .i64 (h : Int) → RingO w base F h e.val
 nod : (es.toList.map (·.born)).Nodup
 born : ∀ e ∈ es.toList, e.born < clk
theorem EntsO.ib {w w' : World} {base n clk : Nat} {F : PFunc} {es : Array MapEntry} (h : EntsO w base F n es clk) (hk : KeepIB w w') : EntsO w' base F n es clk :=
 ⟨h.keys, fun e he x hx => (h.vals e he x hx).ib hk, h.nod, h.born⟩
structure NestO (w : World) (base : Nat) (F : PFunc) (m n : Nat) (ro : Nat → List Int) (nb mb : Nat) (rd : Bool) (ve : Value) (vs : List Value) (es : Array MapEntry) (clk : Nat) : Prop where
 box : BoxAt w nb #[.map (some mb), ve, .bool rd] 110
 ends : w.ownsRow base 23 1 ve m vs
 rows : ∀ (i : Nat) (x : Value), vs[i]? = some x → w.ownsRow base 3 1 x (ro i).length ((ro i).map (Value.int .i64))
 obj : w.heap[mb]? = some (.map es clk)
 ents : EntsO w base F n es clk
section
variable {w w' w3 : World} {base m n nb mb clk : Nat} {F : PFunc} {ro : Nat → List Int} {rd : Bool} {ve : Value} {vs : List Value} {es : Array MapEntry}
theorem NestO.below (h : NestO w base F m n ro nb mb rd ve vs es clk) (hb : Below w.heap.size w w') : NestO w' base F m n ro nb mb rd ve vs es clk :=
 ⟨h.box.below hb h.box.lt, own_below h.ends hb, fun i x hx => own_below (h.rows i x hx) hb, (hb.block mb (Array.getElem?_eq_some_iff.1 h.obj).1).trans h.obj, h.ents.ib (KeepIB.of_below hb)⟩
theorem NestO.more (h : NestO w base F m n ro nb mb rd ve vs es clk) (hro : ro m = []) {ve' : Value} {o : Obj} (hown : w3.ownsRow base 23 1 ve' (m + 1) (vs ++ [.slice none 0 0])) (hg : (w.alloc o).grownBy w3 ve.ownBlock) :
 BoxAt w3 nb #[.map (some mb), ve, .bool rd] 110 ∧ NestO (w3.setCell ⟨nb, 1, none⟩ ve') base F (m + 1) n ro nb mb rd ve' (vs ++ [.slice none 0 0]) es clk := by
 have hb3 : BoxAt w3 nb #[.map (some mb), ve, .bool rd] 110 := (h.box.alloc o).grown hg (own_box_ne h.ends h.box ZD)
 have hk3 : KeepIB w w3 := KeepIB.grown h.ends ZD hg
 have hk : KeepIB w (w3.setCell ⟨nb, 1, none⟩ ve') := hk3.trans (KeepIB.setBox hb3 ZD)
 have hml := (Array.getElem?_eq_some_iff.1 h.obj).1
 have hm3 : w3.heap[mb]? = some (.map es clk) := (hg.block mb ZX (fun e => own_map_ne h.ends h.obj e.symm)).trans ((heap_alloc_old w o hml).trans h.obj)
 refine ⟨hb3, hb3.set 1 ve', ownsRow_setCell_other hown (own_box_ne hown hb3 ZD) _, fun i x hx => ?_, (Below.heap_setCell _ _ _ _ (box_map_ne hb3 hm3)).trans hm3, h.ents.ib hk⟩
 rcases Nat.lt_or_ge i vs.length with hi | hi
 · rw [List.getElem?_append_left hi] at hx
   exact own_ib (h.rows i x hx) (.inl rfl) hk
 · rw [List.getElem?_append_right hi] at hx
   have hvl : vs.length = m := by have := h.ends.1; omega
   rcases Nat.eq_zero_or_pos (i - vs.length) with h0 | h0
   · rw [h0] at hx
     simp at hx
     subst hx
     obtain rfl : i = m := by omega
     rw [hro]
     exact World.ownsRow_nil _ _ _ _
   · rw [List.getElem?_eq_none ZX] at hx
     cases hx
theorem NestO.lay (h : NestO w base F m n ro nb mb rd ve vs es clk) {ro' : Nat → List Int} {c g cap : Nat} (hc : c < m) (hve : ve = .slice (some ⟨g, 0, none⟩) m cap) {x : Value} (hx : w.ownsRow base 3 1 x (ro' c).length ((ro' c).map (Value.int .i64))) (hro : ∀ i, i ≠ c → ro' i = ro i) :
 NestO (w.setCell ⟨g, c, none⟩ x) base F m n ro' nb mb rd ve (vs.set c x) es clk := by
 subst hve
 have hk : KeepIB w (w.setCell ⟨g, c, none⟩ x) := KeepIB.setRow h.ends rfl ZD
 have hgb : g ≠ nb := fun e => own_box_ne h.ends h.box ZD (by rw [← e]; rfl)
 have hgm : mb ≠ g := fun e => own_map_ne h.ends h.obj (by rw [e]; rfl)
 have hvl : vs.length = m := by have := h.ends.1; omega
 refine ⟨h.box.other hgb _, (h.ends.stored c x).1, fun i y hy => ?_, (Below.heap_setCell _ _ _ _ hgm).trans h.obj, h.ents.ib hk⟩
 by_cases e : c = i
 · subst e
   rw [List.getElem?_set_self ZO] at hy
   simp only [Option.some.injEq] at hy
   subst hy
   exact own_ib hx (.inl rfl) hk
 · rw [List.getElem?_set_ne e] at hy
   rw [hro i (fun e' => e e'.symm)]
   exact own_ib (h.rows i y hy) (.inl rfl) hk
theorem NestO.skip (h : NestO w base F m n ro nb mb rd ve vs es clk) (hh : ¬ 0 < (latL F n).length) : NestO w base F m (n + 1) ro nb mb rd ve vs es clk :=
 ⟨h.box, h.ends, h.rows, h.obj, ⟨by rw [headsL_succ_no hh]; exact h.ents.keys, h.ents.vals, h.ents.nod, h.ents.born⟩⟩
end
end Go.Proofs.YthhpbkfngcflcaaGreatDoor
namespace Go.Proofs.YthhpbkfngcflcaaGreatDoor
open Go.RowKit
open Go.Maps
open Go.ChangeMaps (setBlock)
set_option maxRecDepth 100000
section
variable {P : Program} {t k e mb clk : Nat} {es : Array MapEntry}
def IntKeys (P : Program) (k : TypeId) (es : Array MapEntry) : Prop := ∀ x ∈ es.toList, ∃ l, keyOf P k x.key = some l
theorem run_mapPut (w : World) (K : Keyed P k) (ht : P.underlying t = some (.map k e)) (hb : w.heap[mb]? = some (.map es clk)) {key val : Value} {kl : Lit} (hkey : keyOf P k key = some kl) (hks : IntKeys P k es) (hnew : ∀ x ∈ es.toList, x.key ≠ key) :
 (Instr.mapUpdate t (.map (some mb)) key val).run P w = .ok () (setBlock w mb (.map (es.push ⟨key, val, clk⟩) (clk + 1))) := by
 rcases K.find w hkey es.toList hks with ⟨h1, h2⟩ | ⟨j, e0, h1, h2, h3⟩
 · simp [Instr.mapUpdate, run_underlying ht, MapKept.run_getObj_map hb, K.check w false hkey, h1, MapKept.run_setObj_map _ hb, Result.andThen, setBlock]
 · exact absurd h3 (hnew e0 (List.mem_of_getElem? h2))
theorem run_mapLook (w : World) (K : Keyed P k) (ht : P.underlying t = some (.map k e)) (hb : w.heap[mb]? = some (.map es clk)) {key z : Value} {kl : Lit} (hz : (zeroValue e).run P w = .ok z w) (hkey : keyOf P k key = some kl) (hks : IntKeys P k es) (c : Bool) :
 ((Instr.lookup t (.map (some mb)) key c).run P w = .ok (if c then .tuple #[z, .bool false] else z) w ∧ ∀ x ∈ es.toList, x.key ≠ key) ∨
 ∃ e0, e0 ∈ es.toList ∧ e0.key = key ∧ (Instr.lookup t (.map (some mb)) key c).run P w = .ok (if c then .tuple #[e0.val, .bool true] else e0.val) w := by
 rcases K.find w hkey es.toList hks with ⟨h1, h2⟩ | ⟨j, e0, h1, h2, h3⟩
 · exact .inl ⟨by simp [Instr.lookup, run_underlying ht, MapKept.run_getObj_map hb, K.check w _ hkey, h1, hz, Result.andThen], h2⟩
 · exact .inr ⟨e0, List.mem_of_getElem? h2, h3, by simp [Instr.lookup, run_underlying ht, MapKept.run_getObj_map hb, K.check w _ hkey, h1, Result.andThen]⟩
theorem wpList_mapPut (w : World) {ops : Array Oper} {rest : List Oper} {o : Oper} {a : Act} {Q : Exit → Act → World → Prop} (hg : o.guard = none) (m x v : Operand) (t : TypeId) (hop : o.op = Op.mapUpdate t m x v)
 {key val : Value} {w' : World} (hm : a.eval m = .map (some mb)) (hx : a.eval x = key) (hv : a.eval v = val) (hrun : (Instr.mapUpdate t (.map (some mb)) key val).run P w = .ok () w')
 (h : wpList P ops Q rest (a.put o.dst undef) w') : wpList P ops Q (o :: rest) a w := by
 refine wpList_plain hg fun K' hK' => ?_
 unfold Oper.wp
 simp [execOp, hop, hm, hx, hv, hrun, Result.andThen]
 exact hK' _ _ h
theorem wpList_mapLook (w : World) {ops : Array Oper} {rest : List Oper} {o : Oper} {a : Act} {Q : Exit → Act → World → Prop} (hg : o.guard = none) (m x : Operand) (t : TypeId) (c : Bool) (hop : o.op = Op.lookup t m x c)
 {key r : Value} (hm : a.eval m = .map (some mb)) (hx : a.eval x = key) (hrun : (Instr.lookup t (.map (some mb)) key c).run P w = .ok r w)
 (h : wpList P ops Q rest (a.put o.dst r) w) : wpList P ops Q (o :: rest) a w := by
 refine wpList_plain hg fun K' hK' => ?_
 unfold Oper.wp
 simp [execOp, hop, hm, hx, hrun, Result.andThen]
 exact hK' _ _ h
end
end Go.Proofs.YthhpbkfngcflcaaGreatDoor
namespace Go.Proofs.YthhpbkfngcflcaaGreatDoor
open Go.RowKit
open Go.Maps
open Go.ChangeMaps (setBlock)
set_option maxRecDepth 100000
theorem own_two {w : World} {o : Obj} {e : TypeId} {xs : List Value} (hm : xs.length ≤ 64) : ((w.alloc o).alloc (.cells xs.toArray e)).ownsRow w.heap.size e 1 (.slice (some ⟨w.heap.size + 1, 0, none⟩) xs.length xs.length) xs.length xs :=
 row_own ZO (by simpa using heap_alloc_new (w.alloc o) (.cells xs.toArray e)) rfl rfl ZO
theorem endsO_calls {w : World} (t : PTerm) :
 Calls Tryz.prog 58 #[.agg #[.int .i64 t.kind, .int .i64 t.var, .int .i64 t.t0, .int .i64 t.t1]] w fun e w' => ∃ A c, e = .returned (.slice A (endsOf t).length c) ∧ w'.ownsRow w.heap.size 3 1 (.slice A (endsOf t).length c) (endsOf t).length ((endsOf t).map (Value.int .i64)) ∧ Below w.heap.size w w' := by
 by_cases h0 : t.kind = 0
 · have HF := Lib.hid (show endsOf t = [t.t0] by rw [endsOf, if_pos h0])
   go_enter Tryz.func58, Tryz.ntmps58
   go_wp2
   go_ret
   rw [HF.out]
   exact ⟨_, _, rfl, own_two (xs := [.int .i64 t.t0]) ZS, BL⟩
 by_cases h1 : t.kind = 1
 · by_cases h2 : t.t0 = t.t1
   · have HF := Lib.hid (show endsOf t = [t.t0] by rw [endsOf, if_neg h0, if_pos h1, if_pos h2])
     go_enter Tryz.func58, Tryz.ntmps58
     go_wp2
     go_ret
     rw [HF.out, h2]
     exact ⟨_, _, rfl, own_two (xs := [.int .i64 t.t1]) ZS, BL⟩
   · have HF := Lib.hid (show endsOf t = [t.t0, t.t1] by rw [endsOf, if_neg h0, if_pos h1, if_neg h2])
     go_enter Tryz.func58, Tryz.ntmps58
     go_wp2
     go_ret
     rw [HF.out]
     exact ⟨_, _, rfl, own_two (xs := [.int .i64 t.t0, .int .i64 t.t1]) ZS, BL⟩
 · have HF := Lib.hid (show endsOf t = [] by rw [endsOf, if_neg h0, if_neg h1])
   go_enter Tryz.func58, Tryz.ntmps58
   go_wp2
   go_ret
   rw [HF.out]
   exact ⟨_, _, rfl, World.ownsRow_nil _ _ _ _, BL⟩
theorem key_int (h : Nat) (hh : h ≤ 64) : keyOf Tryz.prog 3 (.int .i64 (h : Int)) = some (.int .i64 (h : Int)) := keyOf_int_mk Tryz.underlying3 (WalkArith.wf_i64 ZO)
section
variable {w w' : World} {base m n nb mb clk : Nat} {F : PFunc} {ro : Nat → List Int} {rd : Bool} {ve : Value} {vs : List Value} {es : Array MapEntry}
theorem EntsO.int_keys (h : EntsO w base F n es clk) (hn : n ≤ 64) : IntKeys Tryz.prog 3 es := fun x hx => by
 have : x.key ∈ es.toList.map (·.key) := List.mem_map.2 ⟨x, hx, rfl⟩
 rw [h.keys, List.mem_map] at this
 obtain ⟨k, hk, e⟩ := this
 have hkn := (mem_headsL.1 hk).1
 exact ⟨_, by rw [← e]; exact key_int k ZO⟩
theorem EntsO.new_key (h : EntsO w base F n es clk) {k : Nat} (hk : n ≤ k) : ∀ x ∈ es.toList, x.key ≠ .int .i64 (k : Int) := fun x hx e => by
 have : x.key ∈ es.toList.map (·.key) := List.mem_map.2 ⟨x, hx, rfl⟩
 rw [h.keys, List.mem_map] at this
 obtain ⟨j, hj, e'⟩ := this
 have hjn := (mem_headsL.1 hj).1
 rw [e] at e'
 simp only [Value.int.injEq, true_and] at e'
 omega
theorem NestO.put (h : NestO w base F m n ro nb mb rd ve vs es clk) (hh : 0 < (latL F n).length) {val : Value} (hv : RingO w base F n val) :
 NestO (setBlock w mb (.map (es.push ⟨.int .i64 (n : Int), val, clk⟩) (clk + 1))) base F m (n + 1) ro nb mb rd ve vs (es.push ⟨.int .i64 (n : Int), val, clk⟩) (clk + 1) := by
 have hoth : ∀ k, k ≠ mb → (setBlock w mb (.map (es.push ⟨.int .i64 (n : Int), val, clk⟩) (clk + 1))).heap[k]? = w.heap[k]? := fun k hk => ChangeMaps.heap_setBlock_other h.obj _ hk
 have hk : KeepIB w (setBlock w mb (.map (es.push ⟨.int .i64 (n : Int), val, clk⟩) (clk + 1))) := fun k cs t fr hkk _ => hoth k (fun e => by
  subst e
  rw [h.obj] at hkk
  cases hkk)
 refine ⟨(hoth nb (fun e => box_map_ne h.box h.obj e.symm)).trans h.box, own_turn h.ends (fun k hk' => hoth k (fun e => own_map_ne h.ends h.obj (by rw [← e]; exact hk'))), fun i x hx => own_ib (h.rows i x hx) (.inl rfl) hk, ChangeMaps.heap_setBlock_same h.obj _, ?_⟩
 refine ⟨?_, fun x hx k he => ?_, ?_, fun x hx => ?_⟩
 · rw [headsL_succ_yes hh]
   simp [h.ents.keys]
 · rw [Array.toList_push, List.mem_append, List.mem_singleton] at hx
   rcases hx with hx | rfl
   · exact (h.ents.vals x hx k he).ib hk
   · simp only [Value.int.injEq, true_and] at he
     obtain rfl : n = k := by omega
     exact hv.ib hk
 · rw [Array.toList_push, List.map_append, List.nodup_append]
   refine ⟨h.ents.nod, ZS, fun a ha b hb => ?_⟩
   obtain ⟨x, hx, rfl⟩ := List.mem_map.1 ha
   have := h.ents.born x hx
   simp at hb
   omega
 · rw [Array.toList_push, List.mem_append, List.mem_singleton] at hx
   rcases hx with hx | rfl
   · have := h.ents.born x hx
     omega
   · exact Nat.lt_succ_self _
end
open Classical in
theorem overL_tab {F : PFunc} {L : List (Option Nat)} (t : NearOk F.blocks.length (OR F) (PR F) L) {x y : Nat} : overB (OR F) L (x : Int) (y : Int) = tabB F x y := by
 rw [Bool.eq_iff_iff, tabB_iff]
 unfold overB tabP
 rw [inO_nat, inO_nat]
 simp only [Bool.and_eq_true, decide_eq_true_eq, Int.toNat_natCast]
 constructor
 · rintro ⟨⟨h1, h2⟩, h3⟩
   exact ⟨h1, h2, .inr ((t.dom h2).1 h3)⟩
 · rintro ⟨h1, h2, h3⟩
   refine ⟨⟨h1, h2⟩, ?_⟩
   rcases h3 with rfl | h3
   · exact .refl
   · exact (t.dom h2).2 h3
theorem below_setBlock {B mb : Nat} {a w : World} (h : Below B a w) (hm : B ≤ mb) (o : Obj) : Below B a (setBlock w mb o) :=
 ⟨h.os, h.tape, h.output, by simpa [setBlock] using h.size, fun i hi => by
   have : i ≠ mb := by omega
   rw [← h.block i hi]
   simp [setBlock, this.symm]⟩
end Go.Proofs.YthhpbkfngcflcaaGreatDoor
namespace Go.Proofs.YthhpbkfngcflcaaGreatDoor
open Go.RowKit
set_option maxRecDepth 100000
theorem orderYN_calls {W w : World} {fv : Value} {F : PFunc} (hU : Uni W) (hF : FnV W W.heap.size fv F) (hW : Below W.heap.size W w) (hS : Small F) (hT : typedP F = true) :
 Calls Tryz.prog 45 #[fv] w (RetNew w (ints (postO F).reverse)) := by
 have hr := fun (w : World) (h : Below W.heap.size W w) => right_calls hU hF h hS
 have ho := fun (w : World) (h : Below W.heap.size W w) => orderN_calls hF h hT
 rw [hT] at hr
 have hWs := hW.size
 obtain ⟨A0, c0, A1, c1, A2, c2, rfl, -⟩ := id hF.open_
 clear hT
 generalize ints (postO F).reverse = L at *
 go_enter Tryz.func45, Tryz.ntmps45
 go_wp2_with (first | (go_at_call 76; refine (hr _ BL).mono ?_; (rintro e w1 ⟨rfl, hb1⟩; obtain ⟨hc1, hf1⟩ := bcell hb1; have hz1 := hb1.size; try simp at hz1; try have hy1 := Nat.lt_of_succ_le hz1; try have hx1 := Nat.lt_of_succ_lt hy1; try have hw1 := Nat.lt_of_succ_lt hx1)) | (go_at_call 88; refine (ho _ BL).mono ?_; rintro e w2 ⟨⟨A2', c2', rfl, l2, k2, r2, hb2⟩, HN2⟩; obtain ⟨hc2, hf2⟩ := bcell hb2; have hz2 := hb2.size; try simp at hz2))
 go_ret
 exact ⟨⟨_, _, rfl, l2, k2, r2, BL⟩, fun A n c he b off ha => by have h9 := HN2 A n c he b off ha; (try simp at h9); omega⟩
end Go.Proofs.YthhpbkfngcflcaaGreatDoor
