/- The reference's recursive walk: ref10's walk.visit. -/
import Derived.Test.YtenedeaiepjedaaDoorVisA
import Derived.Test.YtenedeaiepjedaaDoorReach
import Derived.Laws.AppendOwnNone
namespace Go.Proofs.YtenedeaiepjedaaDoor
open Go.RowKit
set_option maxRecDepth 100000

theorem EN_kind0 {F : PFunc} {b : Nat} (h : (F.blk b).term.kind = 0) : EN F b = [(F.blk b).term.t0.toNat] := by unfold EN endsOf; rw [if_pos h]; rfl
theorem VisSt.below {F : PFunc} {B tw tb ti g gs : Nat} {v0 v1 v2 : Value} {w w' : World} {seen : List Bool} {out : List Nat} (h : VisSt F B tw tb ti g gs v0 v1 v2 w seen out) (hb : Below w.heap.size w w') : VisSt F B tw tb ti g gs v0 v1 v2 w' seen out := by
  obtain ⟨vo, h1, h2, h3⟩ := h
  exact ⟨vo, own_below h1 hb, own_below h2 hb, own_below h3 hb⟩
theorem vis_end {F : PFunc} {B tw tb ti g gs : Nat} {v0 v1 v2 vo v' : Value} {w w2 : World} {s : List Bool} {o' : List Nat} (htw : tw ≠ ti) (htb : tw ≠ tb)
    (h1 : w2.ownsRow B tw 5 (.slice (some ⟨g, 0, none⟩) 1 1) 1 [v0, v1, v2, .slice (some ⟨gs, 0, none⟩) F.blocks.length F.blocks.length, vo])
    (h2 : w2.ownsRow B tb 1 (.slice (some ⟨gs, 0, none⟩) F.blocks.length F.blocks.length) F.blocks.length (s.map Value.bool))
    (h3 : w2.ownsRow B ti 1 v' o'.length ((ints o'.reverse).map (Value.int .i64))) (hb : Below B w w2) :
    VisSt F B tw tb ti g gs v0 v1 v2 (w2.setCell ⟨g, 4, none⟩ v') s o' ∧ Below B w (w2.setCell ⟨g, 4, none⟩ v') ∧ ∀ p : Addr, p.block ≠ g → (w2.setCell ⟨g, 4, none⟩ v').cell? p = w2.cell? p := by
  refine ⟨⟨v', (h1.stored 4 v').1, ownsRow_setCell_other h2 (a := ⟨g, 4, none⟩) (fun e => own_ne h1 h2 htb (g := g) rfl e) _, ownsRow_setCell_other h3 (a := ⟨g, 4, none⟩) (fun e => own_ne h1 h3 htw (g := g) rfl e) _⟩, hb.setCell (h1.lt g rfl).1 _, fun p hp => ?_⟩
  exact World.cell?_setCell_other _ _ _ _ (fun e => hp (by rw [← e]))
set_option maxHeartbeats 4000000 in
theorem visit_calls {W : World} {A0 A1 A2 : Option Addr} {c0 c1 c2 : Nat} {F : PFunc} (hF : FnV W W.heap.size (.agg #[.slice A0 F.vars.length c0, .slice A1 F.params.length c1, .slice A2 F.blocks.length c2]) F) (hT : typedP F = true) (B g gs : Nat) (hWB : W.heap.size ≤ B) :
    ∀ (m : Nat) (w : World) (seen : List Bool) (out : List Nat) (b : Nat), left seen ≤ m → seen.getD b false = false → b < F.blocks.length → seen.length = F.blocks.length → out.length + left seen ≤ F.blocks.length → Below W.heap.size W w → B ≤ w.heap.size →
      VisSt F B 59 4 3 g gs (.slice A0 F.vars.length c0) (.slice A1 F.params.length c1) (.slice A2 F.blocks.length c2) w seen out →
      Calls Tryd.prog 24 #[.pointer (some ⟨g, 0, none⟩), .int .i64 (b : Int)] w fun e w' => e = .returned (.tuple #[]) ∧ ∃ s' o', Vis (EN F) (seen.set b true) out b 0 s' o' ∧ s'.length = F.blocks.length ∧ o'.length + left s' ≤ out.length + left seen ∧
        VisSt F B 59 4 3 g gs (.slice A0 F.vars.length c0) (.slice A1 F.params.length c1) (.slice A2 F.blocks.length c2) w' s' o' ∧ Below B w w' ∧ w.heap.size ≤ w'.heap.size ∧ left s' ≤ left seen ∧ ∀ p : Addr, p.block < w.heap.size → p.block ≠ g → p.block ≠ gs → w'.cell? p = w.cell? p
  | 0, w, seen, out, b, hm, hs, hb, hl, ho, hW, hB, hst => by
    have := left_set (t := seen) (y := b) (by omega) hs
    omega
  | m + 1, w, seen, out, b, hm, hs, hb, hl, ho, hW, hB, hst => by
    have ih := Lib.hid (visit_calls hF hT B g gs hWB m)
    have hld := Lib.hid (fun (w' : World) (h : Below W.heap.size W w') (y : Int) => leads_calls hF h (b : Int) y (by omega) (by omega))
    obtain ⟨n1, n2⟩ := shaped_count (typed_shaped hT)
    obtain ⟨B0, d0, B1, d1, B2, d2, hv, l0, l1, l2, -, -, -, r0, r1, r2⟩ := id hF.open_
    simp only [Value.agg.injEq, Array.mk.injEq, List.cons.injEq, Value.slice.injEq, and_true, true_and] at hv
    obtain ⟨⟨rfl, rfl⟩, ⟨rfl, rfl⟩, ⟨rfl, rfl⟩⟩ := hv
    unfold Len at *
    have hWs := hW.size
    have hls := left_set (t := seen) (y := b) (by omega) hs
    obtain ⟨vo, hrec, hmk, hout⟩ := hst
    obtain ⟨bb, off, A3, c3, A4, c4, rfl, hbb, -, -, -, -, hy3', hy4', hy5', hy6', -⟩ := r2.blk (Below.refl _ _) hb
    have hbw : bb < w.heap.size := by omega
    have hy3 := (hW.cell (p := ⟨bb, off + b * 7 + 3, none⟩) hbb).trans hy3'
    have hy4 := (hW.cell (p := ⟨bb, off + b * 7 + 4, none⟩) hbb).trans hy4'
    have hy5 := (hW.cell (p := ⟨bb, off + b * 7 + 5, none⟩) hbb).trans hy5'
    have hy6 := (hW.cell (p := ⟨bb, off + b * 7 + 6, none⟩) hbb).trans hy6'
    clear hy3' hy4' hy5' hy6'
    have hrl := (hrec.lt _ rfl)
    have hml := (hmk.lt _ rfl)
    have hne : g ≠ gs := fun e => own_ne hrec hmk (by decide) (g := g) rfl (by rw [e]; rfl)
    have q0 := hrec.cellAt 0 (by omega)
    have q1 := hrec.cellAt 1 (by omega)
    have q2 := hrec.cellAt 2 (by omega)
    have q3 := hrec.cellAt 3 (by omega)
    have q4 := hrec.cellAt 4 (by omega)
    simp at q0 q1 q2 q3 q4
    have hcb := own_bool hmk hb
    rw [hs] at hcb
    have hfz := hmk.frozenAt b
    simp only at hrl hml
    have hne' : ¬ bb = gs := by omega
    have HS := Lib.hid hs
    have hne2 : ∀ x y, (⟨gs, x, none⟩ : Addr) ≠ ⟨bb, y, none⟩ := fun x y e => hne' (congrArg Addr.block e).symm
    clear hs
    go_enter Tryd.func24, Tryd.ntmps24
    have hrec1 := (ownsRow_setCell_other hrec (a := ⟨gs, b, none⟩) (fun e => own_ne hmk hrec (by decide) (g := gs) rfl e) (.bool true)).alloc (.cells #[.int .i64 (F.blk b).term.kind, .int .i64 (F.blk b).term.var, .int .i64 (F.blk b).term.t0, .int .i64 (F.blk b).term.t1] 34)
    have hmk1 := (hmk.stored b (.bool true)).1.alloc (.cells #[.int .i64 (F.blk b).term.kind, .int .i64 (F.blk b).term.var, .int .i64 (F.blk b).term.t0, .int .i64 (F.blk b).term.t1] 34)
    have hout1 := (ownsRow_setCell_other hout (a := ⟨gs, b, none⟩) (fun e => own_ne hmk hout (by decide) (g := gs) rfl e) (.bool true)).alloc (.cells #[.int .i64 (F.blk b).term.kind, .int .i64 (F.blk b).term.var, .int .i64 (F.blk b).term.t0, .int .i64 (F.blk b).term.t1] 34)
    rw [bool_set] at hmk1
    have HR1 := Lib.hid hrec1
    have HM1 := Lib.hid hmk1
    have HO1 := Lib.hid hout1
    have hlb := left_set (t := seen) (y := b) (by omega) HS.out
    have hlen2 : (EN F b).length ≤ 2 := EN_len2 F b
    clear hrec1 hmk1 hout1
    have hgn := heap_alloc_new (w.setCell ⟨gs, b, none⟩ (.bool true)) (.cells #[.int .i64 (F.blk b).term.kind, .int .i64 (F.blk b).term.var, .int .i64 (F.blk b).term.t0, .int .i64 (F.blk b).term.t1] 34)
    rw [show (w.setCell ⟨gs, b, none⟩ (.bool true)).heap.size = w.heap.size by simp] at hgn
    have HGN := Lib.hid hgn
    clear hgn
    obtain ⟨ii, hii, hj0, hj1, hj2⟩ := info_parts Tryd.info3
    go_wp2_with fail
    clear hcb hfz q0 q1 q2 q3 q4 hne2 hy3 hy4 hy5 hy6
    go_loopw [21] (fun i wr => ∃ (k : Nat) (s : List Bool) (o : List Nat), i = .int .i64 k ∧ k ≤ 2 ∧ VisSt F B 59 4 3 g gs (.slice A0 F.vars.length c0) (.slice A1 F.params.length c1) (.slice (some ⟨bb, off, none⟩) F.blocks.length c2) wr s o ∧ s.length = F.blocks.length ∧ o.length + left s + 1 ≤ out.length + left seen ∧ left s ≤ m ∧ left s ≤ left seen ∧
      Hid (∀ s' o', Vis (EN F) s o b (min k (EN F b).length) s' o' → Vis (EN F) (seen.set b true) out b 0 s' o') ∧ Hid (∀ c ∈ (EN F b).take k, s.getD c false = true) ∧
      wr.cell? ⟨w.heap.size, 0, none⟩ = some (.int .i64 (F.blk b).term.kind) ∧ wr.cell? ⟨w.heap.size, 2, none⟩ = some (.int .i64 (F.blk b).term.t0) ∧ wr.cell? ⟨w.heap.size, 3, none⟩ = some (.int .i64 (F.blk b).term.t1) ∧
      Below B w wr ∧ w.heap.size < wr.heap.size ∧ Hid (∀ p : Addr, p.block < w.heap.size → p.block ≠ g → p.block ≠ gs → wr.cell? p = w.cell? p)) (fun i _ => 2 - (intOf i).toNat)
    case atStart =>
      refine ⟨0, seen.set b true, out, rfl, by omega, ⟨vo, HR1.out, HM1.out, HO1.out⟩, by simpa using hl, by omega, by omega, by omega, fun s' o' h => by simpa using h, fun c hc => by simp at hc, ?_, ?_, ?_, (Below.setCell (Below.refl _ _) hml.1 _).alloc (by simpa using hB) _, by simp, fun p hp h1 h2 => ?_⟩
      · exact (cell_of_row _ _ 0 _ _ _ HGN.out)
      · exact (cell_of_row _ _ 2 _ _ _ HGN.out)
      · exact (cell_of_row _ _ 3 _ _ _ HGN.out)
      · exact (((Below.refl w.heap.size (w.setCell ⟨gs, b, none⟩ (.bool true))).alloc (by simp) _).cell hp).trans (World.cell?_setCell_other _ _ _ _ (fun e => h2 (by rw [← e])))
    case round => as_aux_lemma =>
      obtain ⟨k, s, o, rfl, hk, hst, hsl, hol, hlm, hls2, HC, HP, e0, e2, e3, hb1, htz, HFR⟩ := hrel
      by_cases hk2 : k < 2
      · have HST := Lib.hid hst
        obtain ⟨vo', hrec, hmk, -⟩ := hst
        have q0 := hrec.cellAt 0 (by omega)
        have q1 := hrec.cellAt 1 (by omega)
        have q2 := hrec.cellAt 2 (by omega)
        have q3 := hrec.cellAt 3 (by omega)
        simp at q0 q1 q2 q3
        have hgz : g < wr.heap.size := (hrec.lt _ rfl).2
        have hgsz : gs < wr.heap.size := (hmk.lt _ rfl).2
        have hBz : B ≤ wr.heap.size := by omega
        have hWr : Below W.heap.size W wr := hW.trans (hb1.mono hWB)
        have HLD := Lib.hid (fun (y : Int) (w' : World) (h : Below wr.heap.size wr w') => hld.out w' (hWr.trans (h.mono hWr.size)) y)
        have HNX := Lib.hid (fun (s2 : List Bool) (o2 : List Nat) (w' : World) (h : Below wr.heap.size wr w') => (⟨HST.out.below h, (h.cell (p := ⟨w.heap.size, 0, none⟩) htz).trans e0, (h.cell (p := ⟨w.heap.size, 2, none⟩) htz).trans e2, (h.cell (p := ⟨w.heap.size, 3, none⟩) htz).trans e3, hb1.trans (h.mono hBz), Nat.lt_of_lt_of_le htz h.size, fun p hp h1 h2 => (h.cell (by omega)).trans (HFR.out p hp h1 h2)⟩ : VisSt F B 59 4 3 g gs (.slice A0 F.vars.length c0) (.slice A1 F.params.length c1) (.slice (some ⟨bb, off, none⟩) F.blocks.length c2) w' s o ∧ w'.cell? ⟨w.heap.size, 0, none⟩ = some (.int .i64 (F.blk b).term.kind) ∧ w'.cell? ⟨w.heap.size, 2, none⟩ = some (.int .i64 (F.blk b).term.t0) ∧ w'.cell? ⟨w.heap.size, 3, none⟩ = some (.int .i64 (F.blk b).term.t1) ∧ Below B w w' ∧ w.heap.size < w'.heap.size ∧ ∀ p : Addr, p.block < w.heap.size → p.block ≠ g → p.block ≠ gs → w'.cell? p = w.cell? p))
        obtain ⟨kd, hkd⟩ : ∃ x, (F.blk b).term.kind = x := ⟨_, rfl⟩
        obtain ⟨t0, ht0⟩ : ∃ x, (F.blk b).term.t0 = x := ⟨_, rfl⟩
        obtain ⟨t1, ht1⟩ : ∃ x, (F.blk b).term.t1 = x := ⟨_, rfl⟩
        have HKD := Lib.hid hkd
        have HT0 := Lib.hid ht0
        have HT1 := Lib.hid ht1
        rw [hkd] at e0
        rw [ht0] at e2
        rw [ht1] at e3
        clear hkd ht0 ht1 hrec
        by_cases hk0 : kd = 0 ∨ kd = 1
        case neg =>
          have hen : EN F b = [] := by
            unfold EN endsOf
            rw [HKD.out, if_neg (fun e => hk0 (.inl e)), if_neg (fun e => hk0 (.inr e))]
            rfl
          have hle : ∀ y, leads (F.blk b).term y = false := fun y => by
            unfold leads
            rw [HKD.out]
            simp only [not_or] at hk0
            simp [hk0.1, hk0.2]
          have HN := Lib.hid hen
          have HLL := Lib.hid hle
          clear hen hle hk0
          obtain rfl | rfl : k = 0 ∨ k = 1 := by omega
          · have hl := HLD.out t0
            simp only [Int.toNat_natCast, HLL.out] at hl
            go_wp2_with fail
            obtain ⟨S0, hS0⟩ : ∃ S0 : World → Prop, S0 = fun w' => w'.cell? ⟨g, 0, none⟩ = some (.slice A0 F.vars.length c0) ∧ w'.cell? ⟨g, 1, none⟩ = some (.slice A1 F.params.length c1) ∧ w'.cell? ⟨g, 2, none⟩ = some (.slice (some ⟨bb, off, none⟩) F.blocks.length c2) ∧ w'.cell? ⟨g, 3, none⟩ = some (.slice (some ⟨gs, 0, none⟩) F.blocks.length F.blocks.length) ∧ w'.cell? ⟨w.heap.size, 0, none⟩ = some (.int .i64 kd) ∧ w'.cell? ⟨w.heap.size, 2, none⟩ = some (.int .i64 t0) ∧ w'.cell? ⟨w.heap.size, 3, none⟩ = some (.int .i64 t1) ∧ Below wr.heap.size wr w' ∧ g < w'.heap.size ∧ gs < w'.heap.size ∧ w.heap.size < w'.heap.size := ⟨_, rfl⟩
            have HS0 := Lib.hid hS0
            clear hS0
            have k0 : ∀ xw : WS S0, xw.w.cell? ⟨g, 0, none⟩ = some (.slice A0 F.vars.length c0) := fun xw => by have hp := cast (congrFun HS0.out xw.w) xw.h; exact hp.1
            have k1 : ∀ xw : WS S0, xw.w.cell? ⟨g, 1, none⟩ = some (.slice A1 F.params.length c1) := fun xw => by have hp := cast (congrFun HS0.out xw.w) xw.h; exact hp.2.1
            have k2 : ∀ xw : WS S0, xw.w.cell? ⟨g, 2, none⟩ = some (.slice (some ⟨bb, off, none⟩) F.blocks.length c2) := fun xw => by have hp := cast (congrFun HS0.out xw.w) xw.h; exact hp.2.2.1
            have k3 : ∀ xw : WS S0, xw.w.cell? ⟨g, 3, none⟩ = some (.slice (some ⟨gs, 0, none⟩) F.blocks.length F.blocks.length) := fun xw => by have hp := cast (congrFun HS0.out xw.w) xw.h; exact hp.2.2.2.1
            have k4 : ∀ xw : WS S0, xw.w.cell? ⟨w.heap.size, 0, none⟩ = some (.int .i64 kd) := fun xw => by have hp := cast (congrFun HS0.out xw.w) xw.h; exact hp.2.2.2.2.1
            have k5 : ∀ xw : WS S0, xw.w.cell? ⟨w.heap.size, 2, none⟩ = some (.int .i64 t0) := fun xw => by have hp := cast (congrFun HS0.out xw.w) xw.h; exact hp.2.2.2.2.2.1
            have k6 : ∀ xw : WS S0, xw.w.cell? ⟨w.heap.size, 3, none⟩ = some (.int .i64 t1) := fun xw => by have hp := cast (congrFun HS0.out xw.w) xw.h; exact hp.2.2.2.2.2.2.1
            have k7 : ∀ xw : WS S0, Below wr.heap.size wr xw.w := fun xw => by have hp := cast (congrFun HS0.out xw.w) xw.h; exact hp.2.2.2.2.2.2.2.1
            have k8 : ∀ xw : WS S0, g < xw.w.heap.size := fun xw => by have hp := cast (congrFun HS0.out xw.w) xw.h; exact hp.2.2.2.2.2.2.2.2.1
            have k9 : ∀ xw : WS S0, gs < xw.w.heap.size := fun xw => by have hp := cast (congrFun HS0.out xw.w) xw.h; exact hp.2.2.2.2.2.2.2.2.2.1
            have k10 : ∀ xw : WS S0, w.heap.size < xw.w.heap.size := fun xw => by have hp := cast (congrFun HS0.out xw.w) xw.h; exact hp.2.2.2.2.2.2.2.2.2.2
            refine wp_region_sched (S := S0) [0, 1, 2, 3, 4, 5, 6, 7, 8, 9, 10, 11, 12, 13, 14, 15, 16, 17, 18, 19, 20, 21, 22, 23, 24, 25, 26, 27, 28, 29, 30, 31] (by kernel_rfl) (by kernel_rfl) (fun _ _ _ _ _ h => h) ?hS (fun hSc => ?_)
            case hS =>
              rw [HS0.out]
              refine ⟨?_, ?_, ?_, ?_, ?_, ?_, ?_, ?_, ?_, ?_, ?_⟩
              · first | assumption | (go_keep; done) | (go_simp; done)
              · first | assumption | (go_keep; done) | (go_simp; done)
              · first | assumption | (go_keep; done) | (go_simp; done)
              · first | assumption | (go_keep; done) | (go_simp; done)
              · first | assumption | (go_keep; done) | (go_simp; done)
              · first | assumption | (go_keep; done) | (go_simp; done)
              · first | assumption | (go_keep; done) | (go_simp; done)
              · (focus repeat (first | assumption | exact Below.refl _ _ | refine Below.drew ?_ | refine Below.alloc ?_ (by first | omega | exact Below.size (by assumption) | (simp; done) | (simp; omega)) _ | refine Below.setCell ?_ (by first | omega | exact Below.size (by assumption) | (simp; done) | (simp; omega)) _ | refine below_setRow ?_ (by first | omega | exact Below.size (by assumption) | (simp; done) | (simp; omega)) _ | (refine Below.trans ?_ (Below.mono (by assumption) ?_); rotate_left; exact (by first | omega | exact Below.size (by assumption) | (simp; done) | (simp; omega)))))
              · first | omega | (rw [heap_drew]; omega) | (simp; done) | (simp; omega)
              · first | omega | (rw [heap_drew]; omega) | (simp; done) | (simp; omega)
              · first | omega | (rw [heap_drew]; omega) | (simp; done) | (simp; omega)
            have hne0 : Nonempty (WS S0) := ⟨⟨_, hSc⟩⟩
            simp only [List.map_cons, List.map_nil, List.getD_cons_succ, List.getD_cons_zero]
            refine wpSch_looks (L1 := [_, _, _, _, _, _, _, _, _]) (L2 := _) rfl ?_
            iterate 9 (go_big_quiet_step (fail))
            refine wpQuiet_nil ?_
            (try dsimp only)
            refine wpSch_act rfl rfl (fun K hK => ?_)
            go_simp
            go_wp2_with (go_at_call 9; refine (hl _ (by (focus repeat (first | assumption | exact Below.refl _ _ | refine Below.drew ?_ | refine Below.alloc ?_ (by first | omega | exact Below.size (by assumption) | (simp; done) | (simp; omega)) _ | refine Below.setCell ?_ (by first | omega | exact Below.size (by assumption) | (simp; done) | (simp; omega)) _ | refine below_setRow ?_ (by first | omega | exact Below.size (by assumption) | (simp; done) | (simp; omega)) _ | (refine Below.trans ?_ (Below.mono (by assumption) ?_); rotate_left; exact (by first | omega | exact Below.size (by assumption) | (simp; done) | (simp; omega))))))).mono ?_; (rintro e w9 ⟨rfl, hb9⟩; obtain ⟨hc9, hf9⟩ := bcell hb9; have hz9 := hb9.size; try simp at hz9; try have hy9 := Nat.lt_of_succ_le hz9; try have hx9 := Nat.lt_of_succ_lt hy9; try have hw9 := Nat.lt_of_succ_lt hx9))
            refine hK.out _ _ ?hS (fun hSc => ?_)
            case hS =>
              first
              | exact hSc
              | (rw [HS0.out] at hSc ⊢; obtain ⟨p0, p1, p2, p3, p4, p5, p6, p7, p8, p9, p10⟩ := hSc; exact ⟨(hc9 _ _ (by first | assumption | omega)).trans p0, (hc9 _ _ (by first | assumption | omega)).trans p1, (hc9 _ _ (by first | assumption | omega)).trans p2, (hc9 _ _ (by first | assumption | omega)).trans p3, (hc9 _ _ (by first | assumption | omega)).trans p4, (hc9 _ _ (by first | assumption | omega)).trans p5, (hc9 _ _ (by first | assumption | omega)).trans p6, p7.trans (hb9.mono (by have := p7.size; omega)), Nat.lt_of_lt_of_le p8 hb9.size, Nat.lt_of_lt_of_le p9 hb9.size, Nat.lt_of_lt_of_le p10 hb9.size⟩)
            clear hK K
            refine wpSch_looks (L1 := [_, _, _, _, _, _, _, _, _, _, _, _, _, _, _, _, _, _, _, _, _, _]) (L2 := _) rfl ?_
            iterate 22 (go_big_quiet_step (fail))
            refine wpQuiet_nil ?_
            (try dsimp only)
            refine wpSch_nil ?_
            rw [HS0.out] at hSc
            obtain ⟨p0, p1, p2, p3, p4, p5, p6, p7, p8, p9, p10⟩ := hSc
            clear hne0 HS0 k0 k1 k2 k3 k4 k5 k6 k7 k8 k9 k10
            go_wp2_with fail
            go_roundw
            case rel =>
              obtain ⟨x1, x2, x3, x4, x5, x6, x7⟩ := HNX.out s o _ p7
              exact ⟨1, s, o, by go_num, by omega, x1, hsl, hol, hlm, hls2, fun s' o' h => HC.out s' o' (by rw [HN.out] at h ⊢; simpa using h), fun c hc => by (rw [HN.out] at hc; simp at hc), x2, x3, x4, x5, x6, x7⟩
            case measure => simp [intOf]
          · have hl := HLD.out t1
            simp only [Int.toNat_natCast, HLL.out] at hl
            go_wp2_with fail
            obtain ⟨S0, hS0⟩ : ∃ S0 : World → Prop, S0 = fun w' => w'.cell? ⟨g, 0, none⟩ = some (.slice A0 F.vars.length c0) ∧ w'.cell? ⟨g, 1, none⟩ = some (.slice A1 F.params.length c1) ∧ w'.cell? ⟨g, 2, none⟩ = some (.slice (some ⟨bb, off, none⟩) F.blocks.length c2) ∧ w'.cell? ⟨g, 3, none⟩ = some (.slice (some ⟨gs, 0, none⟩) F.blocks.length F.blocks.length) ∧ w'.cell? ⟨w.heap.size, 0, none⟩ = some (.int .i64 kd) ∧ w'.cell? ⟨w.heap.size, 2, none⟩ = some (.int .i64 t0) ∧ w'.cell? ⟨w.heap.size, 3, none⟩ = some (.int .i64 t1) ∧ Below wr.heap.size wr w' ∧ g < w'.heap.size ∧ gs < w'.heap.size ∧ w.heap.size < w'.heap.size := ⟨_, rfl⟩
            have HS0 := Lib.hid hS0
            clear hS0
            have k0 : ∀ xw : WS S0, xw.w.cell? ⟨g, 0, none⟩ = some (.slice A0 F.vars.length c0) := fun xw => by have hp := cast (congrFun HS0.out xw.w) xw.h; exact hp.1
            have k1 : ∀ xw : WS S0, xw.w.cell? ⟨g, 1, none⟩ = some (.slice A1 F.params.length c1) := fun xw => by have hp := cast (congrFun HS0.out xw.w) xw.h; exact hp.2.1
            have k2 : ∀ xw : WS S0, xw.w.cell? ⟨g, 2, none⟩ = some (.slice (some ⟨bb, off, none⟩) F.blocks.length c2) := fun xw => by have hp := cast (congrFun HS0.out xw.w) xw.h; exact hp.2.2.1
            have k3 : ∀ xw : WS S0, xw.w.cell? ⟨g, 3, none⟩ = some (.slice (some ⟨gs, 0, none⟩) F.blocks.length F.blocks.length) := fun xw => by have hp := cast (congrFun HS0.out xw.w) xw.h; exact hp.2.2.2.1
            have k4 : ∀ xw : WS S0, xw.w.cell? ⟨w.heap.size, 0, none⟩ = some (.int .i64 kd) := fun xw => by have hp := cast (congrFun HS0.out xw.w) xw.h; exact hp.2.2.2.2.1
            have k5 : ∀ xw : WS S0, xw.w.cell? ⟨w.heap.size, 2, none⟩ = some (.int .i64 t0) := fun xw => by have hp := cast (congrFun HS0.out xw.w) xw.h; exact hp.2.2.2.2.2.1
            have k6 : ∀ xw : WS S0, xw.w.cell? ⟨w.heap.size, 3, none⟩ = some (.int .i64 t1) := fun xw => by have hp := cast (congrFun HS0.out xw.w) xw.h; exact hp.2.2.2.2.2.2.1
            have k7 : ∀ xw : WS S0, Below wr.heap.size wr xw.w := fun xw => by have hp := cast (congrFun HS0.out xw.w) xw.h; exact hp.2.2.2.2.2.2.2.1
            have k8 : ∀ xw : WS S0, g < xw.w.heap.size := fun xw => by have hp := cast (congrFun HS0.out xw.w) xw.h; exact hp.2.2.2.2.2.2.2.2.1
            have k9 : ∀ xw : WS S0, gs < xw.w.heap.size := fun xw => by have hp := cast (congrFun HS0.out xw.w) xw.h; exact hp.2.2.2.2.2.2.2.2.2.1
            have k10 : ∀ xw : WS S0, w.heap.size < xw.w.heap.size := fun xw => by have hp := cast (congrFun HS0.out xw.w) xw.h; exact hp.2.2.2.2.2.2.2.2.2.2
            refine wp_region_sched (S := S0) [0, 1, 2, 3, 4, 5, 6, 7, 8, 9, 10, 11, 12, 13, 14, 15, 16, 17, 18, 19, 20, 21, 22, 23, 24, 25, 26, 27, 28, 29, 30, 31] (by kernel_rfl) (by kernel_rfl) (fun _ _ _ _ _ h => h) ?hS (fun hSc => ?_)
            case hS =>
              rw [HS0.out]
              refine ⟨?_, ?_, ?_, ?_, ?_, ?_, ?_, ?_, ?_, ?_, ?_⟩
              · first | assumption | (go_keep; done) | (go_simp; done)
              · first | assumption | (go_keep; done) | (go_simp; done)
              · first | assumption | (go_keep; done) | (go_simp; done)
              · first | assumption | (go_keep; done) | (go_simp; done)
              · first | assumption | (go_keep; done) | (go_simp; done)
              · first | assumption | (go_keep; done) | (go_simp; done)
              · first | assumption | (go_keep; done) | (go_simp; done)
              · (focus repeat (first | assumption | exact Below.refl _ _ | refine Below.drew ?_ | refine Below.alloc ?_ (by first | omega | exact Below.size (by assumption) | (simp; done) | (simp; omega)) _ | refine Below.setCell ?_ (by first | omega | exact Below.size (by assumption) | (simp; done) | (simp; omega)) _ | refine below_setRow ?_ (by first | omega | exact Below.size (by assumption) | (simp; done) | (simp; omega)) _ | (refine Below.trans ?_ (Below.mono (by assumption) ?_); rotate_left; exact (by first | omega | exact Below.size (by assumption) | (simp; done) | (simp; omega)))))
              · first | omega | (rw [heap_drew]; omega) | (simp; done) | (simp; omega)
              · first | omega | (rw [heap_drew]; omega) | (simp; done) | (simp; omega)
              · first | omega | (rw [heap_drew]; omega) | (simp; done) | (simp; omega)
            have hne0 : Nonempty (WS S0) := ⟨⟨_, hSc⟩⟩
            simp only [List.map_cons, List.map_nil, List.getD_cons_succ, List.getD_cons_zero]
            refine wpSch_looks (L1 := [_, _, _, _, _, _, _, _, _]) (L2 := _) rfl ?_
            iterate 9 (go_big_quiet_step (fail))
            refine wpQuiet_nil ?_
            (try dsimp only)
            refine wpSch_act rfl rfl (fun K hK => ?_)
            go_simp
            go_wp2_with (go_at_call 9; refine (hl _ (by (focus repeat (first | assumption | exact Below.refl _ _ | refine Below.drew ?_ | refine Below.alloc ?_ (by first | omega | exact Below.size (by assumption) | (simp; done) | (simp; omega)) _ | refine Below.setCell ?_ (by first | omega | exact Below.size (by assumption) | (simp; done) | (simp; omega)) _ | refine below_setRow ?_ (by first | omega | exact Below.size (by assumption) | (simp; done) | (simp; omega)) _ | (refine Below.trans ?_ (Below.mono (by assumption) ?_); rotate_left; exact (by first | omega | exact Below.size (by assumption) | (simp; done) | (simp; omega))))))).mono ?_; (rintro e w9 ⟨rfl, hb9⟩; obtain ⟨hc9, hf9⟩ := bcell hb9; have hz9 := hb9.size; try simp at hz9; try have hy9 := Nat.lt_of_succ_le hz9; try have hx9 := Nat.lt_of_succ_lt hy9; try have hw9 := Nat.lt_of_succ_lt hx9))
            refine hK.out _ _ ?hS (fun hSc => ?_)
            case hS =>
              first
              | exact hSc
              | (rw [HS0.out] at hSc ⊢; obtain ⟨p0, p1, p2, p3, p4, p5, p6, p7, p8, p9, p10⟩ := hSc; exact ⟨(hc9 _ _ (by first | assumption | omega)).trans p0, (hc9 _ _ (by first | assumption | omega)).trans p1, (hc9 _ _ (by first | assumption | omega)).trans p2, (hc9 _ _ (by first | assumption | omega)).trans p3, (hc9 _ _ (by first | assumption | omega)).trans p4, (hc9 _ _ (by first | assumption | omega)).trans p5, (hc9 _ _ (by first | assumption | omega)).trans p6, p7.trans (hb9.mono (by have := p7.size; omega)), Nat.lt_of_lt_of_le p8 hb9.size, Nat.lt_of_lt_of_le p9 hb9.size, Nat.lt_of_lt_of_le p10 hb9.size⟩)
            clear hK K
            refine wpSch_looks (L1 := [_, _, _, _, _, _, _, _, _, _, _, _, _, _, _, _, _, _, _, _, _, _]) (L2 := _) rfl ?_
            iterate 22 (go_big_quiet_step (fail))
            refine wpQuiet_nil ?_
            (try dsimp only)
            refine wpSch_nil ?_
            rw [HS0.out] at hSc
            obtain ⟨p0, p1, p2, p3, p4, p5, p6, p7, p8, p9, p10⟩ := hSc
            clear hne0 HS0 k0 k1 k2 k3 k4 k5 k6 k7 k8 k9 k10
            go_wp2_with fail
            go_roundw
            case rel =>
              obtain ⟨x1, x2, x3, x4, x5, x6, x7⟩ := HNX.out s o _ p7
              exact ⟨2, s, o, by go_num, by omega, x1, hsl, hol, hlm, hls2, fun s' o' h => HC.out s' o' (by rw [HN.out] at h ⊢; simpa using h), fun c hc => by (rw [HN.out] at hc; simp at hc), x2, x3, x4, x5, x6, x7⟩
            case measure => simp [intOf]
        have hin0 := inB_true (ends_in hT hb (F.blk b).term.t0 (by
          unfold endsOf
          rw [HKD.out]
          rcases hk0 with e | e
          · rw [if_pos e]; simp
          · rw [if_neg (by omega), if_pos e]; split <;> simp))
        rw [HT0.out] at hin0
        obtain ⟨c, rfl⟩ : ∃ c : Nat, t0 = (c : Int) := ⟨t0.toNat, by omega⟩
        have hcn : c < F.blocks.length := by omega
        have hl0 : leads (F.blk b).term (c : Int) = true := by
          unfold leads
          rw [HKD.out, HT0.out]
          rcases hk0 with e | e <;> simp [e]
        have h0c : (EN F b).getD 0 0 = c ∧ 1 ≤ (EN F b).length ∧ (EN F b).take 1 = [c] := by
          unfold EN endsOf
          rw [HKD.out, HT0.out]
          rcases hk0 with e | e
          · rw [if_pos e]; simp
          · rw [if_neg (by omega), if_pos e]; split <;> simp
        have H0 := Lib.hid h0c
        have HK0 := Lib.hid hk0
        have hcc := own_bool hmk hcn
        clear hin0 h0c hmk hk0
        obtain rfl | rfl : k = 0 ∨ k = 1 := by omega
        · have hl := HLD.out (c : Int)
          simp only [Int.toNat_natCast, hl0] at hl
          clear hl0
          cases hsc : s.getD c false
          · rw [hsc] at hcc
            have HSC := Lib.hid hsc
            clear hsc
            go_wp2_with fail
            obtain ⟨S0, hS0⟩ : ∃ S0 : World → Prop, S0 = fun w' => w'.cell? ⟨g, 0, none⟩ = some (.slice A0 F.vars.length c0) ∧ w'.cell? ⟨g, 1, none⟩ = some (.slice A1 F.params.length c1) ∧ w'.cell? ⟨g, 2, none⟩ = some (.slice (some ⟨bb, off, none⟩) F.blocks.length c2) ∧ w'.cell? ⟨g, 3, none⟩ = some (.slice (some ⟨gs, 0, none⟩) F.blocks.length F.blocks.length) ∧ w'.cell? ⟨w.heap.size, 0, none⟩ = some (.int .i64 kd) ∧ w'.cell? ⟨w.heap.size, 2, none⟩ = some (.int .i64 (c : Int)) ∧ w'.cell? ⟨w.heap.size, 3, none⟩ = some (.int .i64 t1) ∧ w'.cell? ⟨gs, c, none⟩ = some (.bool false) ∧ Below wr.heap.size wr w' ∧ g < w'.heap.size ∧ gs < w'.heap.size ∧ w.heap.size < w'.heap.size := ⟨_, rfl⟩
            have HS0 := Lib.hid hS0
            clear hS0
            have k0 : ∀ xw : WS S0, xw.w.cell? ⟨g, 0, none⟩ = some (.slice A0 F.vars.length c0) := fun xw => by have hp := cast (congrFun HS0.out xw.w) xw.h; exact hp.1
            have k1 : ∀ xw : WS S0, xw.w.cell? ⟨g, 1, none⟩ = some (.slice A1 F.params.length c1) := fun xw => by have hp := cast (congrFun HS0.out xw.w) xw.h; exact hp.2.1
            have k2 : ∀ xw : WS S0, xw.w.cell? ⟨g, 2, none⟩ = some (.slice (some ⟨bb, off, none⟩) F.blocks.length c2) := fun xw => by have hp := cast (congrFun HS0.out xw.w) xw.h; exact hp.2.2.1
            have k3 : ∀ xw : WS S0, xw.w.cell? ⟨g, 3, none⟩ = some (.slice (some ⟨gs, 0, none⟩) F.blocks.length F.blocks.length) := fun xw => by have hp := cast (congrFun HS0.out xw.w) xw.h; exact hp.2.2.2.1
            have k4 : ∀ xw : WS S0, xw.w.cell? ⟨w.heap.size, 0, none⟩ = some (.int .i64 kd) := fun xw => by have hp := cast (congrFun HS0.out xw.w) xw.h; exact hp.2.2.2.2.1
            have k5 : ∀ xw : WS S0, xw.w.cell? ⟨w.heap.size, 2, none⟩ = some (.int .i64 (c : Int)) := fun xw => by have hp := cast (congrFun HS0.out xw.w) xw.h; exact hp.2.2.2.2.2.1
            have k6 : ∀ xw : WS S0, xw.w.cell? ⟨w.heap.size, 3, none⟩ = some (.int .i64 t1) := fun xw => by have hp := cast (congrFun HS0.out xw.w) xw.h; exact hp.2.2.2.2.2.2.1
            have k7 : ∀ xw : WS S0, xw.w.cell? ⟨gs, c, none⟩ = some (.bool false) := fun xw => by have hp := cast (congrFun HS0.out xw.w) xw.h; exact hp.2.2.2.2.2.2.2.1
            have k8 : ∀ xw : WS S0, Below wr.heap.size wr xw.w := fun xw => by have hp := cast (congrFun HS0.out xw.w) xw.h; exact hp.2.2.2.2.2.2.2.2.1
            have k9 : ∀ xw : WS S0, g < xw.w.heap.size := fun xw => by have hp := cast (congrFun HS0.out xw.w) xw.h; exact hp.2.2.2.2.2.2.2.2.2.1
            have k10 : ∀ xw : WS S0, gs < xw.w.heap.size := fun xw => by have hp := cast (congrFun HS0.out xw.w) xw.h; exact hp.2.2.2.2.2.2.2.2.2.2.1
            have k11 : ∀ xw : WS S0, w.heap.size < xw.w.heap.size := fun xw => by have hp := cast (congrFun HS0.out xw.w) xw.h; exact hp.2.2.2.2.2.2.2.2.2.2.2
            refine wp_region_sched (S := S0) [0, 1, 2, 3, 4, 5, 6, 7, 8, 9, 10, 11, 12, 13, 14, 15, 16, 17, 18, 19, 20, 21, 22, 23, 24, 25, 26, 27, 28, 29, 30, 31] (by kernel_rfl) (by kernel_rfl) (fun _ _ _ _ _ h => h) ?hS (fun hSc => ?_)
            case hS =>
              rw [HS0.out]
              refine ⟨?_, ?_, ?_, ?_, ?_, ?_, ?_, ?_, ?_, ?_, ?_, ?_⟩
              · first | assumption | (go_keep; done) | (go_simp; done)
              · first | assumption | (go_keep; done) | (go_simp; done)
              · first | assumption | (go_keep; done) | (go_simp; done)
              · first | assumption | (go_keep; done) | (go_simp; done)
              · first | assumption | (go_keep; done) | (go_simp; done)
              · first | assumption | (go_keep; done) | (go_simp; done)
              · first | assumption | (go_keep; done) | (go_simp; done)
              · first | assumption | (go_keep; done) | (go_simp; done)
              · (focus repeat (first | assumption | exact Below.refl _ _ | refine Below.drew ?_ | refine Below.alloc ?_ (by first | omega | exact Below.size (by assumption) | (simp; done) | (simp; omega)) _ | refine Below.setCell ?_ (by first | omega | exact Below.size (by assumption) | (simp; done) | (simp; omega)) _ | refine below_setRow ?_ (by first | omega | exact Below.size (by assumption) | (simp; done) | (simp; omega)) _ | (refine Below.trans ?_ (Below.mono (by assumption) ?_); rotate_left; exact (by first | omega | exact Below.size (by assumption) | (simp; done) | (simp; omega)))))
              · first | omega | (rw [heap_drew]; omega) | (simp; done) | (simp; omega)
              · first | omega | (rw [heap_drew]; omega) | (simp; done) | (simp; omega)
              · first | omega | (rw [heap_drew]; omega) | (simp; done) | (simp; omega)
            have hne0 : Nonempty (WS S0) := ⟨⟨_, hSc⟩⟩
            simp only [List.map_cons, List.map_nil, List.getD_cons_succ, List.getD_cons_zero]
            refine wpSch_looks (L1 := [_, _, _, _, _, _, _, _, _]) (L2 := _) rfl ?_
            iterate 9 (go_big_quiet_step (fail))
            refine wpQuiet_nil ?_
            (try dsimp only)
            refine wpSch_act rfl rfl (fun K hK => ?_)
            go_simp
            go_wp2_with (go_at_call 9; refine (hl _ (by (focus repeat (first | assumption | exact Below.refl _ _ | refine Below.drew ?_ | refine Below.alloc ?_ (by first | omega | exact Below.size (by assumption) | (simp; done) | (simp; omega)) _ | refine Below.setCell ?_ (by first | omega | exact Below.size (by assumption) | (simp; done) | (simp; omega)) _ | refine below_setRow ?_ (by first | omega | exact Below.size (by assumption) | (simp; done) | (simp; omega)) _ | (refine Below.trans ?_ (Below.mono (by assumption) ?_); rotate_left; exact (by first | omega | exact Below.size (by assumption) | (simp; done) | (simp; omega))))))).mono ?_; (rintro e w9 ⟨rfl, hb9⟩; obtain ⟨hc9, hf9⟩ := bcell hb9; have hz9 := hb9.size; try simp at hz9; try have hy9 := Nat.lt_of_succ_le hz9; try have hx9 := Nat.lt_of_succ_lt hy9; try have hw9 := Nat.lt_of_succ_lt hx9))
            refine hK.out _ _ ?hS (fun hSc => ?_)
            case hS =>
              first
              | exact hSc
              | (rw [HS0.out] at hSc ⊢; obtain ⟨p0, p1, p2, p3, p4, p5, p6, p7, p8, p9, p10, p11⟩ := hSc; exact ⟨(hc9 _ _ (by first | assumption | omega)).trans p0, (hc9 _ _ (by first | assumption | omega)).trans p1, (hc9 _ _ (by first | assumption | omega)).trans p2, (hc9 _ _ (by first | assumption | omega)).trans p3, (hc9 _ _ (by first | assumption | omega)).trans p4, (hc9 _ _ (by first | assumption | omega)).trans p5, (hc9 _ _ (by first | assumption | omega)).trans p6, (hc9 _ _ (by first | assumption | omega)).trans p7, p8.trans (hb9.mono (by have := p8.size; omega)), Nat.lt_of_lt_of_le p9 hb9.size, Nat.lt_of_lt_of_le p10 hb9.size, Nat.lt_of_lt_of_le p11 hb9.size⟩)
            clear hK K
            refine wpSch_looks (L1 := [_, _, _, _, _, _, _, _, _, _, _, _, _, _, _, _, _, _, _, _, _, _]) (L2 := _) rfl ?_
            iterate 22 (go_big_quiet_step (fail))
            refine wpQuiet_nil ?_
            (try dsimp only)
            refine wpSch_nil ?_
            rw [HS0.out] at hSc
            obtain ⟨p0, p1, p2, p3, p4, p5, p6, p7, p8, p9, p10, p11⟩ := hSc
            clear hne0 HS0 k0 k1 k2 k3 k4 k5 k6 k7 k8 k9 k10 k11
            obtain ⟨x1, x2, x3, x4, x5, x6, x7⟩ := HNX.out s o _ p8
            have HX7 := Lib.hid x7
            clear x7
            have hrec9 := ih.out _ s o c hlm HSC.out hcn hsl (by omega) (hWr.trans (p8.mono hWr.size)) (by omega) x1
            have hg1 : w.heap.size ≠ g := by omega
            have hg2 : w.heap.size ≠ gs := by omega
            have HG := Lib.hid (fun (w' : World) (hfr : ∀ p : Addr, p.block < w9.heap.size → p.block ≠ g → p.block ≠ gs → w'.cell? p = w9.cell? p) => (⟨(hfr ⟨w.heap.size, 0, none⟩ x6 hg1 hg2).trans x2, (hfr ⟨w.heap.size, 2, none⟩ x6 hg1 hg2).trans x3, (hfr ⟨w.heap.size, 3, none⟩ x6 hg1 hg2).trans x4, fun p hp h1 h2 => (hfr p (by omega) h1 h2).trans (HX7.out p hp h1 h2)⟩ : w'.cell? ⟨w.heap.size, 0, none⟩ = some (.int .i64 (F.blk b).term.kind) ∧ w'.cell? ⟨w.heap.size, 2, none⟩ = some (.int .i64 (F.blk b).term.t0) ∧ w'.cell? ⟨w.heap.size, 3, none⟩ = some (.int .i64 (F.blk b).term.t1) ∧ ∀ p : Addr, p.block < w.heap.size → p.block ≠ g → p.block ≠ gs → w'.cell? p = w.cell? p))
            go_wp2_with fail
            refine hrec9.mono ?_
            rintro e w10 ⟨rfl, s1, o1, hv1, hl1, hol1, hst1, hb10, hz10, hls10, hfr10⟩
            obtain ⟨y2, y3, y4, y7⟩ := HG.out w10 hfr10
            have HY7 := Lib.hid y7
            clear y7 hfr10
            go_wp2_with fail
            go_roundw
            case rel =>
              refine ⟨1, s1, o1, by go_num, by omega, hst1, hl1, by omega, by omega, by omega, fun s' o' h => HC.out s' o' ?_, fun d hd => ?_, y2, y3, y4, x5.trans hb10, by omega, HY7.out⟩
              · rw [Nat.min_eq_left H0.out.2.1] at h
                rw [Nat.zero_min]
                exact .new H0.out.2.1 H0.out.1 HSC.out hv1 h
              · rw [H0.out.2.2] at hd
                simp at hd
                rw [hd]
                exact hv1.keeps c ((getD_set_true (by omega)).2 (.inl rfl))
            case measure => simp [intOf]
          · rw [hsc] at hcc
            have HSC := Lib.hid hsc
            clear hsc
            go_wp2_with fail
            obtain ⟨S0, hS0⟩ : ∃ S0 : World → Prop, S0 = fun w' => w'.cell? ⟨g, 0, none⟩ = some (.slice A0 F.vars.length c0) ∧ w'.cell? ⟨g, 1, none⟩ = some (.slice A1 F.params.length c1) ∧ w'.cell? ⟨g, 2, none⟩ = some (.slice (some ⟨bb, off, none⟩) F.blocks.length c2) ∧ w'.cell? ⟨g, 3, none⟩ = some (.slice (some ⟨gs, 0, none⟩) F.blocks.length F.blocks.length) ∧ w'.cell? ⟨w.heap.size, 0, none⟩ = some (.int .i64 kd) ∧ w'.cell? ⟨w.heap.size, 2, none⟩ = some (.int .i64 (c : Int)) ∧ w'.cell? ⟨w.heap.size, 3, none⟩ = some (.int .i64 t1) ∧ w'.cell? ⟨gs, c, none⟩ = some (.bool true) ∧ Below wr.heap.size wr w' ∧ g < w'.heap.size ∧ gs < w'.heap.size ∧ w.heap.size < w'.heap.size := ⟨_, rfl⟩
            have HS0 := Lib.hid hS0
            clear hS0
            have k0 : ∀ xw : WS S0, xw.w.cell? ⟨g, 0, none⟩ = some (.slice A0 F.vars.length c0) := fun xw => by have hp := cast (congrFun HS0.out xw.w) xw.h; exact hp.1
            have k1 : ∀ xw : WS S0, xw.w.cell? ⟨g, 1, none⟩ = some (.slice A1 F.params.length c1) := fun xw => by have hp := cast (congrFun HS0.out xw.w) xw.h; exact hp.2.1
            have k2 : ∀ xw : WS S0, xw.w.cell? ⟨g, 2, none⟩ = some (.slice (some ⟨bb, off, none⟩) F.blocks.length c2) := fun xw => by have hp := cast (congrFun HS0.out xw.w) xw.h; exact hp.2.2.1
            have k3 : ∀ xw : WS S0, xw.w.cell? ⟨g, 3, none⟩ = some (.slice (some ⟨gs, 0, none⟩) F.blocks.length F.blocks.length) := fun xw => by have hp := cast (congrFun HS0.out xw.w) xw.h; exact hp.2.2.2.1
            have k4 : ∀ xw : WS S0, xw.w.cell? ⟨w.heap.size, 0, none⟩ = some (.int .i64 kd) := fun xw => by have hp := cast (congrFun HS0.out xw.w) xw.h; exact hp.2.2.2.2.1
            have k5 : ∀ xw : WS S0, xw.w.cell? ⟨w.heap.size, 2, none⟩ = some (.int .i64 (c : Int)) := fun xw => by have hp := cast (congrFun HS0.out xw.w) xw.h; exact hp.2.2.2.2.2.1
            have k6 : ∀ xw : WS S0, xw.w.cell? ⟨w.heap.size, 3, none⟩ = some (.int .i64 t1) := fun xw => by have hp := cast (congrFun HS0.out xw.w) xw.h; exact hp.2.2.2.2.2.2.1
            have k7 : ∀ xw : WS S0, xw.w.cell? ⟨gs, c, none⟩ = some (.bool true) := fun xw => by have hp := cast (congrFun HS0.out xw.w) xw.h; exact hp.2.2.2.2.2.2.2.1
            have k8 : ∀ xw : WS S0, Below wr.heap.size wr xw.w := fun xw => by have hp := cast (congrFun HS0.out xw.w) xw.h; exact hp.2.2.2.2.2.2.2.2.1
            have k9 : ∀ xw : WS S0, g < xw.w.heap.size := fun xw => by have hp := cast (congrFun HS0.out xw.w) xw.h; exact hp.2.2.2.2.2.2.2.2.2.1
            have k10 : ∀ xw : WS S0, gs < xw.w.heap.size := fun xw => by have hp := cast (congrFun HS0.out xw.w) xw.h; exact hp.2.2.2.2.2.2.2.2.2.2.1
            have k11 : ∀ xw : WS S0, w.heap.size < xw.w.heap.size := fun xw => by have hp := cast (congrFun HS0.out xw.w) xw.h; exact hp.2.2.2.2.2.2.2.2.2.2.2
            refine wp_region_sched (S := S0) [0, 1, 2, 3, 4, 5, 6, 7, 8, 9, 10, 11, 12, 13, 14, 15, 16, 17, 18, 19, 20, 21, 22, 23, 24, 25, 26, 27, 28, 29, 30, 31] (by kernel_rfl) (by kernel_rfl) (fun _ _ _ _ _ h => h) ?hS (fun hSc => ?_)
            case hS =>
              rw [HS0.out]
              refine ⟨?_, ?_, ?_, ?_, ?_, ?_, ?_, ?_, ?_, ?_, ?_, ?_⟩
              · first | assumption | (go_keep; done) | (go_simp; done)
              · first | assumption | (go_keep; done) | (go_simp; done)
              · first | assumption | (go_keep; done) | (go_simp; done)
              · first | assumption | (go_keep; done) | (go_simp; done)
              · first | assumption | (go_keep; done) | (go_simp; done)
              · first | assumption | (go_keep; done) | (go_simp; done)
              · first | assumption | (go_keep; done) | (go_simp; done)
              · first | assumption | (go_keep; done) | (go_simp; done)
              · (focus repeat (first | assumption | exact Below.refl _ _ | refine Below.drew ?_ | refine Below.alloc ?_ (by first | omega | exact Below.size (by assumption) | (simp; done) | (simp; omega)) _ | refine Below.setCell ?_ (by first | omega | exact Below.size (by assumption) | (simp; done) | (simp; omega)) _ | refine below_setRow ?_ (by first | omega | exact Below.size (by assumption) | (simp; done) | (simp; omega)) _ | (refine Below.trans ?_ (Below.mono (by assumption) ?_); rotate_left; exact (by first | omega | exact Below.size (by assumption) | (simp; done) | (simp; omega)))))
              · first | omega | (rw [heap_drew]; omega) | (simp; done) | (simp; omega)
              · first | omega | (rw [heap_drew]; omega) | (simp; done) | (simp; omega)
              · first | omega | (rw [heap_drew]; omega) | (simp; done) | (simp; omega)
            have hne0 : Nonempty (WS S0) := ⟨⟨_, hSc⟩⟩
            simp only [List.map_cons, List.map_nil, List.getD_cons_succ, List.getD_cons_zero]
            refine wpSch_looks (L1 := [_, _, _, _, _, _, _, _, _]) (L2 := _) rfl ?_
            iterate 9 (go_big_quiet_step (fail))
            refine wpQuiet_nil ?_
            (try dsimp only)
            refine wpSch_act rfl rfl (fun K hK => ?_)
            go_simp
            go_wp2_with (go_at_call 9; refine (hl _ (by (focus repeat (first | assumption | exact Below.refl _ _ | refine Below.drew ?_ | refine Below.alloc ?_ (by first | omega | exact Below.size (by assumption) | (simp; done) | (simp; omega)) _ | refine Below.setCell ?_ (by first | omega | exact Below.size (by assumption) | (simp; done) | (simp; omega)) _ | refine below_setRow ?_ (by first | omega | exact Below.size (by assumption) | (simp; done) | (simp; omega)) _ | (refine Below.trans ?_ (Below.mono (by assumption) ?_); rotate_left; exact (by first | omega | exact Below.size (by assumption) | (simp; done) | (simp; omega))))))).mono ?_; (rintro e w9 ⟨rfl, hb9⟩; obtain ⟨hc9, hf9⟩ := bcell hb9; have hz9 := hb9.size; try simp at hz9; try have hy9 := Nat.lt_of_succ_le hz9; try have hx9 := Nat.lt_of_succ_lt hy9; try have hw9 := Nat.lt_of_succ_lt hx9))
            refine hK.out _ _ ?hS (fun hSc => ?_)
            case hS =>
              first
              | exact hSc
              | (rw [HS0.out] at hSc ⊢; obtain ⟨p0, p1, p2, p3, p4, p5, p6, p7, p8, p9, p10, p11⟩ := hSc; exact ⟨(hc9 _ _ (by first | assumption | omega)).trans p0, (hc9 _ _ (by first | assumption | omega)).trans p1, (hc9 _ _ (by first | assumption | omega)).trans p2, (hc9 _ _ (by first | assumption | omega)).trans p3, (hc9 _ _ (by first | assumption | omega)).trans p4, (hc9 _ _ (by first | assumption | omega)).trans p5, (hc9 _ _ (by first | assumption | omega)).trans p6, (hc9 _ _ (by first | assumption | omega)).trans p7, p8.trans (hb9.mono (by have := p8.size; omega)), Nat.lt_of_lt_of_le p9 hb9.size, Nat.lt_of_lt_of_le p10 hb9.size, Nat.lt_of_lt_of_le p11 hb9.size⟩)
            clear hK K
            refine wpSch_looks (L1 := [_, _, _, _, _, _, _, _, _, _, _, _, _, _, _, _, _, _, _, _, _, _]) (L2 := _) rfl ?_
            iterate 22 (go_big_quiet_step (fail))
            refine wpQuiet_nil ?_
            (try dsimp only)
            refine wpSch_nil ?_
            rw [HS0.out] at hSc
            obtain ⟨p0, p1, p2, p3, p4, p5, p6, p7, p8, p9, p10, p11⟩ := hSc
            clear hne0 HS0 k0 k1 k2 k3 k4 k5 k6 k7 k8 k9 k10 k11
            go_wp2_with fail
            go_roundw
            case rel =>
              obtain ⟨x1, x2, x3, x4, x5, x6, x7⟩ := HNX.out s o _ p8
              refine ⟨1, s, o, by go_num, by omega, x1, hsl, hol, hlm, hls2, fun s' o' h => HC.out s' o' ?_, fun d hd => ?_, x2.trans (by rw [HKD.out]), x3, x4, x5, x6, x7⟩
              · rw [Nat.min_eq_left H0.out.2.1] at h
                rw [Nat.zero_min]
                exact .old H0.out.2.1 H0.out.1 HSC.out h
              · rw [H0.out.2.2] at hd
                simp at hd
                rw [hd]; exact HSC.out
            case measure => simp [intOf]
        · rcases HK0.out with e | e
          · have hk1 : (kd == 1) = false := by simp [e]
            have HE1 := Lib.hid (show EN F b = [c] by unfold EN endsOf; rw [HKD.out, HT0.out, if_pos e]; simp)
            have hl := HLD.out t1
            simp only [Int.toNat_natCast] at hl
            clear hl0 hcc
            cases hlv : leads (F.blk b).term t1
            all_goals
              rw [hlv] at hl
              clear hlv
              go_wp2_with fail
              obtain ⟨S0, hS0⟩ : ∃ S0 : World → Prop, S0 = fun w' => w'.cell? ⟨g, 0, none⟩ = some (.slice A0 F.vars.length c0) ∧ w'.cell? ⟨g, 1, none⟩ = some (.slice A1 F.params.length c1) ∧ w'.cell? ⟨g, 2, none⟩ = some (.slice (some ⟨bb, off, none⟩) F.blocks.length c2) ∧ w'.cell? ⟨g, 3, none⟩ = some (.slice (some ⟨gs, 0, none⟩) F.blocks.length F.blocks.length) ∧ w'.cell? ⟨w.heap.size, 0, none⟩ = some (.int .i64 kd) ∧ w'.cell? ⟨w.heap.size, 2, none⟩ = some (.int .i64 (c : Int)) ∧ w'.cell? ⟨w.heap.size, 3, none⟩ = some (.int .i64 t1) ∧ Below wr.heap.size wr w' ∧ g < w'.heap.size ∧ gs < w'.heap.size ∧ w.heap.size < w'.heap.size := ⟨_, rfl⟩
              have HS0 := Lib.hid hS0
              clear hS0
              have k0 : ∀ xw : WS S0, xw.w.cell? ⟨g, 0, none⟩ = some (.slice A0 F.vars.length c0) := fun xw => by have hp := cast (congrFun HS0.out xw.w) xw.h; exact hp.1
              have k1 : ∀ xw : WS S0, xw.w.cell? ⟨g, 1, none⟩ = some (.slice A1 F.params.length c1) := fun xw => by have hp := cast (congrFun HS0.out xw.w) xw.h; exact hp.2.1
              have k2 : ∀ xw : WS S0, xw.w.cell? ⟨g, 2, none⟩ = some (.slice (some ⟨bb, off, none⟩) F.blocks.length c2) := fun xw => by have hp := cast (congrFun HS0.out xw.w) xw.h; exact hp.2.2.1
              have k3 : ∀ xw : WS S0, xw.w.cell? ⟨g, 3, none⟩ = some (.slice (some ⟨gs, 0, none⟩) F.blocks.length F.blocks.length) := fun xw => by have hp := cast (congrFun HS0.out xw.w) xw.h; exact hp.2.2.2.1
              have k4 : ∀ xw : WS S0, xw.w.cell? ⟨w.heap.size, 0, none⟩ = some (.int .i64 kd) := fun xw => by have hp := cast (congrFun HS0.out xw.w) xw.h; exact hp.2.2.2.2.1
              have k5 : ∀ xw : WS S0, xw.w.cell? ⟨w.heap.size, 2, none⟩ = some (.int .i64 (c : Int)) := fun xw => by have hp := cast (congrFun HS0.out xw.w) xw.h; exact hp.2.2.2.2.2.1
              have k6 : ∀ xw : WS S0, xw.w.cell? ⟨w.heap.size, 3, none⟩ = some (.int .i64 t1) := fun xw => by have hp := cast (congrFun HS0.out xw.w) xw.h; exact hp.2.2.2.2.2.2.1
              have k7 : ∀ xw : WS S0, Below wr.heap.size wr xw.w := fun xw => by have hp := cast (congrFun HS0.out xw.w) xw.h; exact hp.2.2.2.2.2.2.2.1
              have k8 : ∀ xw : WS S0, g < xw.w.heap.size := fun xw => by have hp := cast (congrFun HS0.out xw.w) xw.h; exact hp.2.2.2.2.2.2.2.2.1
              have k9 : ∀ xw : WS S0, gs < xw.w.heap.size := fun xw => by have hp := cast (congrFun HS0.out xw.w) xw.h; exact hp.2.2.2.2.2.2.2.2.2.1
              have k10 : ∀ xw : WS S0, w.heap.size < xw.w.heap.size := fun xw => by have hp := cast (congrFun HS0.out xw.w) xw.h; exact hp.2.2.2.2.2.2.2.2.2.2
              refine wp_region_sched (S := S0) [0, 1, 2, 3, 4, 5, 6, 7, 8, 9, 10, 11, 12, 13, 14, 15, 16, 17, 18, 19, 20, 21, 22, 23, 24, 25, 26, 27, 28, 29, 30, 31] (by kernel_rfl) (by kernel_rfl) (fun _ _ _ _ _ h => h) ?hS (fun hSc => ?_)
              case hS =>
                rw [HS0.out]
                refine ⟨?_, ?_, ?_, ?_, ?_, ?_, ?_, ?_, ?_, ?_, ?_⟩
                · first | assumption | (go_keep; done) | (go_simp; done)
                · first | assumption | (go_keep; done) | (go_simp; done)
                · first | assumption | (go_keep; done) | (go_simp; done)
                · first | assumption | (go_keep; done) | (go_simp; done)
                · first | assumption | (go_keep; done) | (go_simp; done)
                · first | assumption | (go_keep; done) | (go_simp; done)
                · first | assumption | (go_keep; done) | (go_simp; done)
                · (focus repeat (first | assumption | exact Below.refl _ _ | refine Below.drew ?_ | refine Below.alloc ?_ (by first | omega | exact Below.size (by assumption) | (simp; done) | (simp; omega)) _ | refine Below.setCell ?_ (by first | omega | exact Below.size (by assumption) | (simp; done) | (simp; omega)) _ | refine below_setRow ?_ (by first | omega | exact Below.size (by assumption) | (simp; done) | (simp; omega)) _ | (refine Below.trans ?_ (Below.mono (by assumption) ?_); rotate_left; exact (by first | omega | exact Below.size (by assumption) | (simp; done) | (simp; omega)))))
                · first | omega | (rw [heap_drew]; omega) | (simp; done) | (simp; omega)
                · first | omega | (rw [heap_drew]; omega) | (simp; done) | (simp; omega)
                · first | omega | (rw [heap_drew]; omega) | (simp; done) | (simp; omega)
              have hne0 : Nonempty (WS S0) := ⟨⟨_, hSc⟩⟩
              simp only [List.map_cons, List.map_nil, List.getD_cons_succ, List.getD_cons_zero]
              refine wpSch_looks (L1 := [_, _, _, _, _, _, _, _, _]) (L2 := _) rfl ?_
              iterate 9 (go_big_quiet_step (fail))
              refine wpQuiet_nil ?_
              (try dsimp only)
              refine wpSch_act rfl rfl (fun K hK => ?_)
              go_simp
              go_wp2_with (go_at_call 9; refine (hl _ (by (focus repeat (first | assumption | exact Below.refl _ _ | refine Below.drew ?_ | refine Below.alloc ?_ (by first | omega | exact Below.size (by assumption) | (simp; done) | (simp; omega)) _ | refine Below.setCell ?_ (by first | omega | exact Below.size (by assumption) | (simp; done) | (simp; omega)) _ | refine below_setRow ?_ (by first | omega | exact Below.size (by assumption) | (simp; done) | (simp; omega)) _ | (refine Below.trans ?_ (Below.mono (by assumption) ?_); rotate_left; exact (by first | omega | exact Below.size (by assumption) | (simp; done) | (simp; omega))))))).mono ?_; (rintro e w9 ⟨rfl, hb9⟩; obtain ⟨hc9, hf9⟩ := bcell hb9; have hz9 := hb9.size; try simp at hz9; try have hy9 := Nat.lt_of_succ_le hz9; try have hx9 := Nat.lt_of_succ_lt hy9; try have hw9 := Nat.lt_of_succ_lt hx9))
              refine hK.out _ _ ?hS (fun hSc => ?_)
              case hS =>
                first
                | exact hSc
                | (rw [HS0.out] at hSc ⊢; obtain ⟨p0, p1, p2, p3, p4, p5, p6, p7, p8, p9, p10⟩ := hSc; exact ⟨(hc9 _ _ (by first | assumption | omega)).trans p0, (hc9 _ _ (by first | assumption | omega)).trans p1, (hc9 _ _ (by first | assumption | omega)).trans p2, (hc9 _ _ (by first | assumption | omega)).trans p3, (hc9 _ _ (by first | assumption | omega)).trans p4, (hc9 _ _ (by first | assumption | omega)).trans p5, (hc9 _ _ (by first | assumption | omega)).trans p6, p7.trans (hb9.mono (by have := p7.size; omega)), Nat.lt_of_lt_of_le p8 hb9.size, Nat.lt_of_lt_of_le p9 hb9.size, Nat.lt_of_lt_of_le p10 hb9.size⟩)
              clear hK K
              refine wpSch_looks (L1 := [_, _, _, _, _, _, _, _, _, _, _, _, _, _, _, _, _, _, _, _, _, _]) (L2 := _) rfl ?_
              iterate 22 (go_big_quiet_step (fail))
              refine wpQuiet_nil ?_
              (try dsimp only)
              refine wpSch_nil ?_
              rw [HS0.out] at hSc
              obtain ⟨p0, p1, p2, p3, p4, p5, p6, p7, p8, p9, p10⟩ := hSc
              clear hne0 HS0 k0 k1 k2 k3 k4 k5 k6 k7 k8 k9 k10
              go_wp2_with fail
              go_roundw
              case rel =>
                obtain ⟨x1, x2, x3, x4, x5, x6, x7⟩ := HNX.out s o _ p7
                refine ⟨2, s, o, by go_num, by omega, x1, hsl, hol, hlm, hls2, fun s' o' h => HC.out s' o' (by rw [HE1.out] at h ⊢; simpa using h), fun d hd => HP.out d (by rw [HE1.out] at hd ⊢; simpa using hd), x2.trans (by rw [HKD.out]), x3, x4, x5, x6, x7⟩
              case measure => simp [intOf]
          · have hk1 : (kd == 1) = true := by simp [e]
            have hne0 : ¬ kd = 0 := by omega
            have hin1 := inB_true (ends_in hT hb (F.blk b).term.t1 (by
              unfold endsOf
              rw [HKD.out, if_neg hne0, if_pos e]
              split
              · rename_i h; rw [h]; simp
              · simp))
            rw [HT1.out] at hin1
            obtain ⟨d, rfl⟩ : ∃ d : Nat, t1 = (d : Int) := ⟨t1.toNat, by omega⟩
            have hdn : d < F.blocks.length := by omega
            have hl1 : leads (F.blk b).term (d : Int) = true := by
              unfold leads
              rw [HKD.out, HT1.out]
              simp [e]
            have hE1 : c = d → EN F b = [c] := by
              intro h
              unfold EN endsOf
              rw [HKD.out, HT0.out, HT1.out, if_neg hne0, if_pos e, if_pos (by omega)]
              simp
            have hE2 : c ≠ d → EN F b = [c, d] := by
              intro h
              unfold EN endsOf
              rw [HKD.out, HT0.out, HT1.out, if_neg hne0, if_pos e, if_neg (by omega)]
              simp
            have HE1 := Lib.hid hE1
            have HE2' := Lib.hid hE2
            have hsc0 : s.getD c false = true := HP.out c (by rw [H0.out.2.2]; simp)
            have HS0 := Lib.hid hsc0
            have hl := HLD.out (d : Int)
            simp only [Int.toNat_natCast, hl1] at hl
            obtain ⟨vo2, -, hmk2, -⟩ := HST.out
            have hcd := own_bool hmk2 hdn
            clear hl0 hl1 hcc hin1 hE1 hE2 hsc0 hmk2
            cases hsc : s.getD d false
            · rw [hsc] at hcd
              have hcnd : c ≠ d := fun h => by rw [← h, HS0.out] at hsc; cases hsc
              have HSC := Lib.hid hsc
              have HE2 := Lib.hid (show (EN F b).getD 1 0 = d ∧ (EN F b).length = 2 ∧ (EN F b).take 2 = [c, d] by rw [HE2'.out hcnd]; simp)
              have hel2 := HE2.out.2.1
              clear hsc hcnd
              go_wp2_with fail
              obtain ⟨S0, hS0⟩ : ∃ S0 : World → Prop, S0 = fun w' => w'.cell? ⟨g, 0, none⟩ = some (.slice A0 F.vars.length c0) ∧ w'.cell? ⟨g, 1, none⟩ = some (.slice A1 F.params.length c1) ∧ w'.cell? ⟨g, 2, none⟩ = some (.slice (some ⟨bb, off, none⟩) F.blocks.length c2) ∧ w'.cell? ⟨g, 3, none⟩ = some (.slice (some ⟨gs, 0, none⟩) F.blocks.length F.blocks.length) ∧ w'.cell? ⟨w.heap.size, 0, none⟩ = some (.int .i64 kd) ∧ w'.cell? ⟨w.heap.size, 2, none⟩ = some (.int .i64 (c : Int)) ∧ w'.cell? ⟨w.heap.size, 3, none⟩ = some (.int .i64 (d : Int)) ∧ w'.cell? ⟨gs, d, none⟩ = some (.bool false) ∧ Below wr.heap.size wr w' ∧ g < w'.heap.size ∧ gs < w'.heap.size ∧ w.heap.size < w'.heap.size := ⟨_, rfl⟩
              have HS0 := Lib.hid hS0
              clear hS0
              have k0 : ∀ xw : WS S0, xw.w.cell? ⟨g, 0, none⟩ = some (.slice A0 F.vars.length c0) := fun xw => by have hp := cast (congrFun HS0.out xw.w) xw.h; exact hp.1
              have k1 : ∀ xw : WS S0, xw.w.cell? ⟨g, 1, none⟩ = some (.slice A1 F.params.length c1) := fun xw => by have hp := cast (congrFun HS0.out xw.w) xw.h; exact hp.2.1
              have k2 : ∀ xw : WS S0, xw.w.cell? ⟨g, 2, none⟩ = some (.slice (some ⟨bb, off, none⟩) F.blocks.length c2) := fun xw => by have hp := cast (congrFun HS0.out xw.w) xw.h; exact hp.2.2.1
              have k3 : ∀ xw : WS S0, xw.w.cell? ⟨g, 3, none⟩ = some (.slice (some ⟨gs, 0, none⟩) F.blocks.length F.blocks.length) := fun xw => by have hp := cast (congrFun HS0.out xw.w) xw.h; exact hp.2.2.2.1
              have k4 : ∀ xw : WS S0, xw.w.cell? ⟨w.heap.size, 0, none⟩ = some (.int .i64 kd) := fun xw => by have hp := cast (congrFun HS0.out xw.w) xw.h; exact hp.2.2.2.2.1
              have k5 : ∀ xw : WS S0, xw.w.cell? ⟨w.heap.size, 2, none⟩ = some (.int .i64 (c : Int)) := fun xw => by have hp := cast (congrFun HS0.out xw.w) xw.h; exact hp.2.2.2.2.2.1
              have k6 : ∀ xw : WS S0, xw.w.cell? ⟨w.heap.size, 3, none⟩ = some (.int .i64 (d : Int)) := fun xw => by have hp := cast (congrFun HS0.out xw.w) xw.h; exact hp.2.2.2.2.2.2.1
              have k7 : ∀ xw : WS S0, xw.w.cell? ⟨gs, d, none⟩ = some (.bool false) := fun xw => by have hp := cast (congrFun HS0.out xw.w) xw.h; exact hp.2.2.2.2.2.2.2.1
              have k8 : ∀ xw : WS S0, Below wr.heap.size wr xw.w := fun xw => by have hp := cast (congrFun HS0.out xw.w) xw.h; exact hp.2.2.2.2.2.2.2.2.1
              have k9 : ∀ xw : WS S0, g < xw.w.heap.size := fun xw => by have hp := cast (congrFun HS0.out xw.w) xw.h; exact hp.2.2.2.2.2.2.2.2.2.1
              have k10 : ∀ xw : WS S0, gs < xw.w.heap.size := fun xw => by have hp := cast (congrFun HS0.out xw.w) xw.h; exact hp.2.2.2.2.2.2.2.2.2.2.1
              have k11 : ∀ xw : WS S0, w.heap.size < xw.w.heap.size := fun xw => by have hp := cast (congrFun HS0.out xw.w) xw.h; exact hp.2.2.2.2.2.2.2.2.2.2.2
              refine wp_region_sched (S := S0) [0, 1, 2, 3, 4, 5, 6, 7, 8, 9, 10, 11, 12, 13, 14, 15, 16, 17, 18, 19, 20, 21, 22, 23, 24, 25, 26, 27, 28, 29, 30, 31] (by kernel_rfl) (by kernel_rfl) (fun _ _ _ _ _ h => h) ?hS (fun hSc => ?_)
              case hS =>
                rw [HS0.out]
                refine ⟨?_, ?_, ?_, ?_, ?_, ?_, ?_, ?_, ?_, ?_, ?_, ?_⟩
                · first | assumption | (go_keep; done) | (go_simp; done)
                · first | assumption | (go_keep; done) | (go_simp; done)
                · first | assumption | (go_keep; done) | (go_simp; done)
                · first | assumption | (go_keep; done) | (go_simp; done)
                · first | assumption | (go_keep; done) | (go_simp; done)
                · first | assumption | (go_keep; done) | (go_simp; done)
                · first | assumption | (go_keep; done) | (go_simp; done)
                · first | assumption | (go_keep; done) | (go_simp; done)
                · (focus repeat (first | assumption | exact Below.refl _ _ | refine Below.drew ?_ | refine Below.alloc ?_ (by first | omega | exact Below.size (by assumption) | (simp; done) | (simp; omega)) _ | refine Below.setCell ?_ (by first | omega | exact Below.size (by assumption) | (simp; done) | (simp; omega)) _ | refine below_setRow ?_ (by first | omega | exact Below.size (by assumption) | (simp; done) | (simp; omega)) _ | (refine Below.trans ?_ (Below.mono (by assumption) ?_); rotate_left; exact (by first | omega | exact Below.size (by assumption) | (simp; done) | (simp; omega)))))
                · first | omega | (rw [heap_drew]; omega) | (simp; done) | (simp; omega)
                · first | omega | (rw [heap_drew]; omega) | (simp; done) | (simp; omega)
                · first | omega | (rw [heap_drew]; omega) | (simp; done) | (simp; omega)
              have hne0 : Nonempty (WS S0) := ⟨⟨_, hSc⟩⟩
              simp only [List.map_cons, List.map_nil, List.getD_cons_succ, List.getD_cons_zero]
              refine wpSch_looks (L1 := [_, _, _, _, _, _, _, _, _]) (L2 := _) rfl ?_
              iterate 9 (go_big_quiet_step (fail))
              refine wpQuiet_nil ?_
              (try dsimp only)
              refine wpSch_act rfl rfl (fun K hK => ?_)
              go_simp
              go_wp2_with (go_at_call 9; refine (hl _ (by (focus repeat (first | assumption | exact Below.refl _ _ | refine Below.drew ?_ | refine Below.alloc ?_ (by first | omega | exact Below.size (by assumption) | (simp; done) | (simp; omega)) _ | refine Below.setCell ?_ (by first | omega | exact Below.size (by assumption) | (simp; done) | (simp; omega)) _ | refine below_setRow ?_ (by first | omega | exact Below.size (by assumption) | (simp; done) | (simp; omega)) _ | (refine Below.trans ?_ (Below.mono (by assumption) ?_); rotate_left; exact (by first | omega | exact Below.size (by assumption) | (simp; done) | (simp; omega))))))).mono ?_; (rintro e w9 ⟨rfl, hb9⟩; obtain ⟨hc9, hf9⟩ := bcell hb9; have hz9 := hb9.size; try simp at hz9; try have hy9 := Nat.lt_of_succ_le hz9; try have hx9 := Nat.lt_of_succ_lt hy9; try have hw9 := Nat.lt_of_succ_lt hx9))
              refine hK.out _ _ ?hS (fun hSc => ?_)
              case hS =>
                first
                | exact hSc
                | (rw [HS0.out] at hSc ⊢; obtain ⟨p0, p1, p2, p3, p4, p5, p6, p7, p8, p9, p10, p11⟩ := hSc; exact ⟨(hc9 _ _ (by first | assumption | omega)).trans p0, (hc9 _ _ (by first | assumption | omega)).trans p1, (hc9 _ _ (by first | assumption | omega)).trans p2, (hc9 _ _ (by first | assumption | omega)).trans p3, (hc9 _ _ (by first | assumption | omega)).trans p4, (hc9 _ _ (by first | assumption | omega)).trans p5, (hc9 _ _ (by first | assumption | omega)).trans p6, (hc9 _ _ (by first | assumption | omega)).trans p7, p8.trans (hb9.mono (by have := p8.size; omega)), Nat.lt_of_lt_of_le p9 hb9.size, Nat.lt_of_lt_of_le p10 hb9.size, Nat.lt_of_lt_of_le p11 hb9.size⟩)
              clear hK K
              refine wpSch_looks (L1 := [_, _, _, _, _, _, _, _, _, _, _, _, _, _, _, _, _, _, _, _, _, _]) (L2 := _) rfl ?_
              iterate 22 (go_big_quiet_step (fail))
              refine wpQuiet_nil ?_
              (try dsimp only)
              refine wpSch_nil ?_
              rw [HS0.out] at hSc
              obtain ⟨p0, p1, p2, p3, p4, p5, p6, p7, p8, p9, p10, p11⟩ := hSc
              clear hne0 HS0 k0 k1 k2 k3 k4 k5 k6 k7 k8 k9 k10 k11
              obtain ⟨x1, x2, x3, x4, x5, x6, x7⟩ := HNX.out s o _ p8
              have HX7 := Lib.hid x7
              clear x7
              have hrec9 := ih.out _ s o d hlm HSC.out hdn hsl (by omega) (hWr.trans (p8.mono hWr.size)) (by omega) x1
              have hg1 : w.heap.size ≠ g := by omega
              have hg2 : w.heap.size ≠ gs := by omega
              have HG := Lib.hid (fun (w' : World) (hfr : ∀ p : Addr, p.block < w9.heap.size → p.block ≠ g → p.block ≠ gs → w'.cell? p = w9.cell? p) => (⟨(hfr ⟨w.heap.size, 0, none⟩ x6 hg1 hg2).trans x2, (hfr ⟨w.heap.size, 2, none⟩ x6 hg1 hg2).trans x3, (hfr ⟨w.heap.size, 3, none⟩ x6 hg1 hg2).trans x4, fun p hp h1 h2 => (hfr p (by omega) h1 h2).trans (HX7.out p hp h1 h2)⟩ : w'.cell? ⟨w.heap.size, 0, none⟩ = some (.int .i64 (F.blk b).term.kind) ∧ w'.cell? ⟨w.heap.size, 2, none⟩ = some (.int .i64 (F.blk b).term.t0) ∧ w'.cell? ⟨w.heap.size, 3, none⟩ = some (.int .i64 (F.blk b).term.t1) ∧ ∀ p : Addr, p.block < w.heap.size → p.block ≠ g → p.block ≠ gs → w'.cell? p = w.cell? p))
              go_wp2_with fail
              refine hrec9.mono ?_
              rintro e w10 ⟨rfl, s1, o1, hv1, hl1, hol1, hst1, hb10, hz10, hls10, hfr10⟩
              obtain ⟨y2, y3, y4, y7⟩ := HG.out w10 hfr10
              have HY7 := Lib.hid y7
              clear y7 hfr10
              go_wp2_with fail
              go_roundw
              case rel =>
                refine ⟨2, s1, o1, by go_num, by omega, hst1, hl1, by omega, by omega, by omega, fun s' o' h => HC.out s' o' ?_, fun d' hd => ?_, y2, y3, y4, x5.trans hb10, by omega, HY7.out⟩
                · rw [show min 2 (EN F b).length = 1 + 1 by omega] at h
                  rw [show min 1 (EN F b).length = 1 by omega]
                  exact .new (by omega) HE2.out.1 HSC.out hv1 h
                · rw [HE2.out.2.2] at hd
                  simp at hd
                  rcases hd with hd | hd
                  · rw [hd]
                    refine hv1.keeps c ((getD_set_true (by omega)).2 (.inr (HP.out c (by rw [H0.out.2.2]; simp))))
                  · rw [hd]
                    exact hv1.keeps d ((getD_set_true (by omega)).2 (.inl rfl))
              case measure => simp [intOf]
            · rw [hsc] at hcd
              have HSC := Lib.hid hsc
              clear hsc
              go_wp2_with fail
              obtain ⟨S0, hS0⟩ : ∃ S0 : World → Prop, S0 = fun w' => w'.cell? ⟨g, 0, none⟩ = some (.slice A0 F.vars.length c0) ∧ w'.cell? ⟨g, 1, none⟩ = some (.slice A1 F.params.length c1) ∧ w'.cell? ⟨g, 2, none⟩ = some (.slice (some ⟨bb, off, none⟩) F.blocks.length c2) ∧ w'.cell? ⟨g, 3, none⟩ = some (.slice (some ⟨gs, 0, none⟩) F.blocks.length F.blocks.length) ∧ w'.cell? ⟨w.heap.size, 0, none⟩ = some (.int .i64 kd) ∧ w'.cell? ⟨w.heap.size, 2, none⟩ = some (.int .i64 (c : Int)) ∧ w'.cell? ⟨w.heap.size, 3, none⟩ = some (.int .i64 (d : Int)) ∧ w'.cell? ⟨gs, d, none⟩ = some (.bool true) ∧ Below wr.heap.size wr w' ∧ g < w'.heap.size ∧ gs < w'.heap.size ∧ w.heap.size < w'.heap.size := ⟨_, rfl⟩
              have HS0 := Lib.hid hS0
              clear hS0
              have k0 : ∀ xw : WS S0, xw.w.cell? ⟨g, 0, none⟩ = some (.slice A0 F.vars.length c0) := fun xw => by have hp := cast (congrFun HS0.out xw.w) xw.h; exact hp.1
              have k1 : ∀ xw : WS S0, xw.w.cell? ⟨g, 1, none⟩ = some (.slice A1 F.params.length c1) := fun xw => by have hp := cast (congrFun HS0.out xw.w) xw.h; exact hp.2.1
              have k2 : ∀ xw : WS S0, xw.w.cell? ⟨g, 2, none⟩ = some (.slice (some ⟨bb, off, none⟩) F.blocks.length c2) := fun xw => by have hp := cast (congrFun HS0.out xw.w) xw.h; exact hp.2.2.1
              have k3 : ∀ xw : WS S0, xw.w.cell? ⟨g, 3, none⟩ = some (.slice (some ⟨gs, 0, none⟩) F.blocks.length F.blocks.length) := fun xw => by have hp := cast (congrFun HS0.out xw.w) xw.h; exact hp.2.2.2.1
              have k4 : ∀ xw : WS S0, xw.w.cell? ⟨w.heap.size, 0, none⟩ = some (.int .i64 kd) := fun xw => by have hp := cast (congrFun HS0.out xw.w) xw.h; exact hp.2.2.2.2.1
              have k5 : ∀ xw : WS S0, xw.w.cell? ⟨w.heap.size, 2, none⟩ = some (.int .i64 (c : Int)) := fun xw => by have hp := cast (congrFun HS0.out xw.w) xw.h; exact hp.2.2.2.2.2.1
              have k6 : ∀ xw : WS S0, xw.w.cell? ⟨w.heap.size, 3, none⟩ = some (.int .i64 (d : Int)) := fun xw => by have hp := cast (congrFun HS0.out xw.w) xw.h; exact hp.2.2.2.2.2.2.1
              have k7 : ∀ xw : WS S0, xw.w.cell? ⟨gs, d, none⟩ = some (.bool true) := fun xw => by have hp := cast (congrFun HS0.out xw.w) xw.h; exact hp.2.2.2.2.2.2.2.1
              have k8 : ∀ xw : WS S0, Below wr.heap.size wr xw.w := fun xw => by have hp := cast (congrFun HS0.out xw.w) xw.h; exact hp.2.2.2.2.2.2.2.2.1
              have k9 : ∀ xw : WS S0, g < xw.w.heap.size := fun xw => by have hp := cast (congrFun HS0.out xw.w) xw.h; exact hp.2.2.2.2.2.2.2.2.2.1
              have k10 : ∀ xw : WS S0, gs < xw.w.heap.size := fun xw => by have hp := cast (congrFun HS0.out xw.w) xw.h; exact hp.2.2.2.2.2.2.2.2.2.2.1
              have k11 : ∀ xw : WS S0, w.heap.size < xw.w.heap.size := fun xw => by have hp := cast (congrFun HS0.out xw.w) xw.h; exact hp.2.2.2.2.2.2.2.2.2.2.2
              refine wp_region_sched (S := S0) [0, 1, 2, 3, 4, 5, 6, 7, 8, 9, 10, 11, 12, 13, 14, 15, 16, 17, 18, 19, 20, 21, 22, 23, 24, 25, 26, 27, 28, 29, 30, 31] (by kernel_rfl) (by kernel_rfl) (fun _ _ _ _ _ h => h) ?hS (fun hSc => ?_)
              case hS =>
                rw [HS0.out]
                refine ⟨?_, ?_, ?_, ?_, ?_, ?_, ?_, ?_, ?_, ?_, ?_, ?_⟩
                · first | assumption | (go_keep; done) | (go_simp; done)
                · first | assumption | (go_keep; done) | (go_simp; done)
                · first | assumption | (go_keep; done) | (go_simp; done)
                · first | assumption | (go_keep; done) | (go_simp; done)
                · first | assumption | (go_keep; done) | (go_simp; done)
                · first | assumption | (go_keep; done) | (go_simp; done)
                · first | assumption | (go_keep; done) | (go_simp; done)
                · first | assumption | (go_keep; done) | (go_simp; done)
                · (focus repeat (first | assumption | exact Below.refl _ _ | refine Below.drew ?_ | refine Below.alloc ?_ (by first | omega | exact Below.size (by assumption) | (simp; done) | (simp; omega)) _ | refine Below.setCell ?_ (by first | omega | exact Below.size (by assumption) | (simp; done) | (simp; omega)) _ | refine below_setRow ?_ (by first | omega | exact Below.size (by assumption) | (simp; done) | (simp; omega)) _ | (refine Below.trans ?_ (Below.mono (by assumption) ?_); rotate_left; exact (by first | omega | exact Below.size (by assumption) | (simp; done) | (simp; omega)))))
                · first | omega | (rw [heap_drew]; omega) | (simp; done) | (simp; omega)
                · first | omega | (rw [heap_drew]; omega) | (simp; done) | (simp; omega)
                · first | omega | (rw [heap_drew]; omega) | (simp; done) | (simp; omega)
              have hne0 : Nonempty (WS S0) := ⟨⟨_, hSc⟩⟩
              simp only [List.map_cons, List.map_nil, List.getD_cons_succ, List.getD_cons_zero]
              refine wpSch_looks (L1 := [_, _, _, _, _, _, _, _, _]) (L2 := _) rfl ?_
              iterate 9 (go_big_quiet_step (fail))
              refine wpQuiet_nil ?_
              (try dsimp only)
              refine wpSch_act rfl rfl (fun K hK => ?_)
              go_simp
              go_wp2_with (go_at_call 9; refine (hl _ (by (focus repeat (first | assumption | exact Below.refl _ _ | refine Below.drew ?_ | refine Below.alloc ?_ (by first | omega | exact Below.size (by assumption) | (simp; done) | (simp; omega)) _ | refine Below.setCell ?_ (by first | omega | exact Below.size (by assumption) | (simp; done) | (simp; omega)) _ | refine below_setRow ?_ (by first | omega | exact Below.size (by assumption) | (simp; done) | (simp; omega)) _ | (refine Below.trans ?_ (Below.mono (by assumption) ?_); rotate_left; exact (by first | omega | exact Below.size (by assumption) | (simp; done) | (simp; omega))))))).mono ?_; (rintro e w9 ⟨rfl, hb9⟩; obtain ⟨hc9, hf9⟩ := bcell hb9; have hz9 := hb9.size; try simp at hz9; try have hy9 := Nat.lt_of_succ_le hz9; try have hx9 := Nat.lt_of_succ_lt hy9; try have hw9 := Nat.lt_of_succ_lt hx9))
              refine hK.out _ _ ?hS (fun hSc => ?_)
              case hS =>
                first
                | exact hSc
                | (rw [HS0.out] at hSc ⊢; obtain ⟨p0, p1, p2, p3, p4, p5, p6, p7, p8, p9, p10, p11⟩ := hSc; exact ⟨(hc9 _ _ (by first | assumption | omega)).trans p0, (hc9 _ _ (by first | assumption | omega)).trans p1, (hc9 _ _ (by first | assumption | omega)).trans p2, (hc9 _ _ (by first | assumption | omega)).trans p3, (hc9 _ _ (by first | assumption | omega)).trans p4, (hc9 _ _ (by first | assumption | omega)).trans p5, (hc9 _ _ (by first | assumption | omega)).trans p6, (hc9 _ _ (by first | assumption | omega)).trans p7, p8.trans (hb9.mono (by have := p8.size; omega)), Nat.lt_of_lt_of_le p9 hb9.size, Nat.lt_of_lt_of_le p10 hb9.size, Nat.lt_of_lt_of_le p11 hb9.size⟩)
              clear hK K
              refine wpSch_looks (L1 := [_, _, _, _, _, _, _, _, _, _, _, _, _, _, _, _, _, _, _, _, _, _]) (L2 := _) rfl ?_
              iterate 22 (go_big_quiet_step (fail))
              refine wpQuiet_nil ?_
              (try dsimp only)
              refine wpSch_nil ?_
              rw [HS0.out] at hSc
              obtain ⟨p0, p1, p2, p3, p4, p5, p6, p7, p8, p9, p10, p11⟩ := hSc
              clear hne0 HS0 k0 k1 k2 k3 k4 k5 k6 k7 k8 k9 k10 k11
              go_wp2_with fail
              go_roundw
              case rel =>
                obtain ⟨x1, x2, x3, x4, x5, x6, x7⟩ := HNX.out s o _ p8
                refine ⟨2, s, o, by go_num, by omega, x1, hsl, hol, hlm, hls2, fun s' o' h => HC.out s' o' ?_, fun d' hd => ?_, x2.trans (by rw [HKD.out]), x3, x4, x5, x6, x7⟩
                · by_cases h1 : c = d
                  · rw [HE1.out h1] at h ⊢; simpa using h
                  · rw [show min 2 (EN F b).length = 1 + 1 by rw [HE2'.out h1]; rfl] at h
                    rw [show min 1 (EN F b).length = 1 by rw [HE2'.out h1]; rfl]
                    exact .old (by rw [HE2'.out h1]; simp) (by rw [HE2'.out h1]; rfl) HSC.out h
                · by_cases h1 : c = d
                  · rw [HE1.out h1] at hd; simp at hd; rw [hd]; exact HS0.out
                  · rw [HE2'.out h1] at hd
                    simp at hd
                    rcases hd with hd | hd
                    · rw [hd]; exact HS0.out
                    · rw [hd]; exact HSC.out
              case measure => simp [intOf]
      · obtain rfl : k = 2 := by omega
        have HV := Lib.hid (HC.out s (o ++ [b]) (.done (by omega)))
        obtain ⟨vo', hrec, hmk, hout⟩ := hst
        have q4 := hrec.cellAt 4 (by omega)
        have hfz := hrec.frozenAt 4
        simp at q4
        have hgz : g < wr.heap.size := (hrec.lt _ rfl).2
        have hBz : B ≤ wr.heap.size := by omega
        have hlit : (wr.alloc (.cells #[.int .i64 (b : Int)] 3)).ownsRow B 3 1 (.slice (some ⟨wr.heap.size, 0, none⟩) 1 1) 1 [.int .i64 (b : Int)] := by
          have := World.ownsRow_lit (base := B) (e := 3) (size := 1) wr #[.int .i64 (b : Int)] 1 hBz (by decide) rfl
          simpa using this
        have hgne : wr.heap.size ≠ g := by omega
        have hgsz : gs < wr.heap.size := (hmk.lt _ rfl).2
        have hgsne : wr.heap.size ≠ gs := by omega
        rcases hout.2 with ⟨rfl, h0⟩ | ⟨go, cap, cur, rfl, hgo, hh, hn, hcap, hsz, htake⟩
        · have ho0 : o = [] := List.eq_nil_of_length_eq_zero h0
          subst ho0
          clear h0
          go_wp2_with (at_builtin; go_loud (refine wpList_append_own_none rfl _ _ 23 rfl B 3 ii 1 Tryd.underlying23 hii _ 1 _ rfl hlit rfl ?_))
          go_end0
          obtain ⟨z1, z2, z3⟩ := vis_end (tw := 59) (tb := 4) (ti := 3) (s := s) (o' := [b]) (by decide) (by decide) (hrec.alloc (.cells #[.int .i64 (b : Int)] 3)) (hmk.alloc _) (by simpa [ints] using hlit) (hb1.alloc hBz _)
          have e : (wr.alloc (.cells #[.int .i64 (b : Int)] 3)).setCell ⟨g, 4, none⟩ (.slice (some ⟨wr.heap.size, 0, none⟩) 1 1) = (wr.setCell ⟨g, 4, none⟩ (.slice (some ⟨wr.heap.size, 0, none⟩) 1 1)).alloc (.cells #[.int .i64 (b : Int)] 3) := World.setCell_alloc_past _ _ _ _ hgz
          rw [e] at z1 z2 z3
          refine ⟨rfl, s, [b], by simpa using HV.out, hsl, by simp at hol ⊢; omega, z1, z2, by simp; omega, hls2, fun p hp h1 h2 => ?_⟩
          rw [z3 p h1, ← HFR.out p hp h1 h2]
          exact ((Below.refl wr.heap.size wr).alloc (Nat.le_refl _) _).cell (by omega)
        · have hnz : ∀ j u, ((ints o.reverse).map (Value.int .i64))[j]? = some u → (wr.alloc (.cells #[.int .i64 (b : Int)] 3)).cell? ((⟨go, 0, none⟩ : Addr).add j) = some u := fun j u hj => by
            have hjl : j < o.length := by have := (List.getElem?_eq_some_iff.1 hj).1; simpa [ints] using this
            have h1 := (hout.alloc (.cells #[.int .i64 (b : Int)] 3)).cellAt j (by omega)
            rw [hj] at h1
            cases j <;> simpa [Addr.add] using h1
          have hone : ∀ u ∈ (ints o.reverse).map (Value.int .i64), u.oneCell' = true := fun u hu => by
            obtain ⟨x, -, rfl⟩ := List.mem_map.1 hu
            rfl
          have hll : ((ints o.reverse).map (Value.int .i64)).length = o.length * 1 := by simp [ints]
          have HNZ := Lib.hid hnz
          have hob : 1 + o.length ≤ 200 := by omega
          clear hh htake hnz
          go_wp2_with (at_builtin; go_loud (refine wpList_append_own _ rfl _ _ 23 rfl B 3 ii _ 1 8 Tryd.underlying23 hii hj0 hj1 hj2 rfl (by decide) _ 1 _ rfl hlit ⟨go, 0, none⟩ o.length cap _ rfl hll HNZ.out hone (by unfold maxLen; omega) (by omega) (by simp; omega) ?_); intro v' w3 hown3 hg3 _; rw [Nat.add_comm 1] at hown3; obtain ⟨Av, cv, hv3⟩ := own_form hown3; subst hv3; have hr3 := own_grown hrec ((Below.refl _ _).alloc (Nat.le_refl _) _) hg3 (fun g' hg' e => by cases hg'; exact hgne (Option.some.inj e)); have q43 := hr3.cellAt 4 (by omega); have hf3 := hr3.frozenAt 4; have hgz3 : g < w3.heap.size := (hr3.lt _ rfl).2; simp at q43)
          go_end0
          have hm3 := own_grown hmk ((Below.refl _ _).alloc (Nat.le_refl _) _) hg3 (fun g' hg' e => by cases hg'; exact hgsne (Option.some.inj e))
          have hb3 : Below B w w3 := (hb1.alloc hBz _).grown hg3 (by simp; omega) (fun k hk => by cases hk; omega)
          have hs3 := hg3.size
          simp at hs3
          obtain ⟨z1, z2, z3⟩ := vis_end (tw := 59) (tb := 4) (ti := 3) (s := s) (o' := o ++ [b]) (by decide) (by decide) hr3 hm3 (by simpa [ints] using hown3) hb3
          refine ⟨rfl, s, o ++ [b], HV.out, hsl, by simp; omega, z1, z2, by simp; omega, hls2, fun p hp h1 h2 => ?_⟩
          rw [z3 p h1, ← HFR.out p hp h1 h2, World.cell?_of_block (w := wr.alloc (.cells #[.int .i64 (b : Int)] 3)) (hg3.block p.block (by simp; omega) (fun e => Nat.ne_of_lt (by omega : p.block < wr.heap.size) (Option.some.inj e)))]
          exact ((Below.refl wr.heap.size wr).alloc (Nat.le_refl _) _).cell (by omega)
end Go.Proofs.YtenedeaiepjedaaDoor
