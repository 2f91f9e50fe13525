/- The reference's order: ref10.Order. -/
import Derived.Test.YtenedeaiepjedaaDoorVisB
namespace Go.Proofs.YtenedeaiepjedaaDoor
open Go.RowKit
set_option maxRecDepth 100000

set_option maxHeartbeats 4000000 in
theorem refOrder_calls {W w : World} {fv : Value} {F : PFunc} (hF : FnV W W.heap.size fv F) (hW : Below W.heap.size W w) (hT : typedP F = true) :
    Calls Tryd.prog 15 #[fv] w (RetInts w (ints (postO F).reverse)) := by
  obtain ⟨n1, n2⟩ := shaped_count (typed_shaped hT)
  obtain ⟨A0, c0, A1, c1, A2, c2, rfl, l0, l1, l2, -⟩ := id hF.open_
  unfold Len at *
  have hWs := hW.size
  have hb0 := (Below.refl w.heap.size w).alloc (Nat.le_refl _) (.cells #[.slice A0 F.vars.length c0, .slice A1 F.params.length c1, .slice A2 F.blocks.length c2] 26)
  have hvis := Lib.hid (fun (w' : World) (g gs : Nat) => visit_calls hF hT (w.heap.size + 1) g gs (by omega) F.blocks.length w' (List.replicate F.blocks.length false) [] 0)
  have HT := Lib.hid hT
  clear hT
  obtain ⟨ib, hib, hz0, hz1, hz2⟩ := info_parts Tryd.info4
  have hmk : ∀ w : World, (Instr.makeSlice 39 (.int .i64 (F.blocks.length : Int)) (.int .i64 (F.blocks.length : Int))).run Tryd.prog w = .ok (.slice (some ⟨w.heap.size, 0, none⟩) F.blocks.length F.blocks.length) (w.alloc (.cells (madeCells (Value.bool false).cells (F.blocks.length * ib.size)) 4)) := fun w => by
    have hr := run_make (P := Tryd.prog) w 39 4 ib (.bool false) Tryd.underlying39 hib hz0 .i64 .i64 F.blocks.length F.blocks.length (by omega) (by omega) (by rw [hz2]; omega) (by omega)
    simp only [Int.toNat_natCast] at hr
    exact hr
  have hm1 : ((w.alloc (.cells #[.slice A0 F.vars.length c0, .slice A1 F.params.length c1, .slice A2 F.blocks.length c2] 26)).alloc (.cells (madeCells #[.bool false] F.blocks.length) 4)).ownsRow (w.heap.size + 1) 4 1 (.slice (some ⟨w.heap.size + 1, 0, none⟩) F.blocks.length F.blocks.length) F.blocks.length ((List.replicate F.blocks.length false).map Value.bool) := by
    have := World.ownsRow_lit (base := w.heap.size + 1) (e := 4) (size := 1) (w.alloc (.cells #[.slice A0 F.vars.length c0, .slice A1 F.params.length c1, .slice A2 F.blocks.length c2] 26)) (madeCells #[.bool false] F.blocks.length) F.blocks.length (by simp) (by unfold maxLen; omega) (by rw [← Array.length_toList, toList_madeCells_one]; simp)
    simpa [toList_madeCells_one] using this
  have hst : VisSt F (w.heap.size + 1) 59 4 3 (w.heap.size + 1 + 1) (w.heap.size + 1) (.slice A0 F.vars.length c0) (.slice A1 F.params.length c1) (.slice A2 F.blocks.length c2) (((w.alloc (.cells #[.slice A0 F.vars.length c0, .slice A1 F.params.length c1, .slice A2 F.blocks.length c2] 26)).alloc (.cells (madeCells #[.bool false] F.blocks.length) 4)).alloc (.cells #[.slice A0 F.vars.length c0, .slice A1 F.params.length c1, .slice A2 F.blocks.length c2, .slice (some ⟨w.heap.size + 1, 0, none⟩) F.blocks.length F.blocks.length, .slice none 0 0] 59)) (List.replicate F.blocks.length false) [] := by
    refine ⟨.slice none 0 0, ?_, hm1.alloc _, World.ownsRow_nil _ _ _ _⟩
    have := World.ownsRow_lit (base := w.heap.size + 1) (e := 59) (size := 5) ((w.alloc (.cells #[.slice A0 F.vars.length c0, .slice A1 F.params.length c1, .slice A2 F.blocks.length c2] 26)).alloc (.cells (madeCells #[.bool false] F.blocks.length) 4)) #[.slice A0 F.vars.length c0, .slice A1 F.params.length c1, .slice A2 F.blocks.length c2, .slice (some ⟨w.heap.size + 1, 0, none⟩) F.blocks.length F.blocks.length, .slice none 0 0] 1 (by simp) (by decide) rfl
    simpa using this
  have hbW := ((hb0.mono (Nat.le_refl _)).alloc (by simp) (.cells (madeCells #[.bool false] F.blocks.length) 4)).alloc (by first | (simp; done) | (simp; omega)) (.cells #[.slice A0 F.vars.length c0, .slice A1 F.params.length c1, .slice A2 F.blocks.length c2, .slice (some ⟨w.heap.size + 1, 0, none⟩) F.blocks.length F.blocks.length, .slice none 0 0] 59)
  have hstD := hst.below (Below.drew (Below.refl _ _))
  have hv := hvis.out _ (w.heap.size + 1 + 1) (w.heap.size + 1) (by have := left_le (t := List.replicate F.blocks.length false); simpa using this) (by cases F.blocks.length <;> simp [List.replicate_succ]) (by omega) (by simp) (by have := left_le (t := List.replicate F.blocks.length false); simpa using this) (hW.trans ((Below.drew hbW).mono hWs)) (by first | (simp; done) | (simp; omega)) hstD
  go_enter Tryd.func15, Tryd.ntmps15
  go_wp2_with fail
  go_region
  go_wp2_with fail
  refine hv.mono ?_
  rintro e w5 ⟨rfl, s1, o1, hv1, hl1, hol1, ⟨vo, z1, z2, z3⟩, hb5, -, -, -⟩
  have q4 := z1.cellAt 4 (by omega)
  simp at q4
  have hgz : w.heap.size + 1 + 1 < w5.heap.size := (z1.lt _ rfl).2
  have hp := Vis.post HT.out hv1
  obtain ⟨A9, c9, rfl⟩ := own_form z3
  have hB := (Below.drew hbW).trans (hb5.mono (Nat.le_succ _))
  have hlb := left_le (t := List.replicate F.blocks.length false)
  simp at hlb hol1
  go_wp2
  go_ret
  rw [← hp]
  exact RetInts.of_own (xs := ints o1.reverse) z3 (by omega) hB
end Go.Proofs.YtenedeaiepjedaaDoor
