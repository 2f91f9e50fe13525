/- Which blocks are reached: the reference's Reached, graph.reach, graph.Reach. -/
import Derived.Test.YtenedeaiepjedaaDoorFrom
import Derived.Test.YtenedeaiepjedaaDoorGraph
namespace Go.Proofs.YtenedeaiepjedaaDoor
open Go.RowKit
set_option maxRecDepth 100000

theorem reached_calls {W w : World} {fv : Value} {F : PFunc} (hF : FnV W W.heap.size fv F) (hW : Below W.heap.size W w) (n1 : 1 ≤ F.blocks.length) (n2 : F.blocks.length ≤ 64) (r : Int) :
    Calls Tryd.prog 16 #[fv, .int .i64 r] w fun e w' => ∃ g, e = .returned (.slice (some ⟨g, 0, none⟩) F.blocks.length F.blocks.length) ∧
      w'.ownsRow w.heap.size 4 1 (.slice (some ⟨g, 0, none⟩) F.blocks.length F.blocks.length) F.blocks.length (((plusL (RF F r) F.blocks.length 0).set 0 (decide (r ≠ 0))).map Value.bool) ∧ Below w.heap.size w w' := by
  have hfr := Lib.hid (fun (w' : World) (h : Below W.heap.size W w') => from_calls hF h n1 n2 0 r)
  obtain ⟨A0, c0, A1, c1, A2, c2, rfl, l0, l1, l2, -⟩ := id hF.open_
  unfold Len at *
  have hWs := hW.size
  have hb0 := (Below.refl w.heap.size w).alloc (Nat.le_refl _) (.cells #[.slice A0 F.vars.length c0, .slice A1 F.params.length c1, .slice A2 F.blocks.length c2] 26)
  have e : (r != 0) = decide (r ≠ 0) := by by_cases h : r = 0 <;> simp [h]
  generalize decide (r ≠ 0) = b at *
  generalize plusL (RF F r) F.blocks.length 0 = t at *
  go_enter Tryd.func16, Tryd.ntmps16
  go_wp2_with fail
  refine (hfr.out _ (hW.trans (hb0.mono hWs))).mono ?_
  rintro e' w1 ⟨g, rfl, ho, hb⟩
  have ho' := own_base ho (B' := w.heap.size) (by simp)
  have hgl := (ho.lt _ rfl)
  have hfz := ho.frozenAt 0
  have hc0 := own_bool ho (i := 0) (by omega)
  go_wp2
  go_ret
  refine ⟨_, rfl, ?_, ?_⟩
  · rw [← bool_set]; exact (ho'.stored 0 (.bool b)).1
  · exact (hb0.trans (hb.mono (by simp))).setCell (by simp at hgl ⊢; omega) _

/-- a row of marks holds no number. -/
theorem own_bool_ne {w : World} {B e g n b o : Nat} {k : IntKind} {x : Int} {t : List Bool} (h : w.ownsRow B e 1 (.slice (some ⟨g, 0, none⟩) n n) n (t.map Value.bool)) (hc : w.cell? ⟨b, o, none⟩ = some (.int k x)) : b ≠ g := by
  rintro rfl
  by_cases ho : o < n
  · rw [own_bool h ho] at hc
    cases hc
  · rcases h.2 with ⟨h0, _⟩ | ⟨g', cap, cur, hv, hg, hh, hn, hcap, hsz, _⟩
    · cases h0
    · cases hv
      rw [cell_of_row w b o cur e (0, 0) hh, Array.getElem?_eq_none (by omega)] at hc
      cases hc
/-- the marks of a list of blocks. -/
def marksL (n : Nat) (l : List Nat) : List Bool := (List.range n).map fun x => decide (x ∈ l)
theorem marksL_len {n : Nat} {l : List Nat} : (marksL n l).length = n := by simp [marksL]
theorem marksL_nil {n : Nat} : marksL n [] = List.replicate n false := by
  refine List.ext_getElem (by simp [marksL]) fun i h1 h2 => ?_
  simp [marksL]
theorem marksL_push {n x : Nat} {l : List Nat} : (marksL n l).set x true = marksL n (l ++ [x]) := by
  refine List.ext_getElem (by simp [marksL]) fun i h1 h2 => ?_
  rw [List.getElem_set]
  by_cases h : x = i
  · subst h; simp [marksL]
  · rw [if_neg h]
    have : ¬ i = x := fun e => h e.symm
    simp [marksL, this]
set_option maxHeartbeats 4000000 in
theorem reach_calls {W w : World} {fv : Value} {F : PFunc} (hF : FnV W W.heap.size fv F) (hW : Below W.heap.size W w) (hT : typedP F = true) :
    Calls Tryd.prog 23 #[fv] w fun e w' => ∃ g, e = .returned (.slice (some ⟨g, 0, none⟩) F.blocks.length F.blocks.length) ∧
      w'.ownsRow w.heap.size 4 1 (.slice (some ⟨g, 0, none⟩) F.blocks.length F.blocks.length) F.blocks.length ((marksL F.blocks.length (postO F).reverse).map Value.bool) ∧ Below w.heap.size w w' := by
  have hor := Lib.hid (fun (w' : World) (h : Below W.heap.size W w') => order_calls hF h hT)
  obtain ⟨n1, n2⟩ := shaped_count (typed_shaped hT)
  have fin := Lib.hid (post_fin hT)
  have hlt := Lib.hid (fun (x : Nat) (hx : x ∈ (postO F).reverse) => fin.out.lt x (List.mem_reverse.1 hx))
  obtain ⟨A0, c0, A1, c1, A2, c2, rfl, l0, l1, l2, -⟩ := id hF.open_
  unfold Len at *
  have hWs := hW.size
  have hb0 := (Below.refl w.heap.size w).alloc (Nat.le_refl _) (.cells #[.slice A0 F.vars.length c0, .slice A1 F.params.length c1, .slice A2 F.blocks.length c2] 26)
  obtain ⟨ib, hib, hz0, hz1, hz2⟩ := info_parts Tryd.info4
  generalize (postO F).reverse = L at *
  clear hT fin
  go_enter Tryd.func23, Tryd.ntmps23
  go_wp2_with (
    at_make; refine wpList_make_full _ rfl _ _ 39 rfl (w.heap.size + 1) 4 ib _ 1 Tryd.underlying39 hib hz0 hz1 _ _ _ _ _ rfl rfl rfl rfl (by rw [hz2]; omega) (by unfold maxLen; omega) (by simp) ?_; intro w1 hs1 hg1
    have hs2 : w1.ownsRow (w.heap.size + 1) 4 1 (.slice (some ⟨w.heap.size + 1, 0, none⟩) F.blocks.length F.blocks.length) F.blocks.length ((marksL F.blocks.length []).map Value.bool) := by rw [marksL_nil]; simpa [Value.cells, toList_madeCells_one] using hs1
    have hg2 : (w.alloc (.cells #[.slice A0 F.vars.length c0, .slice A1 F.params.length c1, .slice A2 F.blocks.length c2] 26)).grownBy w1 none := hg1
    have hbx : Below (w.heap.size + 1) (w.alloc (.cells #[.slice A0 F.vars.length c0, .slice A1 F.params.length c1, .slice A2 F.blocks.length c2] 26)) w1 := (Below.refl _ _).grown hg2 (by simp) (fun k hk => by cases hk)
    obtain ⟨hq, hq0, hq1, hq2⟩ := box3 hbx
    clear hs1 hg1 hg2)
  have hB := hb0.trans (hbx.mono (Nat.le_succ _))
  refine (hor.out _ (hW.trans (hB.mono hWs))).mono ?_
  (rintro e w3 ⟨A3, c3, rfl, l3, k3, r3, hb3⟩; obtain ⟨hc3, hf3⟩ := bcell hb3; have hz3 := hb3.size; try simp at hz3; try have hy3 := Nat.lt_of_succ_le hz3; try have hx3 := Nat.lt_of_succ_lt hy3; try have hw3 := Nat.lt_of_succ_lt hx3)
  have hs3 := own_below hs2 hb3
  have hB3 := hB.trans (hb3.mono hB.size)
  have hlen : (ints L).length = L.length := by simp [ints]
  have hith : ∀ i, i < L.length → ith (ints L) i = ((L.getD i 0 : Nat) : Int) := fun i hi => by simp [ith, ints, List.getD, hi]
  replace hith := Lib.hid hith
  have hlen' := Lib.hid hlen
  rw [hlen] at l3 ⊢
  unfold Len at l3
  clear hq0 hq1 hq2 hs2 hc3 hf3 hlen k3
  go_wp2_with fail
  go_loopw [13] (fun i wr => ∃ n : Nat, i = .int .i64 n ∧ n ≤ L.length ∧ w3.heap.size ≤ wr.heap.size ∧ (∀ p : Addr, p.block ≠ w.heap.size + 1 → wr.cell? p = w3.cell? p) ∧ Below w.heap.size w wr ∧ wr.ownsRow (w.heap.size + 1) 4 1 (.slice (some ⟨w.heap.size + 1, 0, none⟩) F.blocks.length F.blocks.length) F.blocks.length ((marksL F.blocks.length (L.take n)).map Value.bool)) (fun i _ => L.length - (intOf i).toNat)
  case atStart => exact ⟨0, rfl, Nat.zero_le _, Nat.le_refl _, fun _ _ => rfl, hB3, by simpa using hs3⟩
  case round => as_aux_lemma =>
    obtain ⟨n, rfl, hn, hsz, hsame, hb, ho⟩ := hrel
    by_cases hnl : n < L.length
    · obtain ⟨b, off, rfl, hbl, hc⟩ := r3.int (Below.refl _ _) (i := n) (by rw [hlen'.out]; exact hnl)
      have hbne := own_bool_ne hs3 hc
      rw [hith.out n hnl] at hc
      have hmem : L.getD n 0 ∈ L := by rw [getD_get hnl]; exact List.getElem_mem hnl
      have hbn := hlt.out _ hmem
      have hst : L.take (n + 1) = L.take n ++ [L.getD n 0] := by rw [List.take_succ_eq_append_getElem hnl, getD_get hnl]
      have HST := Lib.hid hst
      have hcr := (hsame ⟨b, off + n, none⟩ hbne).trans hc
      have hbl' := Nat.lt_of_lt_of_le hbl hsz
      generalize L.getD n 0 = c at *
      have hcell := own_bool ho hbn
      have hfz := ho.frozenAt c
      have hgl := (ho.lt _ rfl).2
      have HSM := Lib.hid hsame
      clear hst hc hsame
      go_wp2
      go_roundw
      case rel =>
        refine ⟨n + 1, by go_num, by omega, by simpa using hsz, fun p hp => ?_, hb.setCell (Nat.le_succ _) _, ?_⟩
        · rw [World.cell?_setCell_other (h := fun e => hp (by rw [← e]))]
          exact HSM.out p hp
        · rw [HST.out, ← marksL_push, ← bool_set]
          exact (ho.stored c (.bool true)).1
      case measure => simp [intOf]; omega
    · obtain rfl : n = L.length := by omega
      rw [List.take_length] at ho
      clear hsame
      go_wp2
      go_ret
      exact ⟨_, rfl, own_base ho (Nat.le_succ _), hb⟩
def RetBools (w : World) (bs : List Bool) (e : Ending) (w' : World) : Prop :=
  ∃ g, e = .returned (.slice (some ⟨g, 0, none⟩) bs.length bs.length) ∧ w'.ownsRow w.heap.size 4 1 (.slice (some ⟨g, 0, none⟩) bs.length bs.length) bs.length (bs.map Value.bool) ∧ Below w.heap.size w w'
theorem reachNo_calls {W w : World} {fv : Value} {F : PFunc} (hU : Uni W) (hF : FnV W W.heap.size fv F) (hW : Below W.heap.size W w) (hS : Small F) (hT : typedP F = false) :
    Calls Tryd.prog 13 #[fv] w fun e w' => e = .returned (.slice none 0 0) ∧ Below w.heap.size w w' := by
  have hr := fun (w : World) (h : Below W.heap.size W w) => right_calls hU hF h hS
  rw [hT] at hr
  have hWs := hW.size
  obtain ⟨A0, c0, A1, c1, A2, c2, rfl, -⟩ := id hF.open_
  clear hT
  go_enter Tryd.func13, Tryd.ntmps13
  go_wp2_with (go_at_call 20; refine (hr _ (by (focus repeat (first | assumption | exact Below.refl _ _ | refine Below.drew ?_ | refine Below.alloc ?_ (by first | omega | exact Below.size (by assumption) | (simp; done) | (simp; omega)) _ | refine Below.setCell ?_ (by first | omega | exact Below.size (by assumption) | (simp; done) | (simp; omega)) _ | refine below_setRow ?_ (by first | omega | exact Below.size (by assumption) | (simp; done) | (simp; omega)) _ | (refine Below.trans ?_ (Below.mono (by assumption) ?_); rotate_left; exact (by first | omega | exact Below.size (by assumption) | (simp; done) | (simp; omega))))))).mono ?_; (rintro e w1 ⟨rfl, hb1⟩; obtain ⟨hc1, hf1⟩ := bcell hb1; have hz1 := hb1.size; try simp at hz1; try have hy1 := Nat.lt_of_succ_le hz1; try have hx1 := Nat.lt_of_succ_lt hy1; try have hw1 := Nat.lt_of_succ_lt hx1))
  go_ret
  exact ⟨rfl, by (focus repeat (first | assumption | exact Below.refl _ _ | refine Below.drew ?_ | refine Below.alloc ?_ (by first | omega | exact Below.size (by assumption) | (simp; done) | (simp; omega)) _ | refine Below.setCell ?_ (by first | omega | exact Below.size (by assumption) | (simp; done) | (simp; omega)) _ | refine below_setRow ?_ (by first | omega | exact Below.size (by assumption) | (simp; done) | (simp; omega)) _ | (refine Below.trans ?_ (Below.mono (by assumption) ?_); rotate_left; exact (by first | omega | exact Below.size (by assumption) | (simp; done) | (simp; omega)))))⟩
theorem reachYes_calls {W w : World} {fv : Value} {F : PFunc} (hU : Uni W) (hF : FnV W W.heap.size fv F) (hW : Below W.heap.size W w) (hS : Small F) (hT : typedP F = true) :
    Calls Tryd.prog 13 #[fv] w (RetBools w (marksL F.blocks.length (postO F).reverse)) := by
  have hr := fun (w : World) (h : Below W.heap.size W w) => right_calls hU hF h hS
  have ho := fun (w : World) (h : Below W.heap.size W w) => reach_calls hF h hT
  rw [hT] at hr
  have hWs := hW.size
  obtain ⟨A0, c0, A1, c1, A2, c2, rfl, -⟩ := id hF.open_
  clear hT
  have hl : (marksL F.blocks.length (postO F).reverse).length = F.blocks.length := marksL_len
  unfold RetBools
  rw [hl]
  generalize marksL F.blocks.length (postO F).reverse = L at *
  clear hl
  have hb0 := (Below.refl w.heap.size w).alloc (Nat.le_refl _) (.cells #[.slice A0 F.vars.length c0, .slice A1 F.params.length c1, .slice A2 F.blocks.length c2] 26)
  go_enter Tryd.func13, Tryd.ntmps13
  go_wp2_with (first | (go_at_call 20; refine (hr _ (by (focus repeat (first | assumption | exact Below.refl _ _ | refine Below.drew ?_ | refine Below.alloc ?_ (by first | omega | exact Below.size (by assumption) | (simp; done) | (simp; omega)) _ | refine Below.setCell ?_ (by first | omega | exact Below.size (by assumption) | (simp; done) | (simp; omega)) _ | refine below_setRow ?_ (by first | omega | exact Below.size (by assumption) | (simp; done) | (simp; omega)) _ | (refine Below.trans ?_ (Below.mono (by assumption) ?_); rotate_left; exact (by first | omega | exact Below.size (by assumption) | (simp; done) | (simp; omega))))))).mono ?_; (rintro e w1 ⟨rfl, hb1⟩; obtain ⟨hc1, hf1⟩ := bcell hb1; have hz1 := hb1.size; try simp at hz1; try have hy1 := Nat.lt_of_succ_le hz1; try have hx1 := Nat.lt_of_succ_lt hy1; try have hw1 := Nat.lt_of_succ_lt hx1)) | (go_at_call 23; refine (ho _ (by (focus repeat (first | assumption | exact Below.refl _ _ | refine Below.drew ?_ | refine Below.alloc ?_ (by first | omega | exact Below.size (by assumption) | (simp; done) | (simp; omega)) _ | refine Below.setCell ?_ (by first | omega | exact Below.size (by assumption) | (simp; done) | (simp; omega)) _ | refine below_setRow ?_ (by first | omega | exact Below.size (by assumption) | (simp; done) | (simp; omega)) _ | (refine Below.trans ?_ (Below.mono (by assumption) ?_); rotate_left; exact (by first | omega | exact Below.size (by assumption) | (simp; done) | (simp; omega))))))).mono ?_; rintro e w2 ⟨g, rfl, ho2, hb2⟩))
  go_ret
  exact ⟨_, rfl, own_base ho2 (by omega), by (focus repeat (first | assumption | exact Below.refl _ _ | refine Below.drew ?_ | refine Below.alloc ?_ (by first | omega | exact Below.size (by assumption) | (simp; done) | (simp; omega)) _ | refine Below.setCell ?_ (by first | omega | exact Below.size (by assumption) | (simp; done) | (simp; omega)) _ | refine below_setRow ?_ (by first | omega | exact Below.size (by assumption) | (simp; done) | (simp; omega)) _ | (refine Below.trans ?_ (Below.mono (by assumption) ?_); rotate_left; exact (by first | omega | exact Below.size (by assumption) | (simp; done) | (simp; omega)))))⟩
end Go.Proofs.YtenedeaiepjedaaDoor
