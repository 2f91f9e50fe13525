/- The walks of print.names and print.Shaped. -/
import Derived.Test.YteajnaabbddohaaGreatDoorMap
namespace Go.Proofs.YteajnaabbddohaaGreatDoor
open Go.RowKit
set_option maxRecDepth 100000

/-- a program small enough that its counts can be counted. -/
def Small (F : PFunc) : Prop := F.vars.length ≤ 1048575 ∧ F.blocks.length ≤ 1048575 ∧ ∀ i, i < F.blocks.length → (F.blk i).phis.length ≤ 1048576 ∧ (F.blk i).insts.length ≤ 1048576
def okTy (t : Int) : Bool := decide (t = 0) || decide (t = 1) || decide (t = 2)
theorem typeWord_empty (t : Int) : (typeWord t).toList.isEmpty = !okTy t := by
  unfold typeWord okTy
  by_cases h0 : t = 0
  · subst h0; decide +kernel
  · by_cases h1 : t = 1
    · subst h1; decide +kernel
    · by_cases h2 : t = 2
      · subst h2; decide +kernel
      · simp only [h0, h1, h2]; decide +kernel
theorem Tryz.info9 : (Tryz.prog.info? 9).map (fun i => (i.zero, i.size, i.bytes)) = some (some (.string ByteArray.empty), 1, 16) := by kernel_rfl
def vnames (F : PFunc) : List ByteArray := F.vars.map (·.name)
def bnames (F : PFunc) : List ByteArray := F.blocks.map (·.name)
theorem drop_var {F : PFunc} {i : Nat} (h : i < F.vars.length) : F.vars.drop i = F.var i :: F.vars.drop (i + 1) := by
  rw [List.drop_eq_getElem_cons h]
  have := PFunc.var_get h
  rw [List.getElem?_eq_getElem h] at this
  injection this with this
  rw [this]
theorem drop_blk {F : PFunc} {i : Nat} (h : i < F.blocks.length) : F.blocks.drop i = F.blk i :: F.blocks.drop (i + 1) := by
  rw [List.drop_eq_getElem_cons h]
  have := PFunc.blk_get h
  rw [List.getElem?_eq_getElem h] at this
  injection this with this
  rw [this]
theorem take_var {F : PFunc} {i : Nat} (h : i < F.vars.length) : (vnames F).take (i + 1) = (vnames F).take i ++ [(F.var i).name] := by
  rw [List.take_add_one]
  simp [vnames, PFunc.var_get h]
theorem take_blk {F : PFunc} {i : Nat} (h : i < F.blocks.length) : (bnames F).take (i + 1) = (bnames F).take i ++ [(F.blk i).name] := by
  rw [List.take_add_one]
  simp [bnames, PFunc.blk_get h]
/-- each one its own place. -/
def countsB : List Int → Nat → Bool
  | [], _ => true
  | p :: r, i => decide (p = i) && countsB r (i + 1)
def namesB (F : PFunc) : Bool := F.vars.all (fun v => okTy v.ty) && countsB F.params 0 && decide (F.vars.length ≤ 512) && decide (F.params.length ≤ 8) && decide (F.params.length ≤ F.vars.length) && decide (1 ≤ F.blocks.length) && decide (F.blocks.length ≤ 64) &&
  unlikeB [] (vnames F) && unlikeB [] (bnames F)
theorem Rd.of_own_str {w : World} {base : Nat} {e : TypeId} {c n : Nat} {A : Option Addr} {xs : List ByteArray} (hsz : ∀ s ∈ xs, s.size ≤ maxLen) (h : w.ownsRow base e 1 (.slice A n c) n (xs.map Value.string)) : n = xs.length ∧ Rd w.heap.size A xs 1 (StrC w) := by
  obtain ⟨hl, h⟩ := h
  have hn : n = xs.length := by simpa using hl.symm
  rcases h with ⟨hv, hn0⟩ | ⟨g, cap, cur, hv, hb, hg, hnc, hcm, hs, hcur⟩
  · injection hv with h1 h2 h3
    subst h1 h2 h3
    refine ⟨hn, fun i x hx => ?_⟩
    have : xs = [] := List.eq_nil_of_length_eq_zero hn.symm
    subst this
    simp at hx
  · injection hv with h1 h2 h3
    subst h1 h3
    refine ⟨hn, fun i x hx => ⟨g, 0, rfl, (Array.getElem?_eq_some_iff.1 hg).1, hsz x (List.mem_of_getElem? hx), ?_⟩⟩
    rw [cell_of_row w g _ cur e (0, 0) hg]
    have : (cur.toList.take (n * 1))[i]? = some (.string x) := by rw [hcur]; simp [hx]
    rw [List.getElem?_take] at this
    split at this
    · simpa using this
    · cases this

theorem box3 {w w' : World} {x y z : Value} {t : TypeId} (hb : Below (w.heap.size + 1) (w.alloc (.cells #[x, y, z] t)) w') :
    w.heap.size < w'.heap.size ∧ w'.cell? ⟨w.heap.size, 0, none⟩ = some x ∧ w'.cell? ⟨w.heap.size, 1, none⟩ = some y ∧ w'.cell? ⟨w.heap.size, 2, none⟩ = some z := by
  have hg := heap_alloc_new w (.cells #[x, y, z] t)
  have hs := hb.size
  simp at hs
  exact ⟨hs, (hb.cell (p := ⟨w.heap.size, 0, none⟩) (Nat.lt_succ_self _)).trans (cell_of_row _ _ 0 _ _ _ hg), (hb.cell (p := ⟨w.heap.size, 1, none⟩) (Nat.lt_succ_self _)).trans (cell_of_row _ _ 1 _ _ _ hg), (hb.cell (p := ⟨w.heap.size, 2, none⟩) (Nat.lt_succ_self _)).trans (cell_of_row _ _ 2 _ _ _ hg)⟩
set_option maxHeartbeats 4000000 in
theorem names_calls {W w : World} {fv : Value} {F : PFunc} (hU : Uni W) (hF : FnV W W.heap.size fv F) (hW : Below W.heap.size W w) (hS : Small F) :
    Calls Tryz.prog 139 #[fv] w fun e w' => e = .returned (.bool (namesB F)) ∧ Below w.heap.size w w' := by
  obtain ⟨A0, c0, A1, c1, A2, c2, rfl, l0, l1, l2, -, -, -, r0, r1, r2⟩ := id hF.open_
  obtain ⟨s0, s1, -⟩ := id hS
  unfold Len at *
  have hWs := hW.size
  have hvz : ∀ s ∈ vnames F, s.size ≤ maxLen := fun s hs => by
    obtain ⟨v, hv, rfl⟩ := List.mem_map.1 hs
    obtain ⟨i, hi⟩ := List.mem_iff_getElem?.1 hv
    obtain ⟨b, off, _, _, hr⟩ := r0 i v hi
    exact hr.1
  have hbz : ∀ s ∈ bnames F, s.size ≤ maxLen := fun s hs => by
    obtain ⟨v, hv, rfl⟩ := List.mem_map.1 hs
    obtain ⟨i, hi⟩ := List.mem_iff_getElem?.1 hv
    obtain ⟨b, off, _, _, hr⟩ := r2 i v hi
    exact hr.1
  have hb0 := (Below.refl w.heap.size w).alloc (Nat.le_refl _) (.cells #[.slice A0 F.vars.length c0, .slice A1 F.params.length c1, .slice A2 F.blocks.length c2] 26)
  go_enter Tryz.func139, Tryz.ntmps139
  go_wp2
  go_loopw [3, 14] (fun v i wr => ∃ n : Nat, i = .int .i64 n ∧ n ≤ F.vars.length ∧ Below (w.heap.size + 1) (w.alloc (.cells #[.slice A0 F.vars.length c0, .slice A1 F.params.length c1, .slice A2 F.blocks.length c2] 26)) wr ∧
      wr.ownsRow (w.heap.size + 1) 9 1 v n (((vnames F).take n).map Value.string) ∧ Hid (F.vars.all (fun v => okTy v.ty) = (F.vars.drop n).all (fun v => okTy v.ty))) (fun _ i _ => F.vars.length - (intOf i).toNat)
  case atStart => exact ⟨0, rfl, Nat.zero_le _, Below.refl _ _, ⟨rfl, .inl ⟨rfl, rfl⟩⟩, by simp [Hid]⟩
  case round =>
    obtain ⟨n, rfl, hn, hb, hown, hf⟩ := hrel
    have hbs := hb.size
    simp at hbs
    have hWr : Below W.heap.size W wr := (hW.alloc hWs _).trans (hb.mono (by omega))
    by_cases hlt : n < F.vars.length
    · obtain ⟨b, off, rfl, hbb, hnz, hc0, hc1⟩ := r0.var hWr hlt
      have hd := Lib.hid (drop_var hlt)
      have htk := Lib.hid (take_var hlt)
      have hte := typeWord_empty (F.var n).ty
      cases ho : okTy (F.var n).ty
      · have HF := Lib.hid (show namesB F = false by rw [namesB, hf.out, hd.out, List.all_cons, ho]; rfl)
        rw [ho] at hte
        clear ho
        go_wp2_with (first
          | (at_builtin; refine wpList_append1 _ rfl _ _ 203 rfl (w.heap.size + 1) 9 16 Tryz.underlying203 Tryz.info9 rfl _ _ _ rfl (hown.alloc _) _ (by simp) _ rfl rfl (by omega) (by decide) (by simp; omega) ?_; intro v' w3 hown2 hg; have hgs := hg.size; simp at hgs; have hgl := Nat.lt_of_succ_le hgs; have hgm := Nat.lt_of_succ_lt hgl; have hg1 := grown_cell hown hg ⟨wr.heap.size, 1, none⟩ (.inr (Nat.le_refl _)) (by simp; omega); have hB3 := grown_below (hown.alloc _) hg (hb.alloc (by omega) _) (Nat.le_refl _) (by simp; omega))
          | (go_at_call 161; refine (typeWord_calls _).mono ?_; rintro e w2 ⟨rfl, rfl⟩))
        go_ret
        exact ⟨ret_bool HF.out.symm, hb0.trans (hB3.mono (Nat.le_succ _))⟩
      · have HF := Lib.hid (show (F.vars.all fun v => okTy v.ty) = ((F.vars.drop (n + 1)).all fun v => okTy v.ty) by rw [hf.out, hd.out, List.all_cons, ho]; rfl)
        rw [ho] at hte
        clear ho
        go_wp2_with (first
          | (at_builtin; refine wpList_append1 _ rfl _ _ 203 rfl (w.heap.size + 1) 9 16 Tryz.underlying203 Tryz.info9 rfl _ _ _ rfl (hown.alloc _) _ (by simp) _ rfl rfl (by omega) (by decide) (by simp; omega) ?_; intro v' w3 hown2 hg; have hgs := hg.size; simp at hgs; have hgl := Nat.lt_of_succ_le hgs; have hgm := Nat.lt_of_succ_lt hgl; have hg1 := grown_cell hown hg ⟨wr.heap.size, 1, none⟩ (.inr (Nat.le_refl _)) (by simp; omega); have hB3 := grown_below (hown.alloc _) hg (hb.alloc (by omega) _) (Nat.le_refl _) (by simp; omega))
          | (go_at_call 161; refine (typeWord_calls _).mono ?_; rintro e w2 ⟨rfl, rfl⟩))
        go_roundw
        case rel => exact ⟨n + 1, by go_num, by omega, hB3, by rw [htk.out]; simpa using hown2, HF⟩
        case measure => simp [intOf]; omega
    · have hnl : n = F.vars.length := by omega
      have hf1 := Lib.hid (show (F.vars.all fun v => okTy v.ty) = true by rw [hf.out, hnl, List.drop_eq_nil_of_le (Nat.le_refl _)]; rfl)
      rw [hnl, show (vnames F).take F.vars.length = vnames F from List.take_of_length_le (by simp [vnames])] at hown
      clear hf hn hlt
      subst hnl
      obtain ⟨hq, -, hq1, hq2⟩ := box3 hb
      go_wp2
      obtain ⟨wo, rfl⟩ : ∃ wo : World, wo = wr := ⟨_, rfl⟩
      go_loopw [4, 31] (fun v i wr => ∃ n : Nat, i = .int .i64 n ∧ n ≤ F.blocks.length ∧ Below wo.heap.size wo wr ∧ wr.ownsRow wo.heap.size 9 1 v n (((bnames F).take n).map Value.string)) (fun _ i _ => F.blocks.length - (intOf i).toNat)
      case atStart => exact ⟨0, rfl, Nat.zero_le _, Below.refl _ _, ⟨rfl, .inl ⟨rfl, rfl⟩⟩⟩
      case round =>
        obtain ⟨n, rfl, hn, hb2, hown2⟩ := hrel
        have hbs2 := hb2.size
        by_cases hlt : n < F.blocks.length
        · have hWr2 : Below W.heap.size W wr := hWr.trans (hb2.mono hWr.size)
          obtain ⟨b, off, A3, c3, A4, c4, rfl, hbb, hnz, hy0, hy1, hy2, hy3, hy4, hy5, hy6, -⟩ := r2.blk hWr2 hlt
          have htk := Lib.hid (take_blk hlt)
          go_wp2_with (at_builtin; refine wpList_append1 _ rfl _ _ 203 rfl wo.heap.size 9 16 Tryz.underlying203 Tryz.info9 rfl _ _ _ rfl (hown2.alloc _) _ (by simp) _ rfl rfl (by omega) (by decide) (by simp; omega) ?_; intro v' w3 hown3 hg; have hB3 := grown_below (hown2.alloc _) hg (hb2.alloc (by omega) _) (Nat.le_refl _) (by simp; omega))
          go_roundw
          case rel => exact ⟨n + 1, by go_num, by omega, hB3, by rw [htk.out]; simpa using hown3⟩
          case measure => simp [intOf]; omega
        · have hnl : n = F.blocks.length := by omega
          rw [hnl, show (bnames F).take F.blocks.length = bnames F from List.take_of_length_le (by simp [bnames])] at hown2
          clear hn hlt
          subst hnl
          have hown1 := own_below hown hb2
          have hp2 : wr.cell? ⟨w.heap.size, 1, none⟩ = some (.slice A1 F.params.length c1) := (hb2.cell (p := ⟨w.heap.size, 1, none⟩) hq).trans hq1
          have hp1 := Nat.lt_of_lt_of_le hq hb2.size
          have hB := (hb0.trans (hb.mono (Nat.le_succ _))).trans (hb2.mono (Nat.le_of_lt hq))
          have hWr2 : Below W.heap.size W wr := hWr.trans (hb2.mono hWr.size)
          clear hown hq hq1 hq2 hb
          obtain ⟨A5, c5, rfl⟩ := own_form hown1
          obtain ⟨A6, c6, rfl⟩ := own_form hown2
          obtain ⟨-, R5⟩ := Rd.of_own_str hvz hown1
          obtain ⟨-, R6⟩ := Rd.of_own_str hbz hown2
          go_wp2
          go_loop [9, 10, 44] (fun _ _ i => ∃ n : Nat, i = .int .i64 n ∧ n ≤ F.params.length ∧ Hid (countsB F.params 0 = countsB (F.params.drop n) n)) (fun _ _ i => F.params.length - (intOf i).toNat)
          case atStart => exact ⟨0, rfl, Nat.zero_le _, by simp [Hid]⟩
          case round =>
            obtain ⟨n, rfl, hn, hf⟩ := hrel
            by_cases hlt : n < F.params.length
            · obtain ⟨b, off, rfl, hbb, hy⟩ := r1.int hWr2 hlt
              have hd := Lib.hid (drop_ith hlt)
              by_cases hp : ith F.params n = n
              · have HF := Lib.hid (show countsB F.params 0 = countsB (F.params.drop (n + 1)) (n + 1) by rw [hf.out, hd.out, countsB, hp]; simp)
                have hp' : (ith F.params n != (n : Int)) = false := by simpa using hp
                clear hp
                go_wp2
                go_round
                case rel => exact ⟨n + 1, by go_num, by omega, HF⟩
                case measure => simp [intOf]; omega
              · have HF := Lib.hid (show namesB F = false by rw [namesB, hf.out, hd.out, countsB]; simp [hp])
                have hp' : (ith F.params n != (n : Int)) = true := by simpa using hp
                clear hp
                go_wp2
                go_ret
                exact ⟨ret_bool HF.out.symm, hB⟩
            · have hf3 := Lib.hid (show countsB F.params 0 = true by rw [hf.out, List.drop_eq_nil_of_le (by omega)]; rfl)
              clear hf hn
              have HN := Lib.hid (show namesB F = (decide (F.vars.length ≤ 512) && decide (F.params.length ≤ 8) && decide (F.params.length ≤ F.vars.length) && decide (1 ≤ F.blocks.length) && decide (F.blocks.length ≤ 64) && unlikeB [] (vnames F) && unlikeB [] (bnames F)) by rw [namesB, hf1.out, hf3.out]; rfl)
              clear hf1 hf3
              have hu1 := fun (w : World) (h : Below wr.heap.size wr w) => unlike_calls (c0 := c5) (hU.below hWr2) R5 (by simp [vnames]; omega) h
              have hu2 := fun (w : World) (h : Below wr.heap.size wr w) => unlike_calls (c0 := c6) (hU.below hWr2) R6 (by simp [bnames]; omega) h
              rw [show (vnames F).length = F.vars.length by simp [vnames]] at hu1
              rw [show (bnames F).length = F.blocks.length by simp [bnames]] at hu2
              by_cases t1 : F.vars.length ≤ 512
              case neg =>
                have HF := Lib.hid (show namesB F = false by rw [HN.out]; simp [t1])
                go_wp2
                go_ret
                exact ⟨ret_bool HF.out.symm, hB⟩
              by_cases t2 : F.params.length ≤ 8 ∧ F.params.length ≤ F.vars.length
              case neg =>
                have HF := Lib.hid (show namesB F = false by rw [HN.out]; simp; omega)
                go_wp2
                go_ret
                exact ⟨ret_bool HF.out.symm, hB⟩
              obtain ⟨t2, t3⟩ := t2
              by_cases t4 : 1 ≤ F.blocks.length
              case neg =>
                have HF := Lib.hid (show namesB F = false by rw [HN.out]; simp [t4])
                go_wp2
                go_ret
                exact ⟨ret_bool HF.out.symm, hB⟩
              by_cases t5 : F.blocks.length ≤ 64
              case neg =>
                have HF := Lib.hid (show namesB F = false by rw [HN.out]; simp [t5])
                go_wp2
                go_ret
                exact ⟨ret_bool HF.out.symm, hB⟩
              have HM := Lib.hid (show namesB F = (unlikeB [] (vnames F) && unlikeB [] (bnames F)) by rw [HN.out]; simp [t1, t2, t3, t4, t5])
              cases hx : unlikeB [] (vnames F)
              · rw [hx] at HM hu1
                clear hx
                go_wp2_with (go_at_call 162; refine (hu1 _ (Below.refl _ _)).mono ?_; (rintro e w1 ⟨rfl, hb1⟩; obtain ⟨hc1, hf1⟩ := bcell hb1; have hz1 := hb1.size; try simp at hz1; try have hy1 := Nat.lt_of_succ_le hz1; try have hx1 := Nat.lt_of_succ_lt hy1; try have hw1 := Nat.lt_of_succ_lt hx1))
                go_ret
                exact ⟨ret_bool HM.out.symm, hB.trans (hb1.mono hB.size)⟩
              · rw [hx] at HM hu1
                clear hx
                go_wp2_with (go_at_call 162; first | (refine (hu2 _ hb1).mono ?_; (rintro e w2 ⟨rfl, hb2⟩; obtain ⟨hc2, hf2⟩ := bcell hb2; have hz2 := hb2.size; try simp at hz2; try have hy2 := Nat.lt_of_succ_le hz2; try have hx2 := Nat.lt_of_succ_lt hy2; try have hw2 := Nat.lt_of_succ_lt hx2)) | (refine (hu1 _ (Below.refl _ _)).mono ?_; (rintro e w1 ⟨rfl, hb1⟩; obtain ⟨hc1, hf1⟩ := bcell hb1; have hz1 := hb1.size; try simp at hz1; try have hy1 := Nat.lt_of_succ_le hz1; try have hx1 := Nat.lt_of_succ_lt hy1; try have hw1 := Nat.lt_of_succ_lt hx1)))
                go_ret
                exact ⟨ret_bool HM.out.symm, (hB.trans (hb1.mono hB.size)).trans (hb2.mono (by omega))⟩
end Go.Proofs.YteajnaabbddohaaGreatDoor
