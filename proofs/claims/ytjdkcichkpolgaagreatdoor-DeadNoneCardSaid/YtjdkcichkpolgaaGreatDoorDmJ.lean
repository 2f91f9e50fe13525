/- The document's asks: the plain law, and its walk. -/
import Derived.Test.YtjdkcichkpolgaaGreatDoorDmD
import Derived.Test.YtjdkcichkpolgaaGreatDoorDmA
import Derived.Test.YtjdkcichkpolgaaGreatDoorDmP
import Derived.Test.YtjdkcichkpolgaaGreatDoorCopy
namespace Go.Proofs.YtjdkcichkpolgaaGreatDoor
open Go.RowKit
set_option maxRecDepth 100000
def askPhi (l : List Bool) (v : Int) (p : PPhi) : Bool := decide (v ∈ p.args) && keepP l p
def askIns (l : List Bool) (v : Int) (x : PInst) : Bool := decide (v ∈ x.args) && keepI l x
def askTrm (v : Int) (t : PTerm) : Bool := decide (t.kind ≠ 0) && decide (t.var = v)
def askBlk (l : List Bool) (v : Int) (b : PBlock) : Bool := b.phis.any (askPhi l v) || b.insts.any (askIns l v) || askTrm v b.term
def askF (l : List Bool) (v : Int) (F : PFunc) : Bool := F.blocks.any (askBlk l v)
section
variable {F : PFunc} {l : List Bool} {v : Int}
theorem ask_sound (hl : ∀ u : Int, l.getD u.toNat false = true → Nd F u ∨ u < 0) (hr : RngF F) (h : askF l v F = true) : Nd F v := by
 obtain ⟨b, hb, h⟩ := List.any_eq_true.1 h
 unfold askBlk at h
 simp only [Bool.or_eq_true, List.any_eq_true] at h
 rcases h with (⟨p, hp, h⟩ | ⟨x, hx, h⟩) | h
 · unfold askPhi keepP at h
   simp only [Bool.and_eq_true, decide_eq_true_eq] at h
   have hd := (hr.it (phiIt p) (List.mem_flatMap.2 ⟨b, hb, List.mem_append_left _ (List.mem_map.2 ⟨p, hp, rfl⟩)⟩)).1.1
   exact .phi hb hp ((hl p.dst h.2).resolve_right (by have : (0 : Int) ≤ p.dst := hd; omega)) h.1
 · unfold askIns keepI at h
   simp only [Bool.and_eq_true, Bool.or_eq_true, decide_eq_true_eq] at h
   cases hs : staysI x
   · rw [hs] at h
     have hd := (hr.it (x.dst, x.args) (List.mem_flatMap.2 ⟨b, hb, List.mem_append_right _ (List.mem_map.2 ⟨x, List.mem_filter.2 ⟨hx, by simp [hs]⟩, rfl⟩)⟩)).1.1
     exact .arg hb hx hs ((hl x.dst (by simpa using h.2)).resolve_right (by have : (0 : Int) ≤ x.dst := hd; omega)) h.1
   · exact .inst hb hx hs h.1
 · unfold askTrm at h
   simp only [Bool.and_eq_true, decide_eq_true_eq] at h
   rw [← h.2]
   exact .term hb h.1
theorem ask_whole (hr : RngF F) (hc : ∀ u : Nat, u < F.vars.length → l.getD u false = true ∨ askF l (u : Int) F = false) (h : Nd F v) : l.getD v.toNat false = true := by
 have key : ∀ v : Int, 0 ≤ v → v < F.vars.length → askF l v F = true → l.getD v.toNat false = true := fun v h0 h1 ha => by
  rcases hc v.toNat ZO with h | h
  · exact h
  · rw [Int.toNat_of_nonneg h0, ha] at h
    cases h
 induction h with
 | @inst b x v hb hx hs hv =>
  have := hr.ins b hb x hx v hv
  exact key v this.1 this.2 (List.any_eq_true.2 ⟨b, hb, by
   unfold askBlk
   rw [Bool.or_eq_true, Bool.or_eq_true]
   exact .inl (.inr (List.any_eq_true.2 ⟨x, hx, by simp [askIns, keepI, hs, hv]⟩))⟩)
 | @term b hb hk =>
  have := hr.trm b hb hk
  exact key _ this.1 this.2 (List.any_eq_true.2 ⟨b, hb, by
   unfold askBlk
   rw [Bool.or_eq_true]
   exact .inr (by simp [askTrm, hk])⟩)
 | @phi b p v hb hp hd hv ih =>
  have := (hr.it (phiIt p) (List.mem_flatMap.2 ⟨b, hb, List.mem_append_left _ (List.mem_map.2 ⟨p, hp, rfl⟩)⟩)).2 v hv
  exact key v this.1 this.2 (List.any_eq_true.2 ⟨b, hb, by
   unfold askBlk
   rw [Bool.or_eq_true, Bool.or_eq_true]
   exact .inl (.inl (List.any_eq_true.2 ⟨p, hp, by simp only [askPhi, keepP, ih, Bool.and_true, decide_eq_true_eq]; exact hv⟩))⟩)
 | @arg b x v hb hx hs hd hv ih =>
  have := hr.ins b hb x hx v hv
  exact key v this.1 this.2 (List.any_eq_true.2 ⟨b, hb, by
   unfold askBlk
   rw [Bool.or_eq_true, Bool.or_eq_true]
   exact .inl (.inr (List.any_eq_true.2 ⟨x, hx, by simp only [askIns, keepI, ih, Bool.or_true, Bool.and_true, decide_eq_true_eq]; exact hv⟩))⟩)
theorem ndL_of (hlen : l.length = F.vars.length) (h1 : ∀ u : Nat, l.getD u false = true → Nd F u) (h2 : ∀ u : Nat, Nd F u → l.getD u false = true) : l = ndL F := by
 refine List.ext_getElem (by rw [hlen]; simp [ndL]) fun i hi1 hi2 => ?_
 have hgi : l[i] = l.getD i false := by simp [List.getD, hi1]
 have hri : (ndL F)[i] = ndB F i := by simp [ndL]
 rw [hgi, hri, Bool.eq_iff_iff]
 have hnb : ndB F i = true ↔ Nd F (i : Int) := by unfold ndB; simp
 rw [hnb]
 exact ⟨h1 i, h2 i⟩
theorem ask_args_no {a : List Int} {v : Int} (h : ∀ j, j < a.length → ith a j ≠ v) : decide (v ∈ a) = false := by
 rw [decide_eq_false_iff_not]
 intro hm
 obtain ⟨j, hj, e⟩ := List.getElem_of_mem hm
 refine h j hj ?_
 have := ith_get hj
 rw [List.getElem?_eq_getElem hj] at this
 rw [← Option.some.inj this, e]
theorem ask_args_yes {a : List Int} {v : Int} {j : Nat} (hj : j < a.length) (h : ith a j = v) : decide (v ∈ a) = true := by
 rw [decide_eq_true_eq, ← h]
 exact List.mem_of_getElem? (ith_get hj)
theorem any_no {α : Type} {p : α → Bool} {l : List α} (h : ∀ (k : Nat) x, l[k]? = some x → p x = false) : l.any p = false := by
 rw [List.any_eq_false]
 intro x hx
 obtain ⟨k, hk, rfl⟩ := List.getElem_of_mem hx
 rw [h k _ (List.getElem?_eq_getElem hk)]
 decide
end
def BoolC (w : World) (gi n : Nat) (l : List Bool) : Prop := gi < w.heap.size ∧ ∀ f, f < n → w.cell? ⟨gi, f, none⟩ = some (.bool (l.getD f false))
theorem BoolC.below {w w' : World} {gi n : Nat} {l : List Bool} (h : BoolC w gi n l) (hb : Below w.heap.size w w') : BoolC w' gi n l :=
 ⟨Nat.lt_of_lt_of_le h.1 hb.size, fun f hf => (hb.cell (p := ⟨gi, f, none⟩) h.1).trans (h.2 f hf)⟩
end Go.Proofs.YtjdkcichkpolgaaGreatDoor
namespace Go.Proofs.YtjdkcichkpolgaaGreatDoor
open Go.RowKit
set_option maxRecDepth 100000
theorem blk_phi_at {b : PBlock} {k : Nat} {x : PPhi} (h : b.phis[k]? = some x) : b.phi k = x := by
 obtain ⟨h1, h2⟩ := List.getElem?_eq_some_iff.1 h
 simp [PBlock.phi, List.getD, h1, h2]
theorem blk_inst_at {b : PBlock} {k : Nat} {x : PInst} (h : b.insts[k]? = some x) : b.inst k = x := by
 obtain ⟨h1, h2⟩ := List.getElem?_eq_some_iff.1 h
 simp [PBlock.inst, List.getD, h1, h2]
set_option maxHeartbeats 16000000 in
theorem asks_calls {W w : World} {fv : Value} {F : PFunc} {gi : Nat} {l : List Bool} {v : Int} (hF : FnV W W.heap.size fv F) (hW : Below W.heap.size W w) (hT : typedP F = true) (hl : BoolC w gi F.vars.length l) :
 Calls Tryz.prog 78 #[fv, .slice (some ⟨gi, 0, none⟩) F.vars.length F.vars.length, .int .i64 v] w fun e w' => e = .returned (.bool (askF l v F)) ∧ Below w.heap.size w w' := by
 obtain ⟨A0, c0, A1, c1, A2, c2, rfl, l0, l1, l2, -, -, -, r0, r1, r2⟩ := id hF.open_
 obtain ⟨n1, n2⟩ := shaped_count (typed_shaped hT)
 have nv := typed_vars hT
 have HT := Lib.hid hT
 have HR := Lib.hid (rngF_of hT)
 have HL := Lib.hid hl
 have HYES := Lib.hid (fun n (hn : n < F.blocks.length) (h : askBlk l v (F.blk n) = true) => show askF l v F = true from List.any_eq_true.2 ⟨_, mem_of_blk hn, h⟩)
 have HNO := Lib.hid (fun (h : ∀ n, n < F.blocks.length → askBlk l v (F.blk n) = false) => show askF l v F = false from any_no fun k x hx => by
  obtain ⟨h1, h2⟩ := List.getElem?_eq_some_iff.1 hx
  have := h k h1
  rwa [PFunc.blk, List.getD, hx] at this)
 have hgl0 := hl.1
 clear hT hF r0 r1 hl
 unfold Len at *
 have hWs := hW.size
 have hb0 := (Below.refl w.heap.size w).alloc (Nat.le_refl _) (.cells #[.slice A0 F.vars.length c0, .slice A1 F.params.length c1, .slice A2 F.blocks.length c2] 26)
 go_enter Tryz.func78, Tryz.ntmps78
 go_wp2
 go_loopw [20] (fun i wr => ∃ n : Nat, i = .int .i64 n ∧ n ≤ F.blocks.length ∧ Hid (∀ m, m < n → askBlk l v (F.blk m) = false) ∧ Below w.heap.size w wr) (fun i _ => F.blocks.length - (intOf i).toNat)
 case atStart => exact ⟨0, rfl, Nat.zero_le _, fun m hm => absurd hm (Nat.not_lt_zero _), hb0⟩
 case round => as_aux_lemma =>
  clear hb0
  obtain ⟨n, rfl, hn, HA, hB⟩ := hrel
  have hWr : Below W.heap.size W wr := hW.trans (hB.mono hWs)
  by_cases hlt : n < F.blocks.length
  · as_aux_lemma =>
    obtain ⟨bb, off, A3, c3, A4, c4, rfl, hbb, hnz, hy0, hy1, hy2, hy3, hy4, hy5, hy6, l3, l4, k3, k4, r3, r4⟩ := r2.blk hWr hlt
    have HPH := Lib.hid (fun k (hk : k < (F.blk n).phis.length) => typed_phi HT.out hlt hk)
    have HIN := Lib.hid (fun k (hk : k < (F.blk n).insts.length) => inst_op ((shaped_blk (typed_shaped HT.out) hlt).2.1 _ (mem_of_Inst hk)))
    have HRD := Lib.hid (fun k (hk : k < (F.blk n).insts.length) (hs : staysI ((F.blk n).inst k) = false) => (HR.out.it (((F.blk n).inst k).dst, ((F.blk n).inst k).args) (List.mem_flatMap.2 ⟨_, mem_of_blk hlt, List.mem_append_right _ (List.mem_map.2 ⟨_, List.mem_filter.2 ⟨mem_of_Inst hk, by simp [hs]⟩, rfl⟩)⟩)).1)
    have HYB := Lib.hid (HYES.out n hlt)
    unfold Len at l3 l4
    obtain ⟨wq, rfl⟩ : ∃ wq : World, wq = wr := ⟨_, rfl⟩
    have hws := hB.size
    obtain ⟨BC, hBC⟩ : ∃ BC : Array Value, BC = #[.string (F.blk n).name, .slice A3 (F.blk n).phis.length c3, .slice A4 (F.blk n).insts.length c4, .int .i64 (F.blk n).term.kind, .int .i64 (F.blk n).term.var, .int .i64 (F.blk n).term.t0, .int .i64 (F.blk n).term.t1] := ⟨_, rfl⟩
    have HBC := Lib.hid hBC
    clear hBC
    go_wp2
    clear hy0 hy1 hy2 hy3 hy4 hy5 hy6 hnz HYES HNO
    go_loopw [27] (fun i wr => ∃ k : Nat, i = .int .i64 k ∧ k ≤ (F.blk n).phis.length ∧ Hid (∀ m, m < k → askPhi l v ((F.blk n).phi m) = false) ∧ BoxAt wr wq.heap.size BC 52 ∧ Below w.heap.size w wr) (fun i _ => (F.blk n).phis.length - (intOf i).toNat)
    case atStart => exact ⟨0, rfl, Nat.zero_le _, fun m hm => absurd hm (Nat.not_lt_zero _), (by rw [HBC.out]; exact BoxAt.new _ _ _), hB.alloc hws _⟩
    case round => as_aux_lemma =>
     obtain ⟨k, rfl, hk, HP, hX, hBr⟩ := hrel
     have hWi : Below W.heap.size W wr := hW.trans (hBr.mono hWs)
     by_cases hkl : k < (F.blk n).phis.length
     · as_aux_lemma =>
       obtain ⟨bp, op, A6, c6, A7, c7, rfl, hbp, hp0, hp1, hp2, l6, l7, k6, k7, r6, -⟩ := r3.phi hWi hkl
       obtain ⟨-, ⟨d0, d1⟩, -⟩ := HPH.out k hkl
       obtain ⟨c, hc⟩ : ∃ c : Nat, ((F.blk n).phi k).dst = (c : Int) := ⟨((F.blk n).phi k).dst.toNat, ZO⟩
       have hkp : keepP l ((F.blk n).phi k) = l.getD c false := by unfold keepP; rw [hc, Int.toNat_natCast]
       rw [hc] at hp0 d1
       have hcl : c < F.vars.length := by omega
       have HKP := Lib.hid hkp
       have hxx := BoxAt.new wr #[.int .i64 (c : Int), .slice A6 ((F.blk n).phi k).args.length c6, .slice A7 ((F.blk n).phi k).froms.length c7] 66
       have hbx := BL_alloc wr (.cells #[.int .i64 (c : Int), .slice A6 ((F.blk n).phi k).args.length c6, .slice A7 ((F.blk n).phi k).froms.length c7] 66)
       have HX := Lib.hid (hX.below hbx hX.lt)
       have HXX := Lib.hid hxx
       have HYP := Lib.hid (show askPhi l v ((F.blk n).phi k) = true → askF l v F = true from fun h => HYB.out (by
        unfold askBlk
        rw [Bool.or_eq_true, Bool.or_eq_true]
        exact .inl (.inl (List.any_eq_true.2 ⟨_, mem_of_Phi hkl, h⟩))))
       have hBx := hBr.trans (hbx.mono hBr.size)
       unfold Len at l6 l7
       clear hX hxx hc HYB
       obtain ⟨wp, rfl⟩ : ∃ wp : World, wp = wr := ⟨_, rfl⟩
       go_wp2
       clear hp0 hp1 hp2 hbp
       go_loopw [34] (fun i wr => ∃ j : Nat, i = .int .i64 j ∧ j ≤ ((F.blk n).phi k).args.length ∧ Hid (∀ m, m < j → ¬ (ith ((F.blk n).phi k).args m = v ∧ l.getD c false = true)) ∧ BoxAt wr wq.heap.size BC 52 ∧ BoxAt wr wp.heap.size #[.int .i64 (c : Int), .slice A6 ((F.blk n).phi k).args.length c6, .slice A7 ((F.blk n).phi k).froms.length c7] 66 ∧ Below w.heap.size w wr) (fun i _ => ((F.blk n).phi k).args.length - (intOf i).toNat)
       case atStart => exact ⟨0, rfl, Nat.zero_le _, fun m hm => absurd hm (Nat.not_lt_zero _), HX.out, HXX.out, hBx⟩
       case round => as_aux_lemma =>
        clear HX HXX hBx
        obtain ⟨j, rfl, hj, HJ, hX, hXX, hBj⟩ := hrel
        by_cases hjl : j < ((F.blk n).phi k).args.length
        · as_aux_lemma =>
          obtain ⟨b7, o7, rfl, hb7, hc7⟩ := r6.int (hW.trans (hBj.mono hWs)) hjl
          have hcb := (HL.out.below (hBj.mono (Nat.le_refl _))).2 c hcl
          have hgl := Nat.lt_of_lt_of_le hgl0 hBj.size
          have z0 := hXX.cell 0
          have zl := hXX.lt
          simp at z0
          have HX := Lib.hid hX
          have HXX := Lib.hid hXX
          clear hX hXX
          by_cases hav : ith ((F.blk n).phi k).args j = v
          · as_aux_lemma =>
            have HYA := Lib.hid (ask_args_yes hjl hav)
            have hav' : (ith ((F.blk n).phi k).args j == v) = true := by simp [hav]
            cases hbv : l.getD c false
            · as_aux_lemma =>
              rw [hbv] at hcb
              clear hbv hav
              go_wp2
              go_roundw
              case rel => exact ⟨j + 1, ZN, ZO, fun m _ h' => absurd h'.2 ZD, HX.out, HXX.out, hBj⟩
              case measure => simp [intOf]; omega
            · as_aux_lemma =>
              rw [hbv] at hcb
              have HF := Lib.hid (HYP.out (by unfold askPhi; rw [HYA.out, HKP.out, hbv]; rfl))
              clear hbv hav
              go_wp2
              go_ret
              exact ⟨ret_bool HF.out.symm, hBj⟩
          · as_aux_lemma =>
            have hav' : (ith ((F.blk n).phi k).args j == v) = false := by simp [hav]
            have HAV := Lib.hid hav
            clear hav
            go_wp2
            go_roundw
            case rel => exact ⟨j + 1, ZN, ZO, fun m hm => if h : m < j then HJ.out m h else fun h' => by
             obtain rfl : m = j := by omega
             exact HAV.out h'.1, HX.out, HXX.out, hBj⟩
            case measure => simp [intOf]; omega
        · as_aux_lemma =>
          obtain rfl : j = ((F.blk n).phi k).args.length := by omega
          have HN := Lib.hid (show askPhi l v ((F.blk n).phi k) = false by
           unfold askPhi
           rw [HKP.out]
           cases hb : l.getD c false
           · exact ZS
           · rw [ask_args_no fun m hm e => HJ.out m hm ⟨e, hb⟩]
             rfl)
          go_wp2
          go_roundw
          case rel => exact ⟨k + 1, ZN, ZO, fun m hm => if h : m < k then HP.out m h else by
           obtain rfl : m = k := by omega
           exact HN.out, hX, hBj⟩
          case measure => simp [intOf]; omega
     · as_aux_lemma =>
       obtain rfl : k = (F.blk n).phis.length := by omega
       have HNP := Lib.hid (show (F.blk n).phis.any (askPhi l v) = false from any_no fun k x hx => by
        have := HP.out k (List.getElem?_eq_some_iff.1 hx).1
        rwa [blk_phi_at hx] at this)
       have x2 := hX.cell 2
       have xl := hX.lt
       rw [HBC.out] at x2
       replace x2 : wr.cell? ⟨wq.heap.size, 2, none⟩ = some (.slice A4 (F.blk n).insts.length c4) := x2
       clear HPH HP
       go_wp2
       clear x2 xl
       go_loopw [53] (fun i wr => ∃ k : Nat, i = .int .i64 k ∧ k ≤ (F.blk n).insts.length ∧ Hid (∀ m, m < k → askIns l v ((F.blk n).inst m) = false) ∧ BoxAt wr wq.heap.size BC 52 ∧ Below w.heap.size w wr) (fun i _ => (F.blk n).insts.length - (intOf i).toNat)
       case atStart => exact ⟨0, rfl, Nat.zero_le _, fun m hm => absurd hm (Nat.not_lt_zero _), hX, hBr⟩
       case round => as_aux_lemma =>
        clear hWi hX hBr
        obtain ⟨k, rfl, hk, HP, hX, hBr⟩ := hrel
        have hWi : Below W.heap.size W wr := hW.trans (hBr.mono hWs)
        by_cases hkl : k < (F.blk n).insts.length
        · as_aux_lemma =>
          obtain ⟨bp, op, A6, c6, rfl, hbp, hp0, hp1, hp2, hp3, l6, k6, r6⟩ := r4.inst hWi hkl
          obtain ⟨o0, o1⟩ := HIN.out k hkl
          obtain ⟨o, ho⟩ : ∃ o : Nat, ((F.blk n).inst k).op = (o : Int) := ⟨((F.blk n).inst k).op.toNat, ZO⟩
          have hst : staysI ((F.blk n).inst k) = staysB o := by unfold staysI; rw [ho, Int.toNat_natCast]
          have HDR := Lib.hid (HRD.out k hkl)
          rw [ho] at hp0
          have ho27 : o < 27 := by omega
          have hso := fun w => refStays_calls (w := w) o ((F.blk n).inst k).dst ((F.blk n).inst k).num A6 ((F.blk n).inst k).args.length c6 ho27
          have HKP := Lib.hid (show keepI l ((F.blk n).inst k) = (staysB o || l.getD ((F.blk n).inst k).dst.toNat false) by unfold keepI; rw [hst])
          have HST := Lib.hid hst
          have HYP := Lib.hid (show askIns l v ((F.blk n).inst k) = true → askF l v F = true from fun h => HYB.out (by
           unfold askBlk
           rw [Bool.or_eq_true, Bool.or_eq_true]
           exact .inl (.inr (List.any_eq_true.2 ⟨_, mem_of_Inst hkl, h⟩))))
          have hxx := BoxAt.new wr #[.int .i64 (o : Int), .int .i64 ((F.blk n).inst k).dst, .slice A6 ((F.blk n).inst k).args.length c6, .int .i64 ((F.blk n).inst k).num] 55
          have hbx := BL_alloc wr (.cells #[.int .i64 (o : Int), .int .i64 ((F.blk n).inst k).dst, .slice A6 ((F.blk n).inst k).args.length c6, .int .i64 ((F.blk n).inst k).num] 55)
          have HX := Lib.hid (hX.below hbx hX.lt)
          have HXX := Lib.hid hxx
          have hBx := hBr.trans (hbx.mono hBr.size)
          unfold Len at l6
          clear hX hxx hst ho HYB
          obtain ⟨wp, rfl⟩ : ∃ wp : World, wp = wr := ⟨_, rfl⟩
          go_wp2
          clear hp0 hp1 hp2 hp3 hbp
          go_loopw [60] (fun i wr => ∃ j : Nat, i = .int .i64 j ∧ j ≤ ((F.blk n).inst k).args.length ∧ Hid (∀ m, m < j → ¬ (ith ((F.blk n).inst k).args m = v ∧ keepI l ((F.blk n).inst k) = true)) ∧ BoxAt wr wq.heap.size BC 52 ∧ BoxAt wr wp.heap.size #[.int .i64 (o : Int), .int .i64 ((F.blk n).inst k).dst, .slice A6 ((F.blk n).inst k).args.length c6, .int .i64 ((F.blk n).inst k).num] 55 ∧ Below w.heap.size w wr) (fun i _ => ((F.blk n).inst k).args.length - (intOf i).toNat)
          case atStart => exact ⟨0, rfl, Nat.zero_le _, fun m hm => absurd hm (Nat.not_lt_zero _), HX.out, HXX.out, hBx⟩
          case round => as_aux_lemma =>
           clear HX HXX hBx
           obtain ⟨j, rfl, hj, HJ, hX, hXX, hBj⟩ := hrel
           by_cases hjl : j < ((F.blk n).inst k).args.length
           · as_aux_lemma =>
             obtain ⟨b7, o7, rfl, hb7, hc7⟩ := r6.int (hW.trans (hBj.mono hWs)) hjl
             have z0 := hXX.cell 0
             have z1 := hXX.cell 1
             have z2 := hXX.cell 2
             have z3 := hXX.cell 3
             have zl := hXX.lt
             simp at z0 z1 z2 z3
             have HX := Lib.hid hX
             have HXX := Lib.hid hXX
             clear hX hXX
             by_cases hav : ith ((F.blk n).inst k).args j = v
             · as_aux_lemma =>
               have HYA := Lib.hid (ask_args_yes hjl hav)
               have hav' : (ith ((F.blk n).inst k).args j == v) = true := by simp [hav]
               cases hs : staysB o
               · as_aux_lemma =>
                 rw [hs] at hso
                 obtain ⟨d0, d1⟩ := HDR.out (by rw [HST.out, hs])
                 obtain ⟨c, hc⟩ : ∃ c : Nat, ((F.blk n).inst k).dst = (c : Int) := ⟨((F.blk n).inst k).dst.toNat, ZO⟩
                 have hcl : c < F.vars.length := by
                  have : ((F.blk n).inst k).dst < F.vars.length := d1
                  omega
                 have HKK := Lib.hid (show keepI l ((F.blk n).inst k) = l.getD c false by rw [HKP.out, hs, hc, Int.toNat_natCast, Bool.false_or])
                 rw [hc] at z1
                 rw [hc] at hso
                 clear hav hs hc d0 d1
                 go_wp2_with fail
                 refine (hso _).mono ?_
                 rintro e w9 ⟨rfl, hb9⟩
                 have z1' := (hb9.cell (p := ⟨wp.heap.size, 1, none⟩) zl).trans z1
                 have zl' := Nat.lt_of_lt_of_le zl hb9.size
                 have hBj9 := hBj.trans (hb9.mono hBj.size)
                 have hcb := (HL.out.below hBj9).2 c hcl
                 have hgl := Nat.lt_of_lt_of_le hgl0 hBj9.size
                 have HX9 := Lib.hid (HX.out.below hb9 HX.out.lt)
                 have HXX9 := Lib.hid (HXX.out.below hb9 HXX.out.lt)
                 clear hb9 hso
                 cases hbv : l.getD c false
                 · as_aux_lemma =>
                   rw [hbv] at hcb
                   have HBV := Lib.hid (HKK.out.trans hbv)
                   clear hbv
                   go_wp2
                   go_roundw
                   case rel => exact ⟨j + 1, ZN, ZO, fun m _ h' => absurd h'.2 (by rw [HBV.out]; decide), HX9.out, HXX9.out, hBj9⟩
                   case measure => simp [intOf]; omega
                 · as_aux_lemma =>
                   rw [hbv] at hcb
                   have HF := Lib.hid (HYP.out (by unfold askIns; rw [HYA.out, HKK.out, hbv]; rfl))
                   clear hbv
                   go_wp2
                   go_ret
                   exact ⟨ret_bool HF.out.symm, hBj9⟩
               · as_aux_lemma =>
                 rw [hs] at hso
                 have HF := Lib.hid (HYP.out (by unfold askIns; rw [HYA.out, HKP.out, hs]; rfl))
                 clear hav hs
                 go_wp2_with fail
                 refine (hso _).mono ?_
                 rintro e w9 ⟨rfl, hb9⟩
                 have hBj9 := hBj.trans (hb9.mono hBj.size)
                 clear hb9 hso
                 go_wp2
                 go_ret
                 exact ⟨ret_bool HF.out.symm, hBj9⟩
             · as_aux_lemma =>
               have hav' : (ith ((F.blk n).inst k).args j == v) = false := by simp [hav]
               have HAV := Lib.hid hav
               clear hav hso
               go_wp2
               go_roundw
               case rel => exact ⟨j + 1, ZN, ZO, fun m hm => if h : m < j then HJ.out m h else fun h' => by
                obtain rfl : m = j := by omega
                exact HAV.out h'.1, HX.out, HXX.out, hBj⟩
               case measure => simp [intOf]; omega
           · as_aux_lemma =>
             obtain rfl : j = ((F.blk n).inst k).args.length := by omega
             have HN := Lib.hid (show askIns l v ((F.blk n).inst k) = false by
              unfold askIns
              cases hb : keepI l ((F.blk n).inst k)
              · exact ZS
              · rw [ask_args_no fun m hm e => HJ.out m hm ⟨e, hb⟩]
                rfl)
             clear hso
             go_wp2
             go_roundw
             case rel => exact ⟨k + 1, ZN, ZO, fun m hm => if h : m < k then HP.out m h else by
              obtain rfl : m = k := by omega
              exact HN.out, hX, hBj⟩
             case measure => simp [intOf]; omega
        · as_aux_lemma =>
          obtain rfl : k = (F.blk n).insts.length := by omega
          have HNI := Lib.hid (show (F.blk n).insts.any (askIns l v) = false from any_no fun k x hx => by
           have := HP.out k (List.getElem?_eq_some_iff.1 hx).1
           rwa [blk_inst_at hx] at this)
          have x3 := hX.cell 3
          have x4 := hX.cell 4
          have xl := hX.lt
          rw [HBC.out] at x3 x4
          replace x3 : wr.cell? ⟨wq.heap.size, 3, none⟩ = some (.int .i64 (F.blk n).term.kind) := x3
          replace x4 : wr.cell? ⟨wq.heap.size, 4, none⟩ = some (.int .i64 (F.blk n).term.var) := x4
          have HAB := Lib.hid (show askBlk l v (F.blk n) = askTrm v (F.blk n).term by unfold askBlk; rw [HNP.out, HNI.out]; rfl)
          have HNX := Lib.hid (fun (h : askTrm v (F.blk n).term = false) => show ∀ m, m < n + 1 → askBlk l v (F.blk m) = false from fun m hm => if h' : m < n then HA.out m h' else by
           obtain rfl : m = n := by omega
           rw [HAB.out, h])
          have HTB := Lib.hid (show askTrm v (F.blk n).term = (decide ((F.blk n).term.kind ≠ 0) && decide ((F.blk n).term.var = v)) from rfl)
          clear HNP HNI HP hX
          by_cases hk0 : (F.blk n).term.kind = 0
          · as_aux_lemma =>
            have hz : ((F.blk n).term.kind != 0) = false := by simp [hk0]
            have HQ := Lib.hid (HNX.out (by rw [HTB.out]; simp [hk0]))
            clear hk0
            go_wp2
            go_roundw
            case rel => exact ⟨n + 1, ZN, ZO, HQ.out, hBr⟩
            case measure => simp [intOf]; omega
          · as_aux_lemma =>
            have hz : ((F.blk n).term.kind != 0) = true := by simp [hk0]
            by_cases hv : (F.blk n).term.var = v
            · as_aux_lemma =>
              have hz2 : ((F.blk n).term.var == v) = true := by simp [hv]
              have HQ := Lib.hid (HYB.out (by rw [HAB.out, HTB.out]; simp [hk0, hv]))
              clear hk0 hv
              go_wp2
              go_ret
              exact ⟨ret_bool HQ.out.symm, hBr⟩
            · as_aux_lemma =>
              have hz2 : ((F.blk n).term.var == v) = false := by simp [hv]
              have HQ := Lib.hid (HNX.out (by rw [HTB.out]; simp [hv]))
              clear hk0 hv
              go_wp2
              go_roundw
              case rel => exact ⟨n + 1, ZN, ZO, HQ.out, hBr⟩
              case measure => simp [intOf]; omega
  · as_aux_lemma =>
    obtain rfl : n = F.blocks.length := by omega
    have HF := Lib.hid (HNO.out HA.out)
    go_wp2
    go_ret
    exact ⟨ret_bool HF.out.symm, hB⟩
end Go.Proofs.YtjdkcichkpolgaaGreatDoor
namespace Go.Proofs.YtjdkcichkpolgaaGreatDoor
open Go.RowKit
set_option maxRecDepth 100000
structure RdI (F : PFunc) (l : List Bool) (ag : Bool) : Prop where
 len : l.length = F.vars.length
 nd : ∀ u : Nat, l.getD u false = true → Nd F u
 fin : ag = false → ∀ u : Nat, u < F.vars.length → l.getD u false = true ∨ askF l (u : Int) F = false
structure RdK (F : PFunc) (l0 l : List Bool) (ag : Bool) (k : Nat) : Prop where
 len : l.length = F.vars.length
 nd : ∀ u : Nat, l.getD u false = true → Nd F u
 no : ag = false → l = l0 ∧ ∀ u : Nat, u < k → l0.getD u false = true ∨ askF l0 (u : Int) F = false
 yes : ag = true → l.count false < l0.count false
theorem RdI.fin' {F : PFunc} {l : List Bool} (hr : RngF F) (h : RdI F l false) : l = ndL F :=
 ndL_of h.len h.nd fun u hu => by
  have := ask_whole hr (h.fin rfl) hu
  simpa using this
section
variable {F : PFunc} {l0 l : List Bool} {ag : Bool} {k : Nat}
theorem RdI.start : RdI F (List.replicate F.vars.length false) true :=
 ⟨ZS, fun u hu => by
   have : (List.replicate F.vars.length false).getD u false = false := by
    simp only [List.getD, List.getElem?_replicate]
    split <;> rfl
   rw [this] at hu
   exact absurd hu ZD, fun h => absurd h ZD⟩
theorem RdI.round (h : RdI F l0 ag) : RdK F l0 l0 false 0 := ⟨h.len, h.nd, fun _ => ⟨rfl, fun u hu => absurd hu (Nat.not_lt_zero _)⟩, fun h => by cases h⟩
theorem RdK.skip (h : RdK F l0 l ag k) (hk : l.getD k false = true ∨ askF l (k : Int) F = false) : RdK F l0 l ag (k + 1) :=
 ⟨h.len, h.nd, fun ha => ⟨(h.no ha).1, fun u hu => by
   rcases Nat.lt_or_ge u k with h1 | h1
   · exact (h.no ha).2 u h1
   · obtain rfl : u = k := by omega
     rw [← (h.no ha).1]
     exact hk⟩, h.yes⟩
theorem RdK.put (h : RdK F l0 l ag k) (hr : RngF F) (hk : k < F.vars.length) (h1 : l.getD k false = false) (h2 : askF l (k : Int) F = true) : RdK F l0 (l.set k true) true (k + 1) := by
 have hkl : k < l.length := by rw [h.len]; exact hk
 refine ⟨by rw [List.length_set]; exact h.len, fun u hu => ?_, (fun h => by cases h), fun _ => ?_⟩
 · by_cases e : k = u
   · subst e
     refine ask_sound (fun u hu => ?_) hr h2
     by_cases h0 : u < 0
     · exact .inr h0
     · have := h.nd u.toNat hu
       rw [Int.toNat_of_nonneg ZO] at this
       exact .inl this
   · refine h.nd u ?_
     rw [List.getD_eq_getElem?_getD, List.getElem?_set_ne e, ← List.getD_eq_getElem?_getD] at hu
     exact hu
 · have hc := countN_set h1 hkl
   cases ag
   · rw [← (h.no rfl).1]
     omega
   · have := h.yes rfl
     omega
theorem RdK.done (h : RdK F l0 l ag F.vars.length) : RdI F l ag := ⟨h.len, h.nd, fun ha u hu => by rw [(h.no ha).1]; exact (h.no ha).2 u hu⟩
end
set_option maxHeartbeats 8000000 in
theorem refNeeded_calls {W w : World} {fv : Value} {F : PFunc} (hF : FnV W W.heap.size fv F) (hW : Below W.heap.size W w) (hT : typedP F = true) :
 Calls Tryz.prog 37 #[fv] w fun e w' => ∃ g, e = .returned (.slice (some ⟨g, 0, none⟩) F.vars.length F.vars.length) ∧ w'.ownsRow w.heap.size 4 1 (.slice (some ⟨g, 0, none⟩) F.vars.length F.vars.length) F.vars.length ((ndL F).map Value.bool) ∧ Below w.heap.size w w' := by
 have hak := fun (w' : World) (gi : Nat) (l : List Bool) (v : Int) (h : Below W.heap.size W w') (hl : BoolC w' gi F.vars.length l) => asks_calls (v := v) hF h hT hl
 obtain ⟨A0, c0, A1, c1, A2, c2, rfl, l0, l1, l2, -⟩ := id hF.open_
 have nv := typed_vars hT
 have HR := Lib.hid (rngF_of hT)
 clear hT hF
 unfold Len at *
 have hWs := hW.size
 have hb0 := (Below.refl w.heap.size w).alloc (Nat.le_refl _) (.cells #[.slice A0 F.vars.length c0, .slice A1 F.params.length c1, .slice A2 F.blocks.length c2] 26)
 obtain ⟨jb, hjb, y0, y1, y2⟩ := info_parts Tryz.info4
 go_enter Tryz.func37, Tryz.ntmps37
 go_wp2_with (
  at_make; refine wpList_make_full _ rfl _ _ 57 rfl (w.heap.size + 1) 4 jb _ 1 Tryz.underlying57 hjb y0 y1 _ _ _ _ _ rfl rfl rfl rfl (by rw [y2]; omega) (by unfold maxLen; omega) ZS ?_; intro w1 hs1 hg1
  have ho1 : w1.ownsRow (w.heap.size + 1) 4 1 (.slice (some ⟨w.heap.size + 1, 0, none⟩) F.vars.length F.vars.length) F.vars.length ((List.replicate F.vars.length false).map Value.bool) := by simpa [Value.cells, toList_madeCells_one] using hs1
  have hb1 : Below (w.heap.size + 1) (w.alloc (.cells #[.slice A0 F.vars.length c0, .slice A1 F.params.length c1, .slice A2 F.blocks.length c2] 26)) w1 := (Below.refl _ _).grown hg1 ZS (fun k hk => by cases hk)
  clear hs1 hg1)
 clear hjb y0 y1 y2
 go_loopg [4] (F.vars.length + 1) (fun gk v4 wr => ∃ (ag : Bool) (l : List Bool), v4 = .bool ag ∧ Hid (RdI F l ag ∧ l.count false + ag.toNat ≤ gk) ∧ wr.ownsRow (w.heap.size + 1) 4 1 (.slice (some ⟨w.heap.size + 1, 0, none⟩) F.vars.length F.vars.length) F.vars.length (l.map Value.bool) ∧ Below (w.heap.size + 1) (w.alloc (.cells #[.slice A0 F.vars.length c0, .slice A1 F.params.length c1, .slice A2 F.blocks.length c2] 26)) wr)
 case atStart => exact ⟨true, _, rfl, ⟨RdI.start, ZS⟩, ho1, hb1⟩
 case round => as_aux_lemma =>
  clear ho1 hb1
  obtain ⟨ag, l, rfl, HD, ho, hb⟩ := hrel
  cases ag
  · as_aux_lemma =>
    have HF := Lib.hid (HD.out.1.fin' HR.out)
    have hB := hb0.trans (hb.mono (Nat.le_succ _))
    have HO := Lib.hid ho
    clear ho hb hb0
    go_wp2
    go_ret
    rw [← HF.out]
    exact ⟨_, rfl, own_base HO.out (Nat.le_succ _), hB⟩
  · as_aux_lemma =>
    have HK := Lib.hid (HD.out.1.round)
    have hcn := HD.out.2
    have HO := Lib.hid ho
    have HB := Lib.hid hb
    clear ho hb
    go_wp2
    go_loopw [4, 13] (fun v4 i wr => ∃ (ag : Bool) (l' : List Bool) (k : Nat), v4 = .bool ag ∧ i = .int .i64 k ∧ k ≤ F.vars.length ∧ Hid (RdK F l l' ag k) ∧ wr.ownsRow (w.heap.size + 1) 4 1 (.slice (some ⟨w.heap.size + 1, 0, none⟩) F.vars.length F.vars.length) F.vars.length (l'.map Value.bool) ∧ Below (w.heap.size + 1) (w.alloc (.cells #[.slice A0 F.vars.length c0, .slice A1 F.params.length c1, .slice A2 F.blocks.length c2] 26)) wr) (fun _ i _ => F.vars.length - (intOf i).toNat)
    case atStart => exact ⟨false, l, 0, rfl, rfl, Nat.zero_le _, HK.out, HO.out, HB.out⟩
    case round => as_aux_lemma =>
     clear HO HB HK
     obtain ⟨ag, l', k, rfl, rfl, hk, HK, ho, hb⟩ := hrel
     have hB := hb0.trans (hb.mono (Nat.le_succ _))
     by_cases hkl : k < F.vars.length
     · as_aux_lemma =>
       have hcb := own_bool ho hkl
       have hgl := (ho.lt _ rfl).2
       have hfz := ho.frozenAt k
       obtain ⟨q, q0, q1, q2⟩ := box3 hb
       have hkz : (k : Int) < (F.vars.length : Int) := by omega
       cases hbv : l'.getD k false
       · as_aux_lemma =>
         rw [hbv] at hcb
         have hak9 := hak wr (w.heap.size + 1) l' k (hW.trans (hB.mono hWs)) ⟨hgl, fun f hf => own_bool ho hf⟩
         cases hav : askF l' (k : Int) F
         · as_aux_lemma =>
           rw [hav] at hak9
           have HS := Lib.hid (HK.out.skip (.inr hav))
           have HO := Lib.hid ho
           have HB := Lib.hid hb
           clear hbv hav hak ho hb
           go_wp2_with fail
           refine hak9.mono ?_
           rintro e w9 ⟨rfl, hb9⟩
           have HB9 := Lib.hid hb9
           clear hb9 hak9
           go_wp2
           go_roundw
           case rel => exact ⟨ag, l', k + 1, rfl, ZN, ZO, HS.out, own_below HO.out HB9.out, HB.out.trans (HB9.out.mono ZO)⟩
           case measure => simp [intOf]; omega
         · as_aux_lemma =>
           rw [hav] at hak9
           have HS := Lib.hid (HK.out.put HR.out hkl hbv hav)
           have HO := Lib.hid ho
           have HB := Lib.hid hb
           clear hbv hav hak ho hb
           go_wp2_with fail
           refine hak9.mono ?_
           rintro e w9 ⟨rfl, hb9⟩
           have hO9 := own_below HO.out hb9
           have hc9 := (hb9.cell (p := ⟨w.heap.size + 1, k, none⟩) hgl).trans hcb
           have hg9 := (hO9.lt _ rfl).2
           have hf9 := hO9.frozenAt k
           have HO9 := Lib.hid hO9
           have HB9 := Lib.hid hb9
           clear hb9 hak9 hO9 hcb hfz hgl q q0 q1 q2
           go_wp2
           go_roundw
           case rel => exact ⟨true, l'.set k true, k + 1, rfl, ZN, ZO, HS.out, by rw [List.map_set]; exact (HO9.out.stored k (.bool true)).1, (HB.out.trans (HB9.out.mono (by have := HB.out.size; simp at this; omega))).setCell (Nat.le_refl _) _⟩
           case measure => simp [intOf]; omega
       · as_aux_lemma =>
         rw [hbv] at hcb
         have HS := Lib.hid (HK.out.skip (.inl hbv))
         have HO := Lib.hid ho
         have HB := Lib.hid hb
         clear hbv hak ho hb
         go_wp2
         go_roundw
         case rel => exact ⟨ag, l', k + 1, rfl, ZN, ZO, HS.out, HO.out, HB.out⟩
         case measure => simp [intOf]; omega
     · as_aux_lemma =>
       obtain rfl : k = F.vars.length := by omega
       have HN := Lib.hid (HK.out.done)
       have hlt : l'.count false + ag.toNat ≤ gk - 1 := by
        simp only [Bool.toNat_true] at hcn
        cases ag
        · rw [(HK.out.no rfl).1]
          simp only [Bool.toNat_false]
          omega
        · have := HK.out.yes rfl
          simp only [Bool.toNat_true]
          omega
       have hgk : gk - 1 < gk := by simp only [Bool.toNat_true] at hcn; omega
       have HLT := Lib.hid hlt
       clear hlt hcn hak
       go_wp2
       go_roundg (gk - 1)
       case measure => exact hgk
       case rel => exact ⟨ag, l', rfl, ⟨HN.out, HLT.out⟩, ho, hb⟩
end Go.Proofs.YtjdkcichkpolgaaGreatDoor
namespace Go.Proofs.YtjdkcichkpolgaaGreatDoor
open Go.RowKit
set_option maxRecDepth 100000
def CPhW (W : World) (cs : List Value) (x : PPhi) : Prop := ∃ v1 v2, cs = [.int .i64 x.dst, v1, v2] ∧ SInts W W.heap.size v1 x.args ∧ SInts W W.heap.size v2 x.froms
def CInW (W : World) (cs : List Value) (x : PInst) : Prop := ∃ v1, cs = [.int .i64 x.op, .int .i64 x.dst, v1, .int .i64 x.num] ∧ SInts W W.heap.size v1 x.args
def CBW (W w : World) (base : Nat) (cs : List Value) (x : PBlock × Value × Value) : Prop :=
 cs = [.string x.1.name, x.2.1, x.2.2, .int .i64 x.1.term.kind, .int .i64 x.1.term.var, .int .i64 x.1.term.t0, .int .i64 x.1.term.t1] ∧ x.1.name.size ≤ maxLen ∧
  RRow w base 66 3 (CPhW W) x.2.1 x.1.phis ∧ RRow w base 55 4 (CInW W) x.2.2 x.1.insts
theorem CBW.kt {W w w' : World} {base : Nat} {ts : List TypeId} (hk : KT ts w w') (hp : 66 ∈ ts) (hi : 55 ∈ ts) {cs : List Value} {x : PBlock × Value × Value} (h : CBW W w base cs x) : CBW W w' base cs x :=
 ⟨h.1, h.2.1, h.2.2.1.kt hk hp (fun _ _ h => h), h.2.2.2.kt hk hi (fun _ _ h => h)⟩
section
variable {W w : World} {base : Nat} {v : Value}
theorem phisW_of {xs : List PPhi} (hk : Kept W.heap.size W w) (hs : W.heap.size ≤ w.heap.size) (h : RRow w base 66 3 (CPhW W) v xs) (hn : xs.length ≤ 1048576) : SPhis w w.heap.size v xs :=
 DRow.rd (h.done (D := fun _ => True) hn (fun _ _ _ => trivial)) (fun _ h _ => h) fun b o cs x _ _ hc e => by
  obtain ⟨v1, v2, rfl, h1, h2⟩ := e
  exact ⟨hc 0 _ rfl, ⟨v1, hc 1 _ rfl, h1.keep hk hs⟩, v2, hc 2 _ rfl, h2.keep hk hs⟩
theorem instsW_of {xs : List PInst} (hk : Kept W.heap.size W w) (hs : W.heap.size ≤ w.heap.size) (h : RRow w base 55 4 (CInW W) v xs) (hn : xs.length ≤ 1048576) : SInsts w w.heap.size v xs :=
 DRow.rd (h.done (D := fun _ => True) hn (fun _ _ _ => trivial)) (fun _ h _ => h) fun b o cs x _ _ hc e => by
  obtain ⟨v1, rfl, h1⟩ := e
  exact ⟨hc 0 _ rfl, hc 1 _ rfl, ⟨v1, hc 2 _ rfl, h1.keep hk hs⟩, hc 3 _ rfl⟩
theorem blksW_of {ps : List (PBlock × Value × Value)} (hk : Kept W.heap.size W w) (hs : W.heap.size ≤ w.heap.size) (h : RRow w base 52 7 (CBW W w base) v ps) (hn : ps.length ≤ 1048576)
 (hp : ∀ p ∈ ps, p.1.phis.length ≤ 1048576 ∧ p.1.insts.length ≤ 1048576) : SBlks w w.heap.size v (ps.map Prod.fst) := by
 obtain ⟨A, c, rfl, hl, hc, hr⟩ := h.done (D := fun _ => True) hn (fun _ _ _ => trivial)
 refine ⟨A, c, by rw [List.length_map], by rw [List.length_map]; exact hl, by rw [List.length_map]; exact hc, fun i x hx => ?_⟩
 rw [List.getElem?_map] at hx
 obtain ⟨p, hx2, rfl⟩ := Option.map_eq_some_iff.1 hx
 obtain ⟨b, off, cs, ha, -, hb, -, hcells, rfl, hz, h1, h2⟩ := hr i p hx2
 have hm := hp p (List.mem_of_getElem? hx2)
 exact ⟨b, off, ha, hb, hz, hcells 0 _ rfl, ⟨_, hcells 1 _ rfl, phisW_of hk hs h1 hm.1⟩, ⟨_, hcells 2 _ rfl, instsW_of hk hs h2 hm.2⟩, hcells 3 _ rfl, hcells 4 _ rfl, hcells 5 _ rfl, hcells 6 _ rfl⟩
theorem fnW_of {F G : PFunc} {v0 v1 v2 vb : Value} {ps : List (PBlock × Value × Value)} (hF : FnV W W.heap.size (.agg #[v0, v1, v2]) F) (hk : Kept W.heap.size W w) (hs : W.heap.size ≤ w.heap.size) (h : RRow w base 52 7 (CBW W w base) vb ps)
 (he : ps.map Prod.fst = G.blocks) (h0 : G.vars = F.vars) (h1 : G.params = F.params) (hB : Bnd G) : FnV w w.heap.size (.agg #[v0, v1, vb]) G := by
 obtain ⟨u0, u1, u2, e, s0, s1, -⟩ := hF
 simp only [Value.agg.injEq, Array.mk.injEq, List.cons.injEq, and_true] at e
 obtain ⟨rfl, rfl, rfl⟩ := e
 refine ⟨v0, v1, vb, rfl, by rw [h0]; exact s0.keep hk hs, by rw [h1]; exact s1.keep hk hs, ?_⟩
 rw [← he]
 refine blksW_of hk hs h (by have := hB.blocks; rw [← he, List.length_map] at this; omega) fun p hp => ?_
 have hm : p.1 ∈ G.blocks := by rw [← he]; exact List.mem_map_of_mem hp
 have := hB.parts _ hm
 exact ⟨ZO, ZO⟩
end
section
variable {b : PBlock} {k : Nat} {l : List Bool}
theorem filt_phi_yes (h : k < b.phis.length) (hk : keepP l (b.phi k) = true) : (b.phis.take (k + 1)).filter (keepP l) = (b.phis.take k).filter (keepP l) ++ [b.phi k] := by
 rw [take_phi h, List.filter_append]
 simp [hk]
theorem filt_phi_no (h : k < b.phis.length) (hk : keepP l (b.phi k) = false) : (b.phis.take (k + 1)).filter (keepP l) = (b.phis.take k).filter (keepP l) := by
 rw [take_phi h, List.filter_append]
 simp [hk]
theorem filt_inst_yes (h : k < b.insts.length) (hk : keepI l (b.inst k) = true) : (b.insts.take (k + 1)).filter (keepI l) = (b.insts.take k).filter (keepI l) ++ [b.inst k] := by
 rw [take_inst h, List.filter_append]
 simp [hk]
theorem filt_inst_no (h : k < b.insts.length) (hk : keepI l (b.inst k) = false) : (b.insts.take (k + 1)).filter (keepI l) = (b.insts.take k).filter (keepI l) := by
 rw [take_inst h, List.filter_append]
 simp [hk]
theorem filt_phi_len : ((b.phis.take k).filter (keepP l)).length ≤ b.phis.length := Nat.le_trans (List.length_filter_le _ _) ZX
theorem filt_inst_len : ((b.insts.take k).filter (keepI l)).length ≤ b.insts.length := Nat.le_trans (List.length_filter_le _ _) ZX
end
end Go.Proofs.YtjdkcichkpolgaaGreatDoor
