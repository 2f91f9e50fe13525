/- The plain law of DeadNone: what is needed of the swept program is what was needed, so that it is swept itself. No program's code in sight. -/
import Derived.Test.YtjdkcichkpolgaaGreatDoorDmD
import Derived.Test.YtjdkcichkpolgaaGreatDoorDmP
import Derived.Test.YtjdkcichkpolgaaGreatDoorFewB
import Derived.Test.YtjdkcichkpolgaaGreatDoorSBe
import Derived.Test.YtjdkcichkpolgaaGreatDoorSLaw
namespace Go.Proofs.YtjdkcichkpolgaaGreatDoor
open Go.RowKit
set_option maxRecDepth 100000
section
variable {F : PFunc} {v : Int}
theorem ndL_at {n : Nat} (h : n < F.vars.length) : (ndL F).getD n false = true ↔ Nd F (n : Int) := by
 have h1 : (ndL F).getD n false = ndB F n := by simp [ndL, List.getD, h]
 rw [h1]
 unfold ndB
 simp
theorem ndL_int (h0 : 0 ≤ v) (h1 : v < F.vars.length) : (ndL F).getD v.toNat false = true ↔ Nd F v := by
 rw [ndL_at ZO, Int.toNat_of_nonneg h0]
theorem sw_mem {l : List Bool} {b : PBlock} : b ∈ (SwF l F).blocks ↔ ∃ a ∈ F.blocks, swBlk l a = b := List.mem_map
theorem nd_of_sw (h : Nd (SwF (ndL F) F) v) : Nd F v := by
 induction h with
 | inst hb hx hs hv =>
  obtain ⟨a, ha, rfl⟩ := sw_mem.1 hb
  exact .inst ha (List.mem_filter.1 hx).1 hs hv
 | term hb hk =>
  obtain ⟨a, ha, rfl⟩ := sw_mem.1 hb
  exact .term (b := a) ha hk
 | phi hb hp _ hv ih =>
  obtain ⟨a, ha, rfl⟩ := sw_mem.1 hb
  exact .phi ha (List.mem_filter.1 hp).1 ih hv
 | arg hb hx hs _ hv ih =>
  obtain ⟨a, ha, rfl⟩ := sw_mem.1 hb
  exact .arg ha (List.mem_filter.1 hx).1 hs ih hv
theorem sw_of_nd (hr : RngF F) (h : Nd F v) : Nd (SwF (ndL F) F) v := by
 induction h with
 | @inst b x v hb hx hs hv => exact .inst (sw_mem.2 ⟨b, hb, rfl⟩) (List.mem_filter.2 ⟨hx, by simp [keepI, hs]⟩) hs hv
 | @term b hb hk => exact .term (b := swBlk (ndL F) b) (sw_mem.2 ⟨b, hb, rfl⟩) hk
 | @phi b p v hb hp hd hv ih =>
  have hd2 := (hr.it (phiIt p) (List.mem_flatMap.2 ⟨b, hb, List.mem_append_left _ (List.mem_map.2 ⟨p, hp, rfl⟩)⟩)).1
  exact .phi (sw_mem.2 ⟨b, hb, rfl⟩) (List.mem_filter.2 ⟨hp, (ndL_int hd2.1 hd2.2).2 hd⟩) ih hv
 | @arg b x v hb hx hs hd hv ih =>
  have hd2 := (hr.it (x.dst, x.args) (List.mem_flatMap.2 ⟨b, hb, List.mem_append_right _ (List.mem_map.2 ⟨x, List.mem_filter.2 ⟨hx, by simp [hs]⟩, rfl⟩)⟩)).1
  exact .arg (sw_mem.2 ⟨b, hb, rfl⟩) (List.mem_filter.2 ⟨hx, by unfold keepI; rw [Bool.or_eq_true]; exact .inr ((ndL_int hd2.1 hd2.2).2 hd)⟩) hs ih hv
theorem nd_sw (hr : RngF F) : Nd (SwF (ndL F) F) v ↔ Nd F v := ⟨nd_of_sw, sw_of_nd hr⟩
theorem ndL_sw (hr : RngF F) : ndL (SwF (ndL F) F) = ndL F := by
 unfold ndL
 refine List.map_congr_left fun n _ => ?_
 unfold ndB
 rw [decide_eq_decide]
 exact nd_sw hr
theorem sw_idem {l : List Bool} : SwF l (SwF l F) = SwF l F := by
 unfold SwF
 simp only [List.map_map]
 congr 1
 refine List.map_congr_left fun b _ => ?_
 simp [swBlk, Function.comp, List.filter_filter]
theorem sw_swept (hr : RngF F) : SwF (ndL (SwF (ndL F) F)) (SwF (ndL F) F) = SwF (ndL F) F := by rw [ndL_sw hr, sw_idem]
theorem sw_stays {l : List Bool} {b : PBlock} : (swBlk l b).insts.filter staysI = b.insts.filter staysI := by
 unfold swBlk
 rw [List.filter_filter]
 refine List.filter_congr fun x _ => ?_
 unfold keepI
 cases staysI x <;> simp
end
end Go.Proofs.YtjdkcichkpolgaaGreatDoor
namespace Go.Proofs.YtjdkcichkpolgaaGreatDoor
open Go.RowKit
set_option maxRecDepth 100000
section
variable {F : PFunc} {l : List Bool}
theorem sw_len : (SwF l F).blocks.length = F.blocks.length := by simp [SwF]
theorem sw_bnames : bnames (SwF l F) = bnames F := by
 unfold bnames SwF
 simp only [List.map_map]
 rfl
theorem sw_names : namesB (SwF l F) = namesB F := by
 unfold namesB
 rw [sw_bnames, sw_len]
 rfl
theorem sw_phiB : phiB (SwF l F) = phiB F := by
 funext p
 unfold phiB atsB
 rw [sw_len]
 rfl
theorem sw_instB : instB (SwF l F) = instB F := rfl
theorem sw_termB : termB (SwF l F) = termB F := by
 funext t
 unfold termB
 rw [sw_len]
 rfl
theorem sw_block {b : PBlock} (h : blockB F b = true) : blockB (SwF l F) (swBlk l b) = true := by
 unfold blockB at *
 rw [sw_phiB, sw_instB, sw_termB]
 simp only [Bool.and_eq_true, Bool.not_eq_true', List.any_eq_false] at h ⊢
 exact ⟨⟨fun x hx => h.1.1 x (List.mem_filter.1 hx).1, fun x hx => h.1.2 x (List.mem_filter.1 hx).1⟩, h.2⟩
theorem sw_sum : ∀ {bs : List PBlock}, sumB (bs.map (swBlk l)) ≤ sumB bs
 | [] => Nat.le_refl _
 | b :: r => by
  have ih := sw_sum (bs := r)
  have h1 := List.length_filter_le (keepP l) b.phis
  have h2 := List.length_filter_le (keepI l) b.insts
  simp only [List.map_cons, sumB, swBlk] at *
  omega
theorem sw_shaped (h : shapedP F = true) : shapedP (SwF l F) = true := by
 unfold shapedP at *
 simp only [Bool.and_eq_true, decide_eq_true_eq, List.all_eq_true] at h ⊢
 refine ⟨⟨by rw [sw_names]; exact h.1.1, fun b hb => ?_⟩, Nat.le_trans sw_sum h.2⟩
 obtain ⟨a, ha, rfl⟩ := sw_mem.1 hb
 exact sw_block (h.1.2 a ha)
theorem sw_takes : ∀ {a b : List Int}, takesT (SwF l F) a b = takesT F a b
 | [], _ => by simp [takesT]
 | _ :: _, [] => by simp [takesT]
 | x :: a, t :: b => by
  have ih := sw_takes (a := a) (b := b)
  simp only [takesT, ih]
  rfl
theorem sw_instT : instT (SwF l F) = instT F := by
 funext x
 unfold instT
 rw [sw_takes]
 rfl
theorem sw_typed (h : typedP F = true) : typedP (SwF l F) = true := by
 unfold typedP at *
 simp only [Bool.and_eq_true, List.all_eq_true] at h ⊢
 refine ⟨sw_shaped h.1, fun b hb => ?_⟩
 obtain ⟨a, ha, rfl⟩ := sw_mem.1 hb
 have := h.2 a ha
 unfold blkT at *
 simp only [Bool.and_eq_true, List.all_eq_true] at this ⊢
 rw [sw_instT]
 exact ⟨⟨fun x hx => this.1.1 x (List.mem_filter.1 hx).1, fun x hx => this.1.2 x (List.mem_filter.1 hx).1⟩, this.2⟩
theorem sw_noPi (h : noPi F = true) : noPi (SwF l F) = true := by
 unfold noPi at *
 simp only [List.all_eq_true] at h ⊢
 intro b hb
 obtain ⟨a, ha, rfl⟩ := sw_mem.1 hb
 exact fun x hx => h a ha x (List.mem_filter.1 hx).1
end
end Go.Proofs.YtjdkcichkpolgaaGreatDoor
namespace Go.Proofs.YtjdkcichkpolgaaGreatDoor
open Go.RowKit
set_option maxRecDepth 100000
section
variable {F : PFunc} {l : List Bool}
theorem phisLen_filter {p : PPhi → Bool} : ∀ {a : List PPhi}, phisLen (a.filter p) ≤ phisLen a
 | [] => Nat.le_refl _
 | x :: a => by
  have ih := phisLen_filter (p := p) (a := a)
  rw [List.filter_cons]
  split
  · simp only [phisLen]; omega
  · simp only [phisLen]; omega
theorem instsLen_filter {p : PInst → Bool} : ∀ {a : List PInst}, instsLen (a.filter p) ≤ instsLen a
 | [] => Nat.le_refl _
 | x :: a => by
  have ih := instsLen_filter (p := p) (a := a)
  rw [List.filter_cons]
  split
  · simp only [instsLen]; omega
  · simp only [instsLen]; omega
theorem phisFew_filter {p : PPhi → Bool} : ∀ {a : List PPhi} {m m' : Nat}, m' ≤ m → phisFew m a = true → phisFew m' (a.filter p) = true
 | [], _, _, _, _ => rfl
 | x :: a, m, m', hm, h => by
  simp only [phisFew, Bool.and_eq_true, decide_eq_true_eq] at h
  rw [List.filter_cons]
  split
  · simp only [phisFew, Bool.and_eq_true, decide_eq_true_eq]
    exact ⟨⟨⟨ZO, h.1.1.2⟩, h.1.2⟩, phisFew_filter ZO h.2⟩
  · exact phisFew_filter ZO h.2
theorem instsFew_filter {p : PInst → Bool} : ∀ {a : List PInst} {m m' : Nat}, m' ≤ m → instsFew m a = true → instsFew m' (a.filter p) = true
 | [], _, _, _, _ => rfl
 | x :: a, m, m', hm, h => by
  simp only [instsFew, Bool.and_eq_true, decide_eq_true_eq] at h
  rw [List.filter_cons]
  split
  · simp only [instsFew, Bool.and_eq_true, decide_eq_true_eq]
    exact ⟨⟨ZO, h.1.2⟩, instsFew_filter ZO h.2⟩
  · exact instsFew_filter ZO h.2
theorem head_sw {b : PBlock} : blkHead (swBlk l b) ≤ blkHead b := by
 have h1 := List.length_filter_le (keepP l) b.phis
 have h2 := List.length_filter_le (keepI l) b.insts
 simp only [blkHead, swBlk]
 omega
theorem sw_blkFew {b : PBlock} {m m' : Nat} (hm : m' ≤ m) (h : blkFew m b = true) : blkFew m' (swBlk l b) = true := by
 have h1 := List.length_filter_le (keepP l) b.phis
 have h2 := List.length_filter_le (keepI l) b.insts
 have h3 := head_sw (l := l) (b := b)
 have h4 := phisLen_filter (p := keepP l) (a := b.phis)
 have h5 := instsLen_filter (p := keepI l) (a := b.insts)
 simp only [blkFew, Bool.and_eq_true, decide_eq_true_eq] at h ⊢
 refine ⟨⟨⟨⟨⟨h.1.1.1.1.1, ?_⟩, ?_⟩, phisFew_filter ZO h.1.1.2⟩, instsFew_filter ?_ h.1.2⟩, ?_⟩
 · exact Nat.le_trans h1 h.1.1.1.1.2
 · exact Nat.le_trans h2 h.1.1.1.2
 · show m' + blkHead (swBlk l b) + phisLen (b.phis.filter (keepP l)) ≤ _
   omega
 · show m' + blkHead (swBlk l b) + phisLen (b.phis.filter (keepP l)) + instsLen (b.insts.filter (keepI l)) ≤ _
   have := h.2
   omega
theorem sw_blksFew : ∀ {bs : List PBlock} {m m' : Nat}, m' ≤ m → blksFew m bs = true → blksFew m' (bs.map (swBlk l)) = true
 | [], _, _, _, _ => rfl
 | b :: r, m, m', hm, h => by
  have h3 := head_sw (l := l) (b := b)
  have h4 := phisLen_filter (p := keepP l) (a := b.phis)
  have h5 := instsLen_filter (p := keepI l) (a := b.insts)
  simp only [blksFew, Bool.and_eq_true] at h
  rw [List.map_cons]
  simp only [blksFew, Bool.and_eq_true]
  refine ⟨sw_blkFew hm h.1, sw_blksFew ?_ h.2⟩
  show m' + blkHead (swBlk l b) + phisLen (b.phis.filter (keepP l)) + instsLen (b.insts.filter (keepI l)) ≤ _
  omega
theorem sw_few (h : fewB F = true) : fewB (SwF l F) = true := by
 unfold fewB at *
 rw [sw_len]
 simp only [Bool.and_eq_true] at h ⊢
 exact ⟨h.1, sw_blksFew (Nat.le_refl _) h.2⟩
end
end Go.Proofs.YtjdkcichkpolgaaGreatDoor
namespace Go.Proofs.YtjdkcichkpolgaaGreatDoor
open Go.RowKit
set_option maxRecDepth 100000
section
variable {F : PFunc} {l : List Bool}
theorem sw_blkAt {i : Nat} : (SwF l F).blk i = swBlk l (F.blk i) := by
 unfold PFunc.blk SwF
 simp only [List.getD_eq_getElem?_getD, List.getElem?_map]
 cases F.blocks[i]? <;> rfl
theorem sw_EN : EN (SwF l F) = EN F := by
 funext i
 unfold EN
 rw [sw_blkAt]
 rfl
theorem sw_OR : OR (SwF l F) = OR F := by
 unfold OR postO
 rw [sw_EN, sw_len]
theorem sw_predRow {b : Nat} : ∀ i, predRow (SwF l F) b i = predRow F b i
 | 0 => rfl
 | i + 1 => by
  unfold predRow
  rw [sw_predRow i, sw_blkAt]
  rfl
theorem sw_PR : PR (SwF l F) = PR F := by
 funext b
 unfold PR
 rw [sw_predRow, sw_len]
theorem sw_predsF : ∀ i, predsF (SwF l F) i = predsF F i
 | 0 => by unfold predsF; rw [sw_len]
 | i + 1 => by unfold predsF; rw [sw_predsF i, sw_EN]
theorem sw_preds : predsOf (SwF l F) = predsOf F := by
 unfold predsOf
 rw [sw_predsF, sw_len]
theorem sw_tab : tabB (SwF l F) = tabB F := by
 funext a b
 unfold tabB tabP
 rw [sw_OR, sw_PR]
theorem sw_there (h : thereB F = true) : thereB (SwF l F) = true := by
 unfold thereB at *
 rw [sw_len, sw_OR]
 exact h
theorem sw_joined (h : joinedB F = true) : joinedB (SwF l F) = true := by
 unfold joinedB at *
 rw [sw_len]
 rw [List.all_eq_true] at *
 intro i hi
 have := h i hi
 rw [List.all_eq_true] at *
 rw [sw_blkAt]
 intro p hp
 have := this p (List.mem_filter.1 hp).1
 unfold joinPhi at *
 rw [sw_preds]
 exact this
def MkAt (F : PFunc) (v : Int) (i : Nat) (a : Int) : Prop := i < F.blocks.length ∧ ((a = -1 ∧ ∃ p ∈ (F.blk i).phis, p.dst = v) ∨ ∃ k : Nat, k < (F.blk i).insts.length ∧ a = k ∧ ((F.blk i).inst k).dst = v)
theorem mk_ev {v : Int} {i : Nat} {a : Int} : MkAt F v i a ↔ (⟨v, i, a⟩ : Ev) ∈ evF F := by
 constructor
 · rintro ⟨hi, h⟩
   refine evs_mem hi ?_
   unfold evBlk
   rw [List.mem_append]
   rcases h with ⟨rfl, p, hp, rfl⟩ | ⟨k, hk, rfl, rfl⟩
   · obtain ⟨k, hk, rfl⟩ := List.getElem_of_mem hp
     exact .inl (List.mem_map.2 ⟨k, List.mem_range.2 hk, by simp [PBlock.phi, List.getD, hk]⟩)
   · exact .inr (List.mem_map.2 ⟨k, List.mem_range.2 hk, rfl⟩)
 · intro h
   have key : ∀ n, n ≤ F.blocks.length → (⟨v, i, a⟩ : Ev) ∈ evs F n → i < n ∧ (⟨v, i, a⟩ : Ev) ∈ evBlk F i := by
    intro n
    induction n with
    | zero => intro _ h; cases h
    | succ n ih =>
     intro hn h
     rw [evs, List.mem_append] at h
     rcases h with h | h
     · have := ih ZO h
       exact ⟨ZO, this.2⟩
     · have hb : i = n := by
        unfold evBlk evPhi evIns at h
        rw [List.mem_append, List.mem_map, List.mem_map] at h
        rcases h with ⟨k, -, h⟩ | ⟨k, -, h⟩
        · cases h; rfl
        · cases h; rfl
       rw [hb]
       rw [hb] at h
       exact ⟨ZO, h⟩
   obtain ⟨h1, h2⟩ := key F.blocks.length (Nat.le_refl _) h
   refine ⟨h1, ?_⟩
   unfold evBlk evPhi evIns at h2
   rw [List.mem_append, List.mem_map, List.mem_map] at h2
   rcases h2 with ⟨k, hk, h2⟩ | ⟨k, hk, h2⟩
   · cases h2
     exact .inl ⟨rfl, _, mem_of_Phi (List.mem_range.1 hk), rfl⟩
   · cases h2
     exact .inr ⟨k, List.mem_range.1 hk, rfl, rfl⟩
theorem mk_mem {v : Int} {i : Nat} {a : Int} (h : MkAt F v i a) : ((i : Int), a) ∈ mkOf (evF F) v := List.mem_map.2 ⟨_, List.mem_filter.2 ⟨mk_ev.1 h, ZS⟩, rfl⟩
theorem mk_maker {v : Int} {i : Nat} {a : Int} (h1 : (mkOf (evF F) v).length ≤ 1) (h : MkAt F v i a) : makerF F v = ((i : Int), a) := by
 have hm := mk_mem h
 unfold makerF
 match mkOf (evF F) v, h1, hm with
 | [p], _, hm =>
  rw [List.mem_singleton] at hm
  rw [hm, makerOf_cons]
 | p :: q :: r, h1, _ => simp at h1
theorem mk_none {v : Int} (h : ∀ i a, ¬ MkAt F v i a) : makerF F v = (-1, 0) := by
 unfold makerF
 have : mkOf (evF F) v = [] := by
  unfold mkOf
  rw [List.map_eq_nil_iff, List.filter_eq_nil_iff]
  intro e he hd
  have hd : e.dst = v := by simpa using hd
  exact h e.blk e.pos (mk_ev.2 (by rw [← hd]; exact he))
 rw [this, makerOf_nil]
end
end Go.Proofs.YtjdkcichkpolgaaGreatDoor
namespace Go.Proofs.YtjdkcichkpolgaaGreatDoor
open Go.RowKit
set_option maxRecDepth 100000
section
variable {α : Type} {p : α → Bool}
theorem filt_inv : ∀ {xs : List α} {k : Nat}, k < (xs.filter p).length → ∃ j x, xs[j]? = some x ∧ p x = true ∧ ((xs.take j).filter p).length = k
 | [], k, h => by simp at h
 | x :: xs, k, h => by
  rw [List.filter_cons] at h
  split at h
  · rename_i hp
    cases k with
    | zero => exact ⟨0, x, rfl, hp, rfl⟩
    | succ k =>
     obtain ⟨j, y, h1, h2, h3⟩ := filt_inv (xs := xs) (k := k) (by simpa using h)
     exact ⟨j + 1, y, by simpa using h1, h2, by rw [List.take_succ_cons, List.filter_cons, if_pos hp, List.length_cons, h3]⟩
  · rename_i hp
    obtain ⟨j, y, h1, h2, h3⟩ := filt_inv (xs := xs) (k := k) h
    exact ⟨j + 1, y, by simpa using h1, h2, by rw [List.take_succ_cons, List.filter_cons, if_neg hp, h3]⟩
theorem filt_get {xs : List α} {j : Nat} {x : α} (h : xs[j]? = some x) (hp : p x = true) : (xs.filter p)[((xs.take j).filter p).length]? = some x := by
 obtain ⟨hj, rfl⟩ := List.getElem?_eq_some_iff.1 h
 have h1 : xs.filter p = (xs.take j).filter p ++ (xs.drop j).filter p := by rw [← List.filter_append, List.take_append_drop]
 rw [h1, List.getElem?_append_right (Nat.le_refl _), Nat.sub_self, List.drop_eq_getElem_cons hj, List.filter_cons, if_pos hp]
 rfl
theorem filt_lt {xs : List α} {j k : Nat} {x : α} (h : xs[j]? = some x) (hp : p x = true) (hk : j < k) : ((xs.take j).filter p).length < ((xs.take k).filter p).length := by
 have h1 : ((xs.take k).take j) = xs.take j := by rw [List.take_take, Nat.min_eq_left ZO]
 have h2 : (xs.take k)[j]? = some x := by rw [List.getElem?_take, if_pos hk]; exact h
 have h3 := filt_get (p := p) h2 hp
 rw [h1] at h3
 exact (List.getElem?_eq_some_iff.1 h3).1
end
section
variable {F : PFunc} {l : List Bool}
def idxI (l : List Bool) (b : PBlock) (j : Nat) : Nat := ((b.insts.take j).filter (keepI l)).length
theorem mk_keep {v : Int} {i : Nat} {a : Int} (hl : l.getD v.toNat false = true) (h : MkAt F v i a) : (a = -1 ∧ MkAt (SwF l F) v i (-1)) ∨ ∃ j : Nat, a = j ∧ j < (F.blk i).insts.length ∧ keepI l ((F.blk i).inst j) = true ∧ MkAt (SwF l F) v i (idxI l (F.blk i) j) := by
 obtain ⟨hi, ⟨rfl, p, hp, rfl⟩ | ⟨k, hk, rfl, rfl⟩⟩ := h
 · refine .inl ⟨rfl, by rw [sw_len]; exact hi, .inl ⟨rfl, p, ?_, rfl⟩⟩
   rw [sw_blkAt]
   exact List.mem_filter.2 ⟨hp, hl⟩
 · have hkp : keepI l ((F.blk i).inst k) = true := by unfold keepI; rw [hl, Bool.or_true]
   have hg := filt_get (PBlock.inst_get hk) hkp
   refine .inr ⟨k, rfl, hk, hkp, by rw [sw_len]; exact hi, .inr ⟨idxI l (F.blk i) k, ?_, rfl, ?_⟩⟩
   · rw [sw_blkAt]
     exact (List.getElem?_eq_some_iff.1 hg).1
   · rw [sw_blkAt]
     have : (swBlk l (F.blk i)).inst (idxI l (F.blk i) k) = (F.blk i).inst k := by
      unfold PBlock.inst
      rw [List.getD_eq_getElem?_getD]
      show ((F.blk i).insts.filter (keepI l))[_]?.getD _ = _
      unfold idxI
      rw [hg]
      rfl
     rw [this]
theorem mk_back {v : Int} {i : Nat} {a : Int} (h : MkAt (SwF l F) v i a) : ∃ a', MkAt F v i a' := by
 obtain ⟨hi, h⟩ := h
 rw [sw_len] at hi
 rw [sw_blkAt] at h
 rcases h with ⟨-, p, hp, rfl⟩ | ⟨k, hk, -, rfl⟩
 · exact ⟨-1, hi, .inl ⟨rfl, p, (List.mem_filter.1 hp).1, rfl⟩⟩
 · obtain ⟨j, x, h1, h2, h3⟩ := filt_inv (p := keepI l) (xs := (F.blk i).insts) hk
   have hg := filt_get h1 h2
   have hx : (swBlk l (F.blk i)).inst k = x := by
    unfold PBlock.inst
    rw [List.getD_eq_getElem?_getD]
    show ((F.blk i).insts.filter (keepI l))[_]?.getD _ = _
    rw [← h3, hg]
    rfl
   have hj := (List.getElem?_eq_some_iff.1 h1).1
   refine ⟨j, hi, .inr ⟨j, hj, rfl, ?_⟩⟩
   rw [hx]
   have : (F.blk i).inst j = x := by unfold PBlock.inst; rw [List.getD_eq_getElem?_getD, h1]; rfl
   rw [this]
theorem evBlk_dst {i : Nat} : (evBlk F i).map (·.dst) = (F.blk i).phis.map (·.dst) ++ (F.blk i).insts.map (·.dst) := by
 unfold evBlk evPhi evIns
 rw [List.map_append, List.map_map, List.map_map]
 congr 1
 · refine List.ext_getElem ZS fun k h1 h2 => ?_
   simp at h1
   simp [PBlock.phi, h1]
 · refine List.ext_getElem ZS fun k h1 h2 => ?_
   simp at h1
   simp [PBlock.inst, h1]
theorem sw_evs : ∀ n, ((evs (SwF l F) n).map (·.dst)).Sublist ((evs F n).map (·.dst))
 | 0 => List.Sublist.refl _
 | n + 1 => by
  unfold evs
  rw [List.map_append, List.map_append, evBlk_dst, evBlk_dst, sw_blkAt]
  exact (sw_evs n).append ((List.filter_sublist.map _).append (List.filter_sublist.map _))
theorem mkOf_len {e : List Ev} {v : Int} : (mkOf e v).length = ((e.map (·.dst)).filter fun d => d == v).length := by
 unfold mkOf
 rw [List.length_map, List.filter_map, List.length_map]
 rfl
theorem sw_mkOf {v : Int} : (mkOf (evF (SwF l F)) v).length ≤ (mkOf (evF F) v).length := by
 rw [mkOf_len, mkOf_len]
 unfold evF
 rw [sw_len]
 exact ((sw_evs _).filter _).length_le
theorem sw_once (h : onceB F = true) : onceB (SwF l F) = true := by
 unfold onceB at *
 rw [List.all_eq_true] at *
 intro v hv
 have h1 := h v hv
 have h2 := sw_mkOf (F := F) (l := l) (v := (v : Int))
 unfold onceAt at *
 simp only [Bool.not_eq_true', Bool.or_eq_false_iff, Bool.and_eq_false_iff, decide_eq_false_iff_not] at h1 ⊢
 refine ⟨ZO, ?_⟩
 rcases h1.2 with h3 | h3
 · exact .inl ZO
 · exact .inr h3
theorem once_le (h : onceB F = true) {v : Int} (h0 : 0 ≤ v) (h1 : v < F.vars.length) : (mkOf (evF F) v).length ≤ 1 := by
 have := List.all_eq_true.1 h v.toNat (List.mem_range.2 ZO)
 unfold onceAt at this
 rw [Int.toNat_of_nonneg h0] at this
 simp only [Bool.not_eq_true', Bool.or_eq_false_iff, decide_eq_false_iff_not] at this
 omega
theorem sw_ahead {T : Nat → Nat → Bool} {v : Int} {b : Nat} {at_ at' : Int} (ho : onceB F = true) (h0 : 0 ≤ v) (h1 : v < F.vars.length) (hl : l.getD v.toNat false = true) (hm : -1 < at') (hp : ∀ j : Nat, (F.blk b).insts.length > j → keepI l ((F.blk b).inst j) = true → (j : Int) < at_ → (idxI l (F.blk b) j : Int) < at')
 (h : aheadV F T v b at_ = true) : aheadV (SwF l F) T v b at' = true := by
 have hone := once_le ho h0 h1
 have hone' : (mkOf (evF (SwF l F)) v).length ≤ 1 := Nat.le_trans sw_mkOf hone
 unfold aheadV at *
 by_cases hex : ∃ i a, MkAt F v i a
 · obtain ⟨i, a, hk⟩ := hex
   rw [mk_maker hone hk] at h
   have key : ∀ a', MkAt (SwF l F) v i a' → (i = b → a < at_ → a' < at') → aheadB T (makerF (SwF l F) v) b at' = true := fun a' hk' hlt => by
    rw [mk_maker hone' hk']
    unfold aheadB at *
    simp only at h ⊢
    rw [if_neg ZO] at h ⊢
    by_cases hib : (i : Int) = (b : Int)
    · rw [if_pos hib] at h ⊢
      rw [decide_eq_true_eq] at h ⊢
      exact hlt ZO h
    · rw [if_neg hib] at h ⊢
      exact h
   rcases mk_keep hl hk with ⟨-, hk'⟩ | ⟨j, rfl, hj, hkp, hk'⟩
   · exact key _ hk' fun _ _ => hm
   · exact key _ hk' fun e hlt => by
      subst e
      exact hp j hj hkp hlt
 · rw [mk_none fun i a hk => hex ⟨i, mk_back hk⟩]
   rfl
end
end Go.Proofs.YtjdkcichkpolgaaGreatDoor
namespace Go.Proofs.YtjdkcichkpolgaaGreatDoor
open Go.RowKit
set_option maxRecDepth 100000
section
variable {F : PFunc} {T : Nat → Nat → Bool} {l : List Bool}
theorem all_ith {a : List Int} {v : Int} (h : v ∈ a) : ∃ k, k < a.length ∧ ith a k = v := by
 obtain ⟨k, hk, e⟩ := List.getElem_of_mem h
 exact ⟨k, hk, by simp [ith, List.getD, hk, e]⟩
theorem ith_mem {a : List Int} {k : Nat} (h : k < a.length) : ith a k ∈ a := List.mem_of_getElem? (ith_get h)
theorem idx_len {b : PBlock} {j : Nat} (hj : j < b.insts.length) (hk : keepI l (b.inst j) = true) : idxI l b j < (b.insts.filter (keepI l)).length :=
 (List.getElem?_eq_some_iff.1 (filt_get (PBlock.inst_get hj) hk)).1
theorem sw_aheadEnd {v : Int} {b : Nat} (hr : RngF F) (ho : onceB F = true) (h0 : 0 ≤ v) (h1 : v < F.vars.length) (hv : Nd F v) (h : aheadV F T v b ((F.blk b).insts.length : Int) = true) : aheadV (SwF (ndL F) F) T v b (((SwF (ndL F) F).blk b).insts.length : Int) = true := by
 have _ := hr
 rw [sw_blkAt]
 refine sw_ahead ho h0 h1 ((ndL_int h0 h1).2 hv) ZO (fun j hj hk _ => ?_) h
 have := idx_len (l := ndL F) hj hk
 show (idxI (ndL F) (F.blk b) j : Int) < (((F.blk b).insts.filter (keepI (ndL F))).length : Int)
 omega
theorem sw_behind (hr : RngF F) (ho : onceB F = true) {i : Nat} (hi : i < F.blocks.length) (h : behindB F T i = true) : behindB (SwF (ndL F) F) T i = true := by
 have hb := mem_of_blk hi
 unfold behindB at *
 simp only [Bool.and_eq_true] at h ⊢
 obtain ⟨⟨h1, h2⟩, h3⟩ := h
 refine ⟨⟨?_, ?_⟩, ?_⟩
 · rw [List.all_eq_true] at h1 ⊢
   rw [sw_blkAt]
   intro p hp
   obtain ⟨hp, hk⟩ := List.mem_filter.1 hp
   have hit := hr.it (phiIt p) (List.mem_flatMap.2 ⟨_, hb, List.mem_append_left _ (List.mem_map.2 ⟨p, hp, rfl⟩)⟩)
   have hd := (ndL_int hit.1.1 hit.1.2).1 hk
   have := h1 p hp
   unfold phiBe at *
   rw [List.all_eq_true] at this ⊢
   intro k hk2
   have hk3 := List.mem_range.1 hk2
   have hra := hit.2 _ (ith_mem hk3)
   exact sw_aheadEnd hr ho hra.1 hra.2 (.phi hb hp hd (ith_mem hk3)) (this k hk2)
 · rw [List.all_eq_true] at h2 ⊢
   intro k hk
   have hk1 := List.mem_range.1 hk
   rw [sw_blkAt] at hk1
   obtain ⟨j, x, e1, e2, e3⟩ := filt_inv (p := keepI (ndL F)) (xs := (F.blk i).insts) hk1
   have hj := (List.getElem?_eq_some_iff.1 e1).1
   have hx : (F.blk i).inst j = x := by unfold PBlock.inst; rw [List.getD_eq_getElem?_getD, e1]; rfl
   have hx' : ((SwF (ndL F) F).blk i).inst k = x := by
    rw [sw_blkAt]
    unfold PBlock.inst
    rw [List.getD_eq_getElem?_getD]
    show ((F.blk i).insts.filter (keepI (ndL F)))[_]?.getD _ = _
    rw [← e3, filt_get e1 e2]
    rfl
   have hxm : x ∈ (F.blk i).insts := List.mem_of_getElem? e1
   have := h2 j (List.mem_range.2 hj)
   unfold instBe at *
   rw [hx] at this
   rw [hx']
   rw [List.all_eq_true] at this ⊢
   intro v hv
   have hra := hr.ins _ hb x hxm v hv
   have hnd : Nd F v := by
    cases hs : staysI x
    · have hit := hr.it (x.dst, x.args) (List.mem_flatMap.2 ⟨_, hb, List.mem_append_right _ (List.mem_map.2 ⟨x, List.mem_filter.2 ⟨hxm, by simp [hs]⟩, rfl⟩)⟩)
      unfold keepI at e2
      rw [hs, Bool.false_or] at e2
      exact .arg hb hxm hs ((ndL_int hit.1.1 hit.1.2).1 e2) hv
    · exact .inst hb hxm hs hv
   refine sw_ahead ho hra.1 hra.2 ((ndL_int hra.1 hra.2).2 hnd) ZO (fun j2 hj2 hk2 hlt => ?_) (this v hv)
   have hlt2 := filt_lt (p := keepI (ndL F)) (PBlock.inst_get hj2) hk2 (show j2 < j from ZO)
   rw [e3] at hlt2
   show (idxI (ndL F) (F.blk i) j2 : Int) < (k : Int)
   unfold idxI
   omega
 · unfold termBe at *
   rw [Bool.or_eq_true] at h3 ⊢
   rcases h3 with h3 | h3
   · left
     rw [sw_blkAt]
     exact h3
   · by_cases hk : (F.blk i).term.kind = 0
     · left
       rw [sw_blkAt]
       exact decide_eq_true hk
     · right
       have hra := hr.trm _ hb hk
       have ht : ((SwF (ndL F) F).blk i).term = (F.blk i).term := by rw [sw_blkAt]; rfl
       rw [ht]
       exact sw_aheadEnd hr ho hra.1 hra.2 (.term hb hk) h3
theorem sw_singleB (hT : typedP F = true) (h : singleB F = true) : singleB (SwF (ndL F) F) = true := by
 have hr := rngF_of hT
 unfold singleB at *
 simp only [Bool.and_eq_true] at h ⊢
 refine ⟨⟨⟨sw_joined h.1.1.1, sw_there h.1.1.2⟩, sw_once h.1.2⟩, ?_⟩
 rw [List.all_eq_true] at *
 intro i hi
 rw [sw_len] at hi
 rw [sw_tab]
 exact sw_behind hr h.1.2 (List.mem_range.1 hi) (h.2 i hi)
theorem sw_rightS (h : rightS F = true) : rightS (SwF (ndL F) F) = true := by
 unfold rightS at *
 rw [Bool.and_eq_true] at *
 exact ⟨sw_typed h.1, sw_singleB h.1 h.2⟩
theorem sw_plainB (hT : typedP F = true) (h : plainB F = true) : plainB (SwF (ndL F) F) = true := by
 unfold plainB at *
 rw [Bool.and_eq_true] at *
 exact ⟨sw_singleB hT h.1, sw_noPi h.2⟩
end
end Go.Proofs.YtjdkcichkpolgaaGreatDoor
