/- What a run of a single program makes, ahead of what it takes (plain law of SingleMade). -/
import Derived.Test.YthhpbkfngcflcaaGreatDoorRunV
import Derived.Test.YthhpbkfngcflcaaGreatDoorRunN
import Derived.Test.YthhpbkfngcflcaaGreatDoorSBe
namespace Go.Proofs.YthhpbkfngcflcaaGreatDoor
open Go.RowKit
set_option maxRecDepth 100000
def bump (made : List Nat) : List Int → List Nat
 | [] => made
 | v :: l => bump (made.set v.toNat (made.getD v.toNat 0 + 1)) l
theorem bump_len : ∀ (l : List Int) (made : List Nat), (bump made l).length = made.length
 | [], _ => rfl
 | v :: l, made => by rw [bump, bump_len l]; simp
theorem bump_snoc : ∀ (l : List Int) (made : List Nat) (v : Int), bump made (l ++ [v]) = (bump made l).set v.toNat ((bump made l).getD v.toNat 0 + 1)
 | [], _, _ => rfl
 | u :: l, made, v => by rw [List.cons_append, bump, bump, bump_snoc l]
theorem bump_out : ∀ (l : List Int) (made : List Nat) (k : Nat), (∀ v ∈ l, v.toNat ≠ k) → (bump made l).getD k 0 = made.getD k 0
 | [], _, _, _ => rfl
 | v :: l, made, k, h => by
  rw [bump, bump_out l _ k fun u hu => h u (by simp [hu])]
  have := h v ZS
  simp [List.getD_eq_getElem?_getD, List.getElem?_set_ne this]
theorem bump_le : ∀ (l : List Int) (made : List Nat) (k : Nat), made.getD k 0 ≤ (bump made l).getD k 0
 | [], _, _ => Nat.le_refl _
 | v :: l, made, k => by
  rw [bump]
  refine Nat.le_trans ?_ (bump_le l _ k)
  by_cases e : v.toNat = k
  · subst e
    by_cases hk : v.toNat < made.length
    · simp [List.getD_eq_getElem?_getD, hk]
    · simp [List.getD_eq_getElem?_getD, List.getElem?_eq_none (Nat.le_of_not_lt hk)]
  · simp [List.getD_eq_getElem?_getD, List.getElem?_set_ne e]
theorem bump_in : ∀ (l : List Int) (made : List Nat) (k : Nat), k < made.length → (k : Int) ∈ l → 0 < (bump made l).getD k 0
 | v :: l, made, k, hk, h => by
  rw [bump]
  by_cases e : v = (k : Int)
  · subst e
    refine Nat.lt_of_lt_of_le ?_ (bump_le l _ k)
    simp [List.getD_eq_getElem?_getD, hk]
  · exact bump_in l _ k (by simpa using hk) (by simpa [Ne.symm e] using h)
theorem bump_max : ∀ (l : List Int) (made : List Nat) (k m : Nat), l.Nodup → (∀ v ∈ l, 0 ≤ v) → made.getD k 0 ≤ m → (bump made l).getD k 0 ≤ m + 1
 | [], _, _, _, _, _, h => by rw [bump]; omega
 | v :: l, made, k, m, hn, hp, h => by
  rw [bump]
  have hn' := List.nodup_cons.1 hn
  by_cases e : v.toNat = k
  · have hv := hp v ZS
    rw [bump_out l _ k fun u hu e2 => hn'.1 (by
     have := hp u (by simp [hu])
     have : u = v := by omega
     rwa [this] at hu)]
    subst e
    by_cases hk : v.toNat < made.length
    · simp [List.getD_eq_getElem?_getD, List.getElem?_set_self hk] at h ⊢
      omega
    · have h0 : (made.set v.toNat (made.getD v.toNat 0 + 1)).getD v.toNat 0 = 0 := by
       rw [List.getD_eq_getElem?_getD, List.getElem?_eq_none ZX]
       rfl
      omega
  · refine bump_max l _ k m hn'.2 (fun u hu => hp u (by simp [hu])) ?_
    simpa [List.getD_eq_getElem?_getD, List.getElem?_set_ne e] using h
theorem pairs_mem : ∀ {fs l : List Int} {b a : Int}, a ∈ pairsAt fs l b → ∃ j, j < fs.length ∧ j < l.length ∧ ith fs j = b ∧ ith l j = a
 | f :: fs, x :: l, b, a, h => by
  unfold pairsAt at h
  have next : a ∈ pairsAt fs l b → ∃ j, j < (f :: fs).length ∧ j < (x :: l).length ∧ ith (f :: fs) j = b ∧ ith (x :: l) j = a := fun h => by
   obtain ⟨j, h1, h2, h3, h4⟩ := pairs_mem h
   exact ⟨j + 1, by simpa using h1, by simpa using h2, by simpa [ith] using h3, by simpa [ith] using h4⟩
  split at h
  · rename_i e
    rcases List.mem_cons.1 h with rfl | h
    · exact ⟨0, ZS, ZS, by simpa [ith] using e, by simp [ith]⟩
    · exact next h
  · exact next h
 | [], _, _, _, h => by simp [pairsAt] at h
 | _ :: _, [], _, _, h => by simp [pairsAt] at h
section
variable {F : PFunc} {s : RSt} {made : List Nat} {b c m v : Nat} {a : Int}
theorem EN_ne0 (hT : typedP F = true) (hb : b < F.blocks.length) : 0 ∉ EN F b := by
 intro h
 have h1 := (EN_leads hT hb).1 h
 have h2 : blkT F (F.blk b) = true := by
  unfold typedP at hT
  simp only [Bool.and_eq_true] at hT
  exact List.all_eq_true.1 hT.2 _ (mem_of_blk hb)
 unfold blkT at h2
 simp only [Bool.and_eq_true] at h2
 have h3 := h2.2
 unfold leads at h1
 unfold termT at h3
 have h1 := of_decide_eq_true h1
 rcases h1 with ⟨e0, e1⟩ | ⟨e0, e1⟩
 · rw [if_pos e0, e1] at h3
   simp at h3
 · rw [if_neg ZO, if_pos e0] at h3
   simp only [Bool.and_eq_true, bne_iff_ne, ne_eq] at h3
   rcases e1 with e1 | e1 <;> simp [e1] at h3
theorem joined_first (hT : typedP F = true) (hj : joinedB F = true) : (F.blk 0).phis = [] := by
 obtain ⟨n1, -⟩ := shaped_count (typed_shaped hT)
 have hn0 : 0 < F.blocks.length := by omega
 cases hp : (F.blk 0).phis with
 | nil => rfl
 | cons p r =>
  exfalso
  have hm : p ∈ (F.blk 0).phis := by rw [hp]; simp
  unfold joinedB at hj
  have h1 := List.all_eq_true.1 (List.all_eq_true.1 hj 0 (by simpa using hn0)) p hm
  unfold joinPhi at h1
  have h1 := of_decide_eq_true h1
  rw [PR_row hT hn0] at h1
  have h2 : PR F 0 = [] := by
   rw [List.eq_nil_iff_forall_not_mem]
   intro x hx
   obtain ⟨h3, h4⟩ := (mem_PR hT).1 hx
   exact EN_ne0 hT h3 h4
  rw [h2] at h1
  have h3 : p.froms.length = 0 := by rw [← sortI_len, h1]; rfl
  have h4 := (shaped_blk (typed_shaped hT) hn0).1 p hm
  unfold phiB at h4
  simp only [Bool.and_eq_true, decide_eq_true_eq] at h4
  omega
theorem ev_mem : ∀ {n : Nat} {e : Ev}, e ∈ evs F n → e.blk < n ∧ ((e.pos = -1 ∧ ∃ k, k < (F.blk e.blk).phis.length ∧ e.dst = ((F.blk e.blk).phi k).dst) ∨ ∃ k : Nat, k < (F.blk e.blk).insts.length ∧ e.pos = k ∧ e.dst = ((F.blk e.blk).inst k).dst)
 | 0, _, h => by simp [evs] at h
 | n + 1, e, h => by
  rw [evs, List.mem_append] at h
  rcases h with h | h
  · obtain ⟨h1, h2⟩ := ev_mem h
    exact ⟨ZO, h2⟩
  · unfold evBlk evPhi evIns at h
    rw [List.mem_append, List.mem_map, List.mem_map] at h
    rcases h with ⟨k, hk, rfl⟩ | ⟨k, hk, rfl⟩
    · exact ⟨Nat.lt_succ_self n, .inl ⟨rfl, k, by simpa using hk, rfl⟩⟩
    · exact ⟨Nat.lt_succ_self n, .inr ⟨k, by simpa using hk, rfl, rfl⟩⟩
theorem maker_ev {v : Int} (h : makerF F v = ((m : Int), a)) : ∃ e ∈ evF F, e.dst = v ∧ e.blk = m ∧ e.pos = a := by
 unfold makerF at h
 cases hm : mkOf (evF F) v with
 | nil =>
  rw [hm, makerOf_nil, Prod.mk.injEq] at h
  omega
 | cons p r =>
  rw [hm, makerOf_cons] at h
  have hp : p ∈ mkOf (evF F) v := by rw [hm]; simp
  unfold mkOf at hp
  rw [List.mem_map] at hp
  obtain ⟨e, he, rfl⟩ := hp
  rw [List.mem_filter] at he
  unfold plc at h
  rw [Prod.mk.injEq] at h
  exact ⟨e, he.1, by simpa using he.2, ZO, h.2⟩
theorem maker_at {v : Int} (h : makerF F v = ((m : Int), a)) : m < F.blocks.length ∧ ((a = -1 ∧ ∃ k, k < (F.blk m).phis.length ∧ ((F.blk m).phi k).dst = v) ∨ ∃ k : Nat, k < (F.blk m).insts.length ∧ a = k ∧ ((F.blk m).inst k).dst = v) := by
 obtain ⟨e, he, h1, rfl, rfl⟩ := maker_ev h
 obtain ⟨h2, h3⟩ := ev_mem he
 refine ⟨h2, ?_⟩
 rcases h3 with ⟨h3, k, hk, h4⟩ | ⟨k, hk, h3, h4⟩
 · exact .inl ⟨h3, k, hk, h4.symm.trans h1⟩
 · exact .inr ⟨k, hk, h3, h4.symm.trans h1⟩
theorem once_len (ho : onceB F = true) (hv : v < F.vars.length) : (mkOf (evF F) (v : Int)).length ≤ 1 := by
 unfold onceB at ho
 have := List.all_eq_true.1 ho v (by simpa using hv)
 unfold onceAt at this
 simp only [Bool.not_eq_true', Bool.or_eq_false_iff, decide_eq_false_iff_not] at this
 omega
theorem once_split (ho : onceB F = true) (hv : v < F.vars.length) {l r : List Ev} {e : Ev} (h : evF F = l ++ e :: r) (he : e.dst = (v : Int)) : mkOf l (v : Int) = [] ∧ makerF F (v : Int) = plc e := by
 have h1 := once_len ho hv
 rw [h, mkOf_app, show e :: r = [e] ++ r from rfl, mkOf_app, mkOf_one, if_pos he] at h1
 simp only [List.length_append, List.length_cons, List.length_nil] at h1
 have h2 : mkOf l (v : Int) = [] := List.eq_nil_of_length_eq_zero ZO
 exact ⟨h2, maker_hit h h2 he⟩
theorem mk_phi (ho : onceB F = true) (hc : c < F.blocks.length) {k : Nat} (hk : k < (F.blk c).phis.length) (hv : v < F.vars.length) (h : ((F.blk c).phi k).dst = (v : Int)) : makerF F (v : Int) = ((c : Int), -1) ∧ ∀ j, j < k → ((F.blk c).phi j).dst ≠ (v : Int) := by
 obtain ⟨r, hr⟩ := evF_phi hc hk
 obtain ⟨h1, h2⟩ := once_split ho hv hr h
 refine ⟨h2, fun j hj e => ?_⟩
 rw [mkOf_app] at h1
 have h3 := (List.append_eq_nil_iff.1 h1).2
 unfold mkOf at h3
 rw [List.map_eq_nil_iff, List.filter_eq_nil_iff] at h3
 exact h3 ⟨((F.blk c).phi j).dst, c, -1⟩ (List.mem_map.2 ⟨j, by simpa using hj, rfl⟩) (by simpa using e)
theorem mk_inst (ho : onceB F = true) (hc : c < F.blocks.length) {k : Nat} (hk : k < (F.blk c).insts.length) (hv : v < F.vars.length) (h : ((F.blk c).inst k).dst = (v : Int)) : makerF F (v : Int) = ((c : Int), (k : Int)) := by
 obtain ⟨r, hr⟩ := evF_ins hc hk
 exact (once_split ho hv hr h).2
theorem single_parts (h : singleB F = true) : joinedB F = true ∧ onceB F = true ∧ ∀ i, i < F.blocks.length → behindB F (tabB F) i = true := by
 unfold singleB at h
 simp only [Bool.and_eq_true] at h
 exact ⟨h.1.1.1, h.1.2, fun i hi => List.all_eq_true.1 h.2 i (by simpa using hi)⟩
structure MadeI (F : PFunc) (made : List Nat) (s : RSt) : Prop where
 len : made.length = F.vars.length
 mem : s.block ∈ OR F
 zero : ∀ (v m : Nat) (a : Int), v < F.vars.length → makerF F (v : Int) = ((m : Int), a) → made.getD v 0 = 0 → (m ≠ s.block ∧ Avoid (fun x y => x ∈ PR F y) m s.block) ∨ (m = s.block ∧ (s.pc : Int) ≤ a)
 more : ∀ (v m : Nat) (a : Int), v < F.vars.length → makerF F (v : Int) = ((m : Int), a) → made.getD v 0 ≠ 0 → (m = s.block ∧ a < (s.pc : Int)) ∨ Plus (RF F (-1)) m s.block
theorem MadeI.start (hT : typedP F = true) (hS : singleB F = true) (h0 : s.block = 0) (hp : s.pc = 0) : MadeI F (List.replicate F.vars.length 0) s := by
 refine ⟨ZS, by rw [h0]; exact runOR0 hT, fun v m a hv hm _ => ?_, fun v m a hv hm h => absurd (by simp [List.getD_eq_getElem?_getD, hv]) h⟩
 rw [h0, hp]
 by_cases e : m = 0
 · subst e
   right
   refine ⟨rfl, ?_⟩
   obtain ⟨-, ⟨-, k, hk, -⟩ | ⟨k, -, rfl, -⟩⟩ := maker_at hm
   · rw [joined_first hT (single_parts hS).1] at hk
     simp at hk
   · exact ZS
 · exact .inl ⟨e, .start e⟩
theorem ahead_made (h : MadeI F made s) {x : Int} (hx : 0 ≤ x ∧ x < F.vars.length) (ha : aheadV F (tabB F) x s.block (s.pc : Int) = true) : ∃ k : Nat, x = k ∧ k < F.vars.length ∧ ((makerF F (k : Int)).1 < 0 ∨ made.getD k 0 ≠ 0) := by
 obtain ⟨k, rfl⟩ := Int.eq_ofNat_of_zero_le hx.1
 refine ⟨k, rfl, ZO, ?_⟩
 rcases makerF_blk (F := F) (v := (k : Int)) with h1 | ⟨m, -, h1⟩
 · exact .inl ZO
 · right
   intro h0
   have h2 := h.zero k m (makerF F (k : Int)).2 ZO (by rw [← h1]) h0
   unfold aheadV aheadB at ha
   rw [h1, if_neg ZO] at ha
   rcases h2 with ⟨h2, h3⟩ | ⟨h2, h3⟩
   · rw [if_neg ZO, Int.toNat_natCast] at ha
     obtain ⟨-, -, h4⟩ := tabB_iff.1 ha
     rcases h4 with h4 | h4
     · exact h2 h4
     · exact h4 h3
   · rw [if_pos (by rw [h2])] at ha
     have := of_decide_eq_true ha
     omega
theorem takes_made (hT : typedP F = true) (hS : singleB F = true) (hI : RInv F s) (h : MadeI F made s) : ∀ x ∈ takesR F s, ∃ k : Nat, x = k ∧ k < F.vars.length ∧ ((makerF F (k : Int)).1 < 0 ∨ made.getD k 0 ≠ 0) := by
 intro x hx
 obtain ⟨-, -, hbe⟩ := single_parts hS
 have hb := hbe _ hI.blk
 unfold behindB at hb
 simp only [Bool.and_eq_true] at hb
 unfold takesR at hx
 by_cases h1 : s.pc < (F.blk s.block).insts.length
 · rw [if_pos h1] at hx
   have h2 := List.all_eq_true.1 hb.1.2 s.pc (by simpa using h1)
   unfold instBe at h2
   obtain ⟨j, hj, rfl⟩ := List.getElem_of_mem hx
   have h3 := (typed_inst hT hI.blk h1).2 j hj
   rw [show ith ((F.blk s.block).inst s.pc).args j = ((F.blk s.block).inst s.pc).args[j] by simp [ith, List.getD_eq_getElem?_getD, hj]] at h3
   exact ahead_made h h3 (List.all_eq_true.1 h2 _ hx)
 · rw [if_neg h1, List.mem_append] at hx
   have hpc : s.pc = (F.blk s.block).insts.length := by have := hI.pc; omega
   rcases hx with hx | hx
   · split at hx
     · simp at hx
     · rename_i e0
       simp only [List.mem_cons, List.not_mem_nil, or_false] at hx
       subst hx
       have h2 := hb.2
       unfold termBe at h2
       rw [decide_eq_false e0, Bool.false_or, ← hpc] at h2
       exact ahead_made h (typed_term hT hI.blk e0) h2
   · split at hx
     · simp at hx
     · rename_i e0
       rcases step_pos hT hI with ⟨-, h2, -⟩ | ⟨c, hc, h2, -⟩
       · rw [h2] at e0
         exact absurd ZD e0
       · rw [h2, Int.toNat_natCast] at hx
         have hcl := EN_lt hT hI.blk c hc
         unfold takesP at hx
         rw [List.mem_flatMap] at hx
         obtain ⟨p, hp, hx⟩ := hx
         obtain ⟨k, hk, rfl⟩ := List.getElem_of_mem hp
         have e : (F.blk c).phi k = (F.blk c).phis[k] := by rw [PBlock.phi, getD_get hk]
         obtain ⟨j, hj1, hj2, hj3, hj4⟩ := pairs_mem hx
         have hbc := hbe c hcl
         unfold behindB at hbc
         simp only [Bool.and_eq_true] at hbc
         have h3 := List.all_eq_true.1 hbc.1.1 _ hp
         unfold phiBe at h3
         have h4 := List.all_eq_true.1 h3 j (by simpa using hj2)
         unfold pairOk at h4
         rw [hj3, hj4, Int.toNat_natCast, ← hpc] at h4
         have h5 := (typed_phi hT hcl hk).2.2
         rw [e] at h5
         have h6 := h5 j hj2
         rw [hj4] at h6
         exact ahead_made h h6 h4
theorem phi_of {x : Int} (hx : x ∈ (F.blk c).phis.map (·.dst)) : ∃ k, k < (F.blk c).phis.length ∧ ((F.blk c).phi k).dst = x := by
 obtain ⟨p, hp, rfl⟩ := List.mem_map.1 hx
 obtain ⟨k, hk, rfl⟩ := List.getElem_of_mem hp
 exact ⟨k, hk, by rw [PBlock.phi, getD_get hk]⟩
theorem phi_in {k : Nat} (hk : k < (F.blk c).phis.length) : ((F.blk c).phi k).dst ∈ (F.blk c).phis.map (·.dst) := List.mem_map.2 ⟨_, mem_of_Phi hk, rfl⟩
theorem makes_ok (hT : typedP F = true) (hS : singleB F = true) (hI : RInv F s) : (∀ x ∈ makesR F s, 0 ≤ x ∧ x < F.vars.length) ∧ (makesR F s).Nodup := by
 obtain ⟨-, ho, -⟩ := single_parts hS
 unfold makesR
 by_cases h1 : s.pc < (F.blk s.block).insts.length
 · rw [if_pos h1]
   split
   · rename_i e
     refine ⟨fun x hx => ?_, ZS⟩
     simp only [List.mem_cons, List.not_mem_nil, or_false] at hx
     subst hx
     rcases (typed_inst hT hI.blk h1).1 with h2 | h2
     · exact ZO
     · exact h2
   · exact ⟨fun x hx => by simp at hx, ZS⟩
 · rw [if_neg h1]
   rcases step_pos hT hI with ⟨-, h2, -⟩ | ⟨c, hc, h2, -⟩
   · rw [h2, if_pos ZD]
     exact ⟨fun x hx => by simp at hx, ZS⟩
   · rw [h2, if_neg ZO, Int.toNat_natCast]
     have hcl := EN_lt hT hI.blk c hc
     refine ⟨fun x hx => ?_, ?_⟩
     · obtain ⟨k, hk, rfl⟩ := phi_of hx
       exact (typed_phi hT hcl hk).2.1
     · refine List.pairwise_iff_getElem.2 fun i j hi hj hij e => ?_
       have hi' : i < (F.blk c).phis.length := by simpa using hi
       have hj' : j < (F.blk c).phis.length := by simpa using hj
       have ei : ((F.blk c).phis.map (·.dst))[i] = ((F.blk c).phi i).dst := by simp [PBlock.phi, List.getD_eq_getElem?_getD, hi']
       have ej : ((F.blk c).phis.map (·.dst))[j] = ((F.blk c).phi j).dst := by simp [PBlock.phi, List.getD_eq_getElem?_getD, hj']
       rw [ei, ej] at e
       obtain ⟨h3, h4⟩ := (typed_phi hT hcl hj').2.1
       obtain ⟨v, hv⟩ := Int.eq_ofNat_of_zero_le h3
       exact (mk_phi ho hcl hj' (v := v) ZO hv).2 i hij (e.trans hv)
theorem RF_of (hT : typedP F = true) (hb : b < F.blocks.length) (hc : c ∈ EN F b) : RF F (-1) b c :=
 ⟨hb, EN_lt hT hb c hc, ZO, ZO, (EN_leads hT hb).1 hc⟩
theorem makes_twice (hT : typedP F = true) (hS : singleB F = true) (hI : RInv F s) (h : MadeI F made s) : ∀ v : Nat, (v : Int) ∈ makesR F s → ∃ (m : Nat) (a : Int), makerF F (v : Int) = ((m : Int), a) ∧ m < F.blocks.length ∧ (made.getD v 0 ≠ 0 → Plus (RF F (-1)) m m) := by
 intro v hv
 obtain ⟨-, ho, -⟩ := single_parts hS
 have hvl := ((makes_ok hT hS hI).1 _ hv).2
 have hvn : v < F.vars.length := by omega
 unfold makesR at hv
 by_cases h1 : s.pc < (F.blk s.block).insts.length
 · rw [if_pos h1] at hv
   split at hv
   · simp only [List.mem_cons, List.not_mem_nil, or_false] at hv
     have hm := mk_inst ho hI.blk h1 hvn hv.symm
     refine ⟨s.block, s.pc, hm, hI.blk, fun h0 => ?_⟩
     rcases h.more v _ _ hvn hm h0 with ⟨-, h2⟩ | h2
     · exact ZO
     · exact h2
   · simp at hv
 · rw [if_neg h1] at hv
   rcases step_pos hT hI with ⟨-, h2, -⟩ | ⟨c, hc, h2, -⟩
   · rw [h2, if_pos ZD] at hv
     simp at hv
   · rw [h2, if_neg ZO, Int.toNat_natCast] at hv
     have hcl := EN_lt hT hI.blk c hc
     obtain ⟨k, hk, hv⟩ := phi_of hv
     have hm := (mk_phi ho hcl hk hvn hv).1
     refine ⟨c, -1, hm, hcl, fun h0 => ?_⟩
     rcases h.more v _ _ hvn hm h0 with ⟨h3, -⟩ | h3
     · exact .one (by have := RF_of hT hI.blk hc; rwa [← h3] at this)
     · exact .more h3 (RF_of hT hI.blk hc)
theorem MadeI.step (hT : typedP F = true) (hS : singleB F = true) (hI : RInv F s) (h : MadeI F made s) : MadeI F (bump made (makesR F s)) (stepR F s) := by
 obtain ⟨-, ho, -⟩ := single_parts hS
 obtain ⟨hmk, -⟩ := makes_ok hT hS hI
 have hz : ∀ v : Nat, v < F.vars.length → (bump made (makesR F s)).getD v 0 = 0 → (v : Int) ∉ makesR F s ∧ made.getD v 0 = 0 := fun v hv h0 => by
  refine ⟨fun hm => ?_, ?_⟩
  · have := bump_in (makesR F s) made v (by rw [h.len]; exact hv) hm
    omega
  · have := bump_le (makesR F s) made v
    omega
 have hnz : ∀ v : Nat, (bump made (makesR F s)).getD v 0 ≠ 0 → (v : Int) ∈ makesR F s ∨ made.getD v 0 ≠ 0 := fun v h0 => by
  by_cases hm : (v : Int) ∈ makesR F s
  · exact .inl hm
  · right
    rwa [bump_out _ _ _ fun u hu e => hm (by
     have := (hmk u hu).1
     rw [show (v : Int) = u from ZO]
     exact hu)] at h0
 by_cases h1 : s.pc < (F.blk s.block).insts.length
 · have hs := stepR_inst h1
   have hbl : (stepR F s).block = s.block := by rw [hs]; exact (instN_pos _ _ _).1
   have hpc : (stepR F s).pc = s.pc + 1 := by rw [hs]; exact (instN_pos _ _ _).2.1
   have hmr : makesR F s = if 0 ≤ ((F.blk s.block).inst s.pc).dst then [((F.blk s.block).inst s.pc).dst] else [] := by unfold makesR; rw [if_pos h1]
   refine ⟨by rw [bump_len]; exact h.len, by rw [hbl]; exact h.mem, fun v m a hv hm h0 => ?_, fun v m a hv hm h0 => ?_⟩
   · rw [hbl, hpc]
     obtain ⟨h2, h3⟩ := hz v hv h0
     rcases h.zero v m a hv hm h3 with h4 | ⟨h4, h5⟩
     · exact .inl h4
     · refine .inr ⟨h4, ?_⟩
       by_cases e : a = (s.pc : Int)
       · exfalso
         apply h2
         obtain ⟨-, ⟨h6, -⟩ | ⟨k, hk, h6, h7⟩⟩ := maker_at hm
         · exact ZO
         · rw [hmr]
           have : k = s.pc := by omega
           subst this
           rw [h4] at h7
           rw [h7, if_pos ZO]
           simp
       · exact ZO
   · rw [hbl, hpc]
     rcases hnz v h0 with h2 | h2
     · rw [hmr] at h2
       split at h2
       · simp only [List.mem_cons, List.not_mem_nil, or_false] at h2
         have := mk_inst ho hI.blk h1 hv h2.symm
         rw [hm, Prod.mk.injEq] at this
         exact .inl ⟨ZO, ZO⟩
       · simp at h2
     · rcases h.more v m a hv hm h2 with ⟨h4, h5⟩ | h4
       · exact .inl ⟨h4, ZO⟩
       · exact .inr h4
 · have hpcl : s.pc = (F.blk s.block).insts.length := by have := hI.pc; omega
   rcases step_pos hT hI with ⟨h2, hn, hbl⟩ | ⟨c, hc, hn, hs⟩
   · have hk := h2.resolve_left h1
     have hpc : (stepR F s).pc = s.pc := by
      unfold stepR
      dsimp only
      rw [if_neg h1, if_pos hk]
      rfl
     have hmr : makesR F s = [] := by unfold makesR; rw [if_neg h1, hn, if_pos ZD]
     rw [hmr, bump]
     exact ⟨h.len, by rw [hbl]; exact h.mem, by rw [hbl, hpc]; exact h.zero, by rw [hbl, hpc]; exact h.more⟩
   · obtain ⟨hbl, hpc⟩ := enterR_pos F c { s with steps := wrap64 (s.steps + 1) }
     rw [← hs] at hbl hpc
     have hmr : makesR F s = (F.blk c).phis.map (·.dst) := by unfold makesR; rw [if_neg h1, hn, if_neg ZO, Int.toNat_natCast]
     have hcl := EN_lt hT hI.blk c hc
     refine ⟨by rw [bump_len]; exact h.len, by rw [hbl]; exact runORs hT h.mem hc, fun v m a hv hm h0 => ?_, fun v m a hv hm h0 => ?_⟩
     · rw [hbl, hpc]
       obtain ⟨h2, h3⟩ := hz v hv h0
       have hat := maker_at hm
       have hav : m ≠ s.block ∧ Avoid (fun x y => x ∈ PR F y) m s.block := by
        rcases h.zero v m a hv hm h3 with h4 | ⟨h4, h5⟩
        · exact h4
        · exfalso
          obtain ⟨-, ⟨h6, -⟩ | ⟨k, hk, h6, -⟩⟩ := hat
          · exact ZO
          · rw [h4] at hk
            omega
       by_cases e : m = c
       · subst e
         refine .inr ⟨rfl, ?_⟩
         obtain ⟨-, ⟨h6, k, hk, h7⟩ | ⟨k, hk, h6, -⟩⟩ := hat
         · exfalso
           apply h2
           rw [hmr, ← h7]
           exact phi_in hk
         · exact ZO
       · exact .inl ⟨e, .step hav.2 ((mem_PR hT).2 ⟨hI.blk, hc⟩) (fun e2 => e e2.symm)⟩
     · rw [hbl, hpc]
       rcases hnz v h0 with h2 | h2
       · rw [hmr] at h2
         obtain ⟨k, hk, h3⟩ := phi_of h2
         have := (mk_phi ho hcl hk hv h3).1
         rw [hm, Prod.mk.injEq] at this
         exact .inl ⟨ZO, ZO⟩
       · right
         rcases h.more v m a hv hm h2 with ⟨h4, h5⟩ | h4
         · subst h4
           exact .one (RF_of hT hI.blk hc)
         · exact .more h4 (RF_of hT hI.blk hc)
end
end Go.Proofs.YthhpbkfngcflcaaGreatDoor
