/- The plain law of a loop: the blocks of a head's loop, backward from its latches. No program's code in sight. The plain law of reducible programs: each step that doesn't go on leads to a block above just if what is led to by latches alone can be taken away till nothing is left. No program's code in sight. The plain laws of loops: what stands above what, as ways; the blocks of a loop as the document has them; two loops are one in the other, or apart. No program's code in sight. -/
import Derived.Test.YthhpbkfngcflcaaGreatDoorNew
import Derived.Test.YthhpbkfngcflcaaGreatDoorTyped
namespace Go.Proofs.YthhpbkfngcflcaaGreatDoor
open Go.RowKit
set_option maxRecDepth 100000
noncomputable def latL (F : PFunc) (h : Nat) : List Nat := (PR F h).filter fun p => tabB F h p
def lpE (F : PFunc) (ls : List Nat) (h x y : Nat) : Prop := x = h ∧ y ∈ ls ∨ x ≠ h ∧ y ∈ PR F x
def lpR (F : PFunc) (ls : List Nat) (h x y : Nat) : Prop := lpE F ls h x y ∧ y ∈ OR F ∧ y ≠ h
open Classical in
noncomputable def lpL (F : PFunc) (ls : List Nat) (h : Nat) : List Bool := (List.range F.blocks.length).map fun x => decide (x = h ∨ Plus (lpR F ls h) h x)
section
variable {F : PFunc} {ls : List Nat} {h b : Nat} {t : List Bool} {l : List Nat}
theorem lpL_len : (lpL F ls h).length = F.blocks.length := by simp [lpL]
theorem lpL_at {x : Nat} (hx : x < F.blocks.length) : (lpL F ls h).getD x false = true ↔ x = h ∨ Plus (lpR F ls h) h x := by simp [lpL, List.getD, hx]
structure LpInv (F : PFunc) (ls : List Nat) (h : Nat) (t : List Bool) (l : List Nat) : Prop where
 len : t.length = F.blocks.length
 hd : t.getD h false = true
 snd : ∀ x, t.getD x false = true → x = h ∨ Plus (lpR F ls h) h x
 stk : ∀ y ∈ l, ∃ x, t.getD x false = true ∧ lpE F ls h x y
 clo : ∀ x y, t.getD x false = true → lpR F ls h x y → t.getD y false = true ∨ y ∈ l
theorem getD_set {n c v : Nat} {l : List Bool} (hl : l.length = n) (hc : c < n) : (l.set c true).getD v false = true ↔ v = c ∨ l.getD v false = true := getD_set_true ZO
theorem LpInv.start (hh : h < F.blocks.length) : LpInv F ls h ((List.replicate F.blocks.length false).set h true) ls := by
 have key : ∀ x, ((List.replicate F.blocks.length false).set h true).getD x false = true ↔ x = h := fun x => by
  rw [getD_set ZS hh]
  constructor
  · rintro (e | e)
    · exact e
    · rw [List.getD, List.getElem?_replicate] at e
      split at e <;> simp at e
  · exact .inl
 refine ⟨ZS, (key h).2 rfl, fun x hx => .inl ((key x).1 hx), fun y hy => ⟨h, (key h).2 rfl, .inl ⟨rfl, hy⟩⟩, fun x y hx hr => ?_⟩
 obtain rfl := (key x).1 hx
 rcases hr.1 with ⟨_, h2⟩ | ⟨h1, _⟩
 · exact .inr h2
 · exact absurd rfl h1
theorem LpInv.old (hi : LpInv F ls h t (l ++ [b])) (hb : t.getD b false = true ∨ b ∉ OR F) : LpInv F ls h t l := by
 refine ⟨hi.len, hi.hd, hi.snd, fun y hy => hi.stk y (by simp [hy]), fun x y hx hr => ?_⟩
 rcases hi.clo x y hx hr with e | e
 · exact .inl e
 · rcases List.mem_append.1 e with e | e
   · exact .inr e
   · simp at e
     subst e
     rcases hb with hb | hb
     · exact .inl hb
     · exact absurd hr.2.1 hb
theorem LpInv.new (hi : LpInv F ls h t (l ++ [b])) (hb : t.getD b false = false) (hO : b ∈ OR F) (hn : b < F.blocks.length) : LpInv F ls h (t.set b true) (l ++ PR F b) := by
 have hg := fun v => getD_set (v := v) hi.len hn
 have hbh : b ≠ h := fun e => by rw [e, hi.hd] at hb; cases hb
 refine ⟨by rw [List.length_set, hi.len], (hg h).2 (.inr hi.hd), fun x hx => ?_, fun y hy => ?_, fun x y hx hr => ?_⟩
 · rcases (hg x).1 hx with rfl | e
   · obtain ⟨x', h1, h2⟩ := hi.stk x ZS
     have hR : lpR F ls h x' x := ⟨h2, hO, hbh⟩
     rcases hi.snd x' h1 with rfl | hp
     · exact .inr (.one hR)
     · exact .inr (.more hp hR)
   · exact hi.snd x e
 · rcases List.mem_append.1 hy with hy | hy
   · obtain ⟨x', h1, h2⟩ := hi.stk y (by simp [hy])
     exact ⟨x', (hg x').2 (.inr h1), h2⟩
   · exact ⟨b, (hg b).2 (.inl rfl), .inr ⟨hbh, hy⟩⟩
 · rcases (hg x).1 hx with rfl | e
   · rcases hr.1 with ⟨e, _⟩ | ⟨_, h2⟩
     · exact absurd e hbh
     · exact .inr (by simp [h2])
   · rcases hi.clo x y e hr with e | e
     · exact .inl ((hg y).2 (.inr e))
     · rcases List.mem_append.1 e with e | e
       · exact .inr (by simp [e])
       · simp at e
         exact .inl ((hg y).2 (.inl e))
theorem LpInv.fin (hi : LpInv F ls h t []) : t = lpL F ls h := by
 refine bools_ext (by rw [hi.len, lpL_len]) fun x hx => ?_
 rw [lpL_at (by rw [← hi.len]; exact hx)]
 constructor
 · exact hi.snd x
 · have key : ∀ {y}, Plus (lpR F ls h) h y → t.getD y false = true := fun {y} hp => by
    induction hp with
    | one hr => exact (hi.clo _ _ hi.hd hr).resolve_right ZS
    | more _ hr ih => exact (hi.clo _ _ ih hr).resolve_right ZS
   rintro (rfl | hp)
   · exact hi.hd
   · exact key hp
theorem LpInv.mem (hi : LpInv F ls h t (l ++ [b])) (hT : typedP F = true) (hls : ∀ x ∈ ls, x < F.blocks.length) : b < F.blocks.length := by
 obtain ⟨x, h1, h2⟩ := hi.stk b ZS
 rcases h2 with ⟨_, h2⟩ | ⟨_, h2⟩
 · exact hls b h2
 · exact ((mem_PR hT).1 h2).1
theorem PR_le {F : PFunc} {b : Nat} : (PR F b).length ≤ F.blocks.length := predRow_le _
end
theorem run_append_ints {P : Program} (w : World) {t ty : TypeId} (base : Nat) (e : TypeId) (ht : P.underlying t = some (.slice e)) {z : Value} (hinf : (P.info? e).map (fun i => (i.zero, i.size, i.bytes)) = some (some z, 1, 8)) (hz1 : z.cells.size = 1)
 (v : Value) (n : Nat) (xs : List Int) (hown : w.ownsRow base e 1 v n (xs.map (Value.int .i64))) {B : Nat} {A : Option Addr} {ys : List Int} {c : Nat} (hr : Rd B A ys 1 (IntC w)) (h63 : n + ys.length ≤ 1048576) (hbase : base ≤ w.heap.size) :
 ∃ v' w', (Builtin.append_ #[t, t] ty #[v, .slice A ys.length c]).run P w = .ok v' w' ∧ w'.ownsRow base e 1 v' (n + ys.length) ((xs ++ ys).map (Value.int .i64)) ∧ w.grownBy w' v.ownBlock := by
 obtain ⟨i, hi, hz, hsz, hb⟩ := info_parts hinf
 rcases A with _ | ad
 · have hy : ys = [] := by
    cases ys with
    | nil => rfl
    | cons y r => obtain ⟨b, off, he, -⟩ := hr 0 y rfl; cases he
   subst hy
   refine ⟨v, w, ?_, by simpa using hown, World.grownBy.refl w _⟩
   rcases hown.2 with ⟨rfl, rfl⟩ | ⟨g, cap, cur, rfl, _, _, hnc, _⟩
   · simp [Builtin.append_, run_underlying ht, sizeOf, typeInfo, hi, Builtin.lenOf, Builtin.firstCells]
   · simp [Builtin.append_, run_underlying ht, sizeOf, typeInfo, hi, Builtin.lenOf, Builtin.firstCells, hnc, storeCells]
 · have hcells : ∀ j u, (ys.map (Value.int .i64))[j]? = some u → w.cell? (ad.add j) = some u := fun j u hu => by
    have hj : j < ys.length := by have := (List.getElem?_eq_some_iff.1 hu).1; simpa using this
    obtain ⟨b, off, he, hbl, hc⟩ := hr j _ (ith_get hj)
    cases he
    rw [Addr.add_lit]
    rw [List.getElem?_map, ith_get hj] at hu
    simp only [Option.map_some, Option.some.injEq] at hu
    rw [← hu]
    unfold IntC at hc
    simpa using hc
   obtain ⟨v', w', hrun, h2, h3, -, -⟩ := run_append_own_at (P := P) w base t ty e i z 1 8 ht hi hz hsz hb hz1 ZD v n _ hown ad ys.length c (ys.map (Value.int .i64)) ZS hcells (fun u hu => by obtain ⟨x, -, rfl⟩ := List.mem_map.1 hu; rfl) (by unfold maxLen; omega) ZO hbase
   exact ⟨v', w', hrun, by simpa using h2, h3⟩
theorem own_popL {w : World} {base e g cap m : Nat} {xs : List Value} {u : Value} (h : w.ownsRow base e 1 (.slice (some ⟨g, 0, none⟩) (m + 1) cap) (m + 1) (xs ++ [u])) :
 w.ownsRow base e 1 (.slice (some ⟨g, 0, none⟩) m cap) m xs := by
 obtain ⟨h1, h2⟩ := h
 have hm : xs.length = m := by simp at h1; omega
 rcases h2 with ⟨h0, _⟩ | ⟨g', cap', cur, hv, hg, hh, hn, hcap, hsz, htake⟩
 · cases h0
 · cases hv
   refine ⟨ZO, .inr ⟨g, cap, cur, rfl, hg, hh, ZO, hcap, hsz, ?_⟩⟩
   have h3 : (cur.toList.take ((m + 1) * 1)).take (m * 1) = (xs ++ [u]).take (m * 1) := by rw [htake]
   rw [List.take_take, Nat.min_eq_left ZO] at h3
   rw [h3, ← hm]
   simp
end Go.Proofs.YthhpbkfngcflcaaGreatDoor
namespace Go.Proofs.YthhpbkfngcflcaaGreatDoor
set_option maxRecDepth 100000
noncomputable def redE (F : PFunc) (b c : Nat) : Bool := !(decide (pz F.blocks.length (OR F) c ≤ pz F.blocks.length (OR F) b)) || tabB F c b
noncomputable def redB (F : PFunc) : Bool := (OR F).all fun b => (EN F b).all (redE F b)
def nlE (F : PFunc) (a b : Nat) : Prop := a ∈ OR F ∧ b ∈ EN F a ∧ tabB F b a = false
section
variable {F : PFunc} {b c v k : Nat} {r l out : List Nat} {seen g : List Bool}
theorem OR_zero (h : typedP F = true) : 0 ∈ OR F := by
 obtain ⟨r, hr⟩ := post_head h
 unfold OR
 rw [hr]
 simp
theorem OR_step (h : typedP F = true) (hb : b ∈ OR F) (hc : c ∈ EN F b) : c ∈ OR F := by
 unfold OR at *
 rw [List.mem_reverse] at *
 exact (post_fin h).clo b hb c hc
theorem chain_OR (h : typedP F = true) : ∀ {l : List Nat}, ChainOk (EN F) l → ∀ x ∈ l, x ∈ OR F
 | [], _, x, hx => by cases hx
 | [y], hc, x, hx => by
  have hy : y = 0 := hc
  simp only [List.mem_singleton] at hx
  rw [hx, hy]
  exact OR_zero h
 | c :: b :: r, hc, x, hx => by
  have ih := chain_OR h hc.2
  rcases List.mem_cons.1 hx with rfl | hx
  · exact OR_step h (ih b ZS) hc.1
  · exact ih x hx
theorem chain_avoid (h : typedP F = true) : ∀ {l : List Nat} {b : Nat}, ChainOk (EN F) (b :: l) → c ∉ b :: l → Avoid (fun x y => x ∈ PR F y) c b
 | [], b, hc, hn => by
  have hb : b = 0 := hc
  subst hb
  exact .start (fun e => hn (by rw [e]; simp))
 | b' :: r, b, hc, hn => by
  have ih := chain_avoid h (b := b') hc.2 (fun e => hn (List.mem_cons_of_mem _ e))
  have hb' := chain_OR h hc.2 b' ZS
  exact .step ih ((mem_PR h).2 ⟨(gr_of h).lt _ hb', hc.1⟩) (fun e => hn (by rw [e]; simp))
theorem chain_nl (h : typedP F = true) (hc : ChainOk (EN F) (c :: b :: r)) (hn : (c :: b :: r).Nodup) : nlE F b c := by
 refine ⟨chain_OR h hc.2 b ZS, hc.1, ?_⟩
 rw [← Bool.not_eq_true, tabB_iff]
 rintro ⟨_, _, h3⟩
 have hcn : c ∉ b :: r := (List.nodup_cons.1 hn).1
 rcases h3 with e | h3
 · exact hcn (by simp [e])
 · exact h3 (chain_avoid h hc.2 hcn)
theorem chain_plus (h : typedP F = true) : ∀ {r : List Nat} {b : Nat}, ChainOk (EN F) (b :: r) → (b :: r).Nodup → c ∈ b :: r → c = b ∨ Plus (nlE F) c b
 | [], b, _, _, hm => .inl (by simpa using hm)
 | b' :: r, b, hc, hn, hm => by
  rcases List.mem_cons.1 hm with e | hm
  · exact .inl e
  · have hnl := chain_nl h hc hn
    rcases chain_plus h hc.2 (List.nodup_cons.1 hn).2 hm with rfl | hp
    · exact .inr (.one hnl)
    · exact .inr (.more hp hnl)
def BackInv (F : PFunc) (out : List Nat) : Prop := ∀ v ∈ out, ∀ c ∈ EN F v, (∃ A B, out = A ++ v :: B ∧ c ∈ A) ∨ c = v ∨ Plus (nlE F) c v
theorem BackInv.pop {r : List (Nat × Nat)} (h : typedP F = true) (hi : DfsInv (EN F) F.blocks.length seen out ((b, k) :: r)) (hk : k = (EN F b).length) (hb : BackInv F out) : BackInv F (out ++ [b]) := by
 intro v hv c hc
 rcases List.mem_append.1 hv with hv | hv
 · rcases hb v hv c hc with ⟨A, B, rfl, hA⟩ | e | e
   · exact .inl ⟨A, B ++ [b], ZS, hA⟩
   · exact .inr (.inl e)
   · exact .inr (.inr e)
 · simp only [List.mem_singleton] at hv
   subst hv
   have hs := hi.pre (v, k) ZS c (by rw [hk, List.take_length]; exact hc)
   rcases (hi.mem c).1 hs with ho | hs
   · exact .inl ⟨out, [], rfl, ho⟩
   · exact .inr (chain_plus h hi.chn (List.nodup_append.1 hi.nod).2.1 hs)
theorem dfs_back (h : typedP F = true) (hE : ∀ v, (EN F v).length ≤ 2) (hl : ∀ v, v < F.blocks.length → ∀ c ∈ EN F v, c < F.blocks.length) : ∀ (f : Nat) (seen : List Bool) (out : List Nat) (stk : List (Nat × Nat)), DfsInv (EN F) F.blocks.length seen out stk → BackInv F out → BackInv F (dfs (EN F) f seen out stk)
 | 0, seen, out, stk, _, hb => hb
 | f + 1, seen, out, stk, hi, hb => by
  cases stk with
  | nil => exact hb
  | cons p r =>
   obtain ⟨b, k⟩ := p
   have hbn : b < F.blocks.length := by
    rw [← hi.len]
    exact getD_true_lt ((hi.mem b).2 (.inr ZS))
   by_cases hk : k = (EN F b).length
   · rw [dfs_pop hk]
     exact dfs_back h hE hl f _ _ _ (hi.pop hk) (hb.pop h hi hk)
   · have hle := hi.ple (b, k) ZS
     have hlt : k < (EN F b).length := by simp at hle; omega
     obtain ⟨c, hc⟩ : ∃ c, (EN F b).getD k 0 = c := ⟨_, rfl⟩
     have hcn : c < F.blocks.length := by
      refine hl b hbn c ?_
      have : (EN F b).getD k 0 = (EN F b)[k] := by simp [hlt]
      rw [← hc, this]
      exact List.getElem_mem hlt
     cases hs : seen.getD c false
     · rw [dfs_new hk hc hs]
       exact dfs_back h hE hl f _ _ _ (hi.new hk hc hs hcn) hb
     · rw [dfs_old hk hc hs]
       exact dfs_back h hE hl f _ _ _ (hi.old hk hc hs) hb
theorem back_post (h : typedP F = true) : BackInv F (postO F) :=
 dfs_back h (EN_len2 F) (fun _ hv => EN_lt h hv) _ _ _ _ (DfsInv.start (by have := shaped_count (typed_shaped h); omega)) (fun v hv => by cases hv)
theorem tab_self (hb : b ∈ OR F) : tabB F b b = true := tabB_iff.2 ⟨hb, hb, .inl rfl⟩
theorem plus_acc {R : Nat → Nat → Prop} {x : Nat} (ha : Acc R x) : Plus R x x → False := by
 have key : ∀ {a y : Nat}, Plus R a y → Relation.TransGen R a y := fun {a y} hp => by
  induction hp with
  | one h => exact .single h
  | more _ h ih => exact .tail ih h
 intro hp
 have ha' : Acc (Relation.TransGen R) x := ha.transGen
 have : ∀ z, Acc (Relation.TransGen R) z → ¬ Relation.TransGen R z z := fun z hz => by
  induction hz with
  | intro z _ ih => exact fun hz => ih z hz hz
 exact this x ha' (key hp)
theorem red_acc (h : typedP F = true) : redB F = true ↔ ∀ b ∈ OR F, Acc (nlE F) b := by
 have g := gr_of h
 unfold redB
 constructor
 · intro hr
   have key : ∀ n b, pz F.blocks.length (OR F) b < n → Acc (nlE F) b := fun n => by
    induction n with
    | zero => intro b hb; omega
    | succ n ih =>
     intro b hb
     refine ⟨_, fun a ⟨ha, hab, ht⟩ => ih a ?_⟩
     have h1 := List.all_eq_true.1 (List.all_eq_true.1 hr a ha) b hab
     rw [redE, ht, Bool.or_false, Bool.not_eq_true', decide_eq_false_iff_not] at h1
     omega
   exact fun b _ => key _ b (Nat.lt_succ_self _)
 · intro hA
   refine List.all_eq_true.2 fun b hb => List.all_eq_true.2 fun c hc => ?_
   rcases Bool.eq_false_or_eq_true (tabB F c b) with ht | ht
   · rw [redE, ht, Bool.or_true]
   rw [redE, ht, Bool.or_false, Bool.not_eq_true', decide_eq_false_iff_not]
   intro hle
   have hnl : nlE F b c := ⟨hb, hc, ht⟩
   have hbp : b ∈ postO F := by unfold OR at hb; rwa [List.mem_reverse] at hb
   rcases back_post h b hbp c hc with ⟨A, B, he, hcA⟩ | e | hp
   · obtain ⟨i, hi, rfl⟩ := List.mem_iff_getElem.1 (List.mem_reverse.2 hcA)
     have hO : OR F = B.reverse ++ b :: A.reverse := by unfold OR; rw [he]; simp
     have h1 := pz_idx g (i := B.reverse.length) (by rw [hO]; simp)
     have h2 := pz_idx g (i := B.reverse.length + (1 + i)) (by rw [hO]; simp at hi ⊢; omega)
     rw [show (OR F).getD B.reverse.length 0 = b by rw [hO]; simp [List.getD]] at h1
     rw [show (OR F).getD (B.reverse.length + (1 + i)) 0 = A.reverse[i] by rw [hO, List.getD, List.getElem?_append_right ZO, Nat.add_sub_cancel_left, Nat.add_comm, List.getElem?_cons_succ, List.getElem?_eq_getElem hi]; rfl] at h2
     omega
   · subst e
     rw [tab_self hb] at ht
     cases ht
   · exact plus_acc (hA c (OR_step h hb hc)) (.more hp hnl)
structure GoneI (F : PFunc) (g : List Bool) : Prop where
 len : g.length = F.blocks.length
 out : ∀ b, b < F.blocks.length → b ∉ OR F → g.getD b false = true
 acc : ∀ b ∈ OR F, g.getD b false = true → Acc (nlE F) b
noncomputable def freeK (F : PFunc) (g : List Bool) (b : Nat) : Nat → Bool
 | 0 => true
 | j + 1 => freeK F g b j && !(!g.getD j false && leads (F.blk j).term (b : Int) && !tabB F b j)
theorem freeK_iff {j : Nat} : freeK F g b j = true ↔ ∀ a, a < j → g.getD a false = false → leads (F.blk a).term (b : Int) = true → tabB F b a = true := by
 induction j with
 | zero => simp [freeK]
 | succ j ih =>
  unfold freeK
  rw [Bool.and_eq_true, ih]
  constructor
  · rintro ⟨h1, h2⟩ a ha hg hl
    rcases Nat.lt_succ_iff_lt_or_eq.1 ha with h | rfl
    · exact h1 a h hg hl
    · rw [hg, hl] at h2
      simpa using h2
  · intro hh
    refine ⟨fun a ha => hh a ZO, ?_⟩
    have := hh j (Nat.lt_succ_self _)
    cases h1 : g.getD j false
    · cases h2 : leads (F.blk j).term (b : Int)
      · rfl
      · rw [this h1 h2]
        rfl
    · rfl
theorem GoneI.take (h : typedP F = true) (hi : GoneI F g) (hb : b < F.blocks.length) (hf : freeK F g b F.blocks.length = true) : GoneI F (g.set b true) := by
 have hg := fun v => getD_set_true (v := v) (l := g) (c := b) (by rw [hi.len]; exact hb)
 refine ⟨by rw [List.length_set, hi.len], fun x hx ho => (hg x).2 (.inr (hi.out x hx ho)), fun x hx hgx => ?_⟩
 rcases (hg x).1 hgx with rfl | hgx
 · refine ⟨_, fun a ⟨ha, hab, ht⟩ => hi.acc a ha ?_⟩
   have han := (gr_of h).lt a ha
   rcases Bool.eq_false_or_eq_true (g.getD a false) with e | e
   · exact e
   · rw [freeK_iff.1 hf a han e ((EN_leads h han).1 hab)] at ht
     cases ht
 · exact hi.acc x hx hgx
theorem GoneI.fin (h : typedP F = true) (hi : GoneI F g) (hs : ∀ b, b < F.blocks.length → g.getD b false = true ∨ freeK F g b F.blocks.length = false) : (left g = 0) ↔ redB F = true := by
 rw [red_acc h]
 have hall : left g = 0 ↔ ∀ b, b < F.blocks.length → g.getD b false = true := by
  unfold left
  rw [List.count_eq_zero]
  constructor
  · intro hn b hb
    have hbl : b < g.length := by rw [hi.len]; exact hb
    rcases Bool.eq_false_or_eq_true (g.getD b false) with e | e
    · exact e
    · refine absurd ?_ hn
      rw [← e, getD_get hbl]
      exact List.getElem_mem hbl
  · intro ha hm
    obtain ⟨i, hil, he⟩ := List.mem_iff_getElem.1 hm
    have := ha i (by rw [← hi.len]; exact hil)
    rw [getD_get hil, he] at this
    cases this
 rw [hall]
 constructor
 · exact fun ha b hb => hi.acc b hb (ha b ((gr_of h).lt b hb))
 · intro hA b hb
   by_cases hbO : b ∈ OR F
   · have hacc := hA b hbO
     clear hbO
     induction hacc with
     | intro b _ ih =>
      rcases hs b hb with e | e
      · exact e
      · rw [← Bool.not_eq_true, freeK_iff] at e
        refine Classical.byContradiction fun hgb => e fun a ha hga hl => ?_
        rcases Bool.eq_false_or_eq_true (tabB F b a) with ht | ht
        · exact ht
        · have haO : a ∈ OR F := Classical.byContradiction fun hn => by rw [hi.out a ha hn] at hga; cases hga
          have := ih a ⟨haO, (EN_leads h ha).2 hl, ht⟩ ha
          rw [hga] at this
          cases this
   · exact hi.out b hb hbO
end
end Go.Proofs.YthhpbkfngcflcaaGreatDoor
namespace Go.Proofs.YthhpbkfngcflcaaGreatDoor
set_option maxRecDepth 100000
section
variable {F : PFunc} {a b c h x y z : Nat}
theorem mem_latL (ht : typedP F = true) : x ∈ latL F h ↔ x < F.blocks.length ∧ h ∈ EN F x ∧ tabB F h x = true := by
 unfold latL
 rw [List.mem_filter, mem_PR ht, and_assoc]
theorem Plus.cons {R : Nat → Nat → Prop} (h : R a b) (hp : Plus R b c) : Plus R a c := by
 induction hp with
 | one h2 => exact .more (.one h) h2
 | more _ h2 ih => exact .more ih h2
def inLp (F : PFunc) (h x : Nat) : Prop := x = h ∨ Plus (lpR F (latL F h) h) h x
theorem lpL_in (hx : x < F.blocks.length) : (lpL F (latL F h) h).getD x false = true ↔ inLp F h x := lpL_at hx
theorem plus_ne (hp : Plus (lpR F (latL F h) h) h x) : x ≠ h ∧ x ∈ OR F := by
 cases hp with
 | one hr => exact ⟨hr.2.2, hr.2.1⟩
 | more _ hr => exact ⟨hr.2.2, hr.2.1⟩
theorem RF_plus_OR (ht : typedP F = true) {r : Int} (hb : b ∈ OR F) (hp : Plus (RF F r) b x) : x ∈ OR F := by
 induction hp with
 | one hr => exact OR_step ht hb ((EN_leads ht hr.1).2 hr.2.2.2.2)
 | more _ hr ih => exact OR_step ht ih ((EN_leads ht hr.1).2 hr.2.2.2.2)
theorem plus_ref (ht : typedP F = true) (hb : b ∈ OR F) (hbh : b ≠ h) : Plus (lpR F (latL F h) h) h b ↔ ∃ x, x ∈ latL F h ∧ x ≠ h ∧ (x = b ∨ Plus (RF F (h : Int)) b x) := by
 constructor
 · intro hp
   induction hp with
   | one hr =>
    rcases hr.1 with ⟨_, h2⟩ | ⟨h1, _⟩
    · exact ⟨_, h2, hr.2.2, .inl rfl⟩
    · exact absurd rfl h1
   | @more z y hp hr ih =>
    obtain ⟨hzh, hzO⟩ := plus_ne hp
    rcases hr.1 with ⟨h1, _⟩ | ⟨_, h2⟩
    · exact absurd h1 hzh
    · obtain ⟨x, hx, hxh, hw⟩ := ih hzO hzh
      obtain ⟨hyn, hyz⟩ := (mem_PR ht).1 h2
      have hR : RF F (h : Int) y z := ⟨hyn, (gr_of ht).lt _ hzO, by have := hr.2.2; omega, ZO, (EN_leads ht hyn).1 hyz⟩
      refine ⟨x, hx, hxh, .inr ?_⟩
      rcases hw with rfl | hw
      · exact .one hR
      · exact .cons hR hw
 · rintro ⟨x, hx, hxh, hw⟩
   obtain ⟨hxn, hxe, hxt⟩ := (mem_latL ht).1 hx
   have h0 : Plus (lpR F (latL F h) h) h x := .one ⟨.inl ⟨rfl, hx⟩, (tabB_iff.1 hxt).2.1, hxh⟩
   rcases hw with rfl | hw
   · exact h0
   · have key : ∀ {z : Nat}, Plus (RF F (h : Int)) b z → Plus (lpR F (latL F h) h) h z → Plus (lpR F (latL F h) h) h b := fun {z} hz => by
      induction hz with
      | one hr => exact fun hp => .more hp ⟨.inr ⟨by have := hr.2.2.2.1; omega, (mem_PR ht).2 ⟨hr.1, (EN_leads ht hr.1).2 hr.2.2.2.2⟩⟩, hb, hbh⟩
      | more hz hr ih => exact fun hp => ih (.more hp ⟨.inr ⟨by have := hr.2.2.2.1; omega, (mem_PR ht).2 ⟨hr.1, (EN_leads ht hr.1).2 hr.2.2.2.2⟩⟩, RF_plus_OR ht hb hz, by have := hr.2.2.1; omega⟩)
     exact key hw h0
theorem plus_in_OR (ht : typedP F = true) (hp : Plus (RF F (-1)) 0 x) : x ∈ OR F := by
 unfold OR
 rw [List.mem_reverse]
 exact (post_plus ht).2 (.inr hp)
theorem avoid_before (ht : typedP F = true) (ha : a ≠ 0) : ∀ (n y : Nat), pl F.blocks.length (OR F) y ≤ n → y ∈ OR F → pl F.blocks.length (OR F) y < pl F.blocks.length (OR F) a → Avoid (fun x y => x ∈ PR F y) a y := fun n => by
 induction n with
 | zero =>
  intro y hy hO hl
  obtain ⟨i, hi, h1, h2⟩ := (gr_of ht).mem hO
  have := pl_idx (gr_of ht).nod (gr_of ht).lt hi
  rw [getD_get hi] at h1
  rw [h1] at this
  omega
 | succ n ih =>
  intro y hy hO hl
  by_cases h0 : y = 0
  · subst h0
    exact .start ha
  · obtain ⟨p, h1, h2, h3⟩ := (gr_of ht).fwd hO h0
    exact .step (ih p ZO h1 ZO) h2 (fun e => by rw [e] at hl; omega)
theorem tab_pl (ht : typedP F = true) (h : tabP F a b) (hne : a ≠ b) : pl F.blocks.length (OR F) a < pl F.blocks.length (OR F) b := by
 obtain ⟨h1, h2, h3⟩ := h
 have h3 := h3.resolve_left hne
 by_cases ha : a = 0
 · subst ha
   obtain ⟨r, hr⟩ := post_head ht
   have g := gr_of ht
   have e0 := g.gok.at0
   obtain ⟨i, hi, e1, e2⟩ := g.mem h1
   obtain ⟨j, hj, e3, e4⟩ := g.mem h2
   have p1 := pl_idx g.nod g.lt hi
   have p2 := pl_idx g.nod g.lt hj
   rw [getD_get hi] at e1
   rw [getD_get hj] at e3
   rw [e1] at p1
   rw [e3] at p2
   rw [e2] at e0
   have : j ≠ 0 := fun e => by
    subst e
    subst e0
    exact hne (e1.symm.trans e3)
   omega
 · refine Classical.byContradiction fun hn => h3 ?_
   refine avoid_before ht ha _ b (Nat.le_refl _) h2 ?_
   rcases Nat.lt_or_ge (pl F.blocks.length (OR F) b) (pl F.blocks.length (OR F) a) with h | h
   · exact h
   · have he : pl F.blocks.length (OR F) a = pl F.blocks.length (OR F) b := by omega
     exact absurd ((gr_of ht).gok.inj h1 h2 (by unfold pz; rw [he])) hne
theorem tab_anti (ht : typedP F = true) (h : tabP F a b) (h' : tabP F b a) : a = b := by
 refine Classical.byContradiction fun hne => ?_
 have h1 := tab_pl ht h hne
 have h2 := tab_pl ht h' (fun e => hne e.symm)
 omega
theorem tab_lin (ht : typedP F = true) (h : tabP F a x) (h' : tabP F b x) : tabP F a b ∨ tabP F b a := by
 obtain ⟨ha, hx, h1⟩ := h
 obtain ⟨hb, -, h2⟩ := h'
 by_cases hab : a = b
 · exact .inl ⟨ha, hb, .inl hab⟩
 rcases h1 with rfl | h1
 · exact .inr ⟨hb, ha, h2⟩
 rcases h2 with rfl | h2
 · exact .inl ⟨ha, hb, .inr h1⟩
 refine Classical.byContradiction fun hn => ?_
 have n1 : Avoid (fun x y => x ∈ PR F y) a b := Classical.byContradiction fun h => hn (.inl ⟨ha, hb, .inr h⟩)
 have n2 : Avoid (fun x y => x ∈ PR F y) b a := Classical.byContradiction fun h => hn (.inr ⟨hb, ha, .inr h⟩)
 have key : ∀ z, z = 0 ∨ Plus (RF F (-1)) 0 z → Avoid (fun x y => x ∈ PR F y) a z ∨ Avoid (fun x y => x ∈ PR F y) b z := fun z hz => by
  have zero : Avoid (fun x y => x ∈ PR F y) a 0 ∨ Avoid (fun x y => x ∈ PR F y) b 0 := by
   by_cases h0 : a = 0
   · exact .inr (.start (fun e => hab (h0.trans e.symm)))
   · exact .inl (.start h0)
  have step : ∀ {y z : Nat}, (Avoid (fun x y => x ∈ PR F y) a y ∨ Avoid (fun x y => x ∈ PR F y) b y) → RF F (-1) y z → Avoid (fun x y => x ∈ PR F y) a z ∨ Avoid (fun x y => x ∈ PR F y) b z := fun {y z} hy hr => by
   have hyz : y ∈ PR F z := (mem_PR ht).2 ⟨hr.1, (EN_leads ht hr.1).2 hr.2.2.2.2⟩
   by_cases e1 : z = a
   · subst e1; exact .inr n2
   by_cases e2 : z = b
   · subst e2; exact .inl n1
   rcases hy with hy | hy
   · exact .inl (.step hy hyz e1)
   · exact .inr (.step hy hyz e2)
  rcases hz with rfl | hz
  · exact zero
  · induction hz with
    | one hr => exact step zero hr
    | more _ hr ih => exact step ih hr
 have hxp : x = 0 ∨ Plus (RF F (-1)) 0 x := (post_plus ht).1 (by unfold OR at hx; rwa [List.mem_reverse] at hx)
 rcases key x hxp with h | h
 · exact h1 h
 · exact h2 h
theorem head_OR (ht : typedP F = true) (hh : 0 < (latL F h).length) : h ∈ OR F := by
 obtain ⟨x, hx⟩ := List.exists_mem_of_length_pos hh
 exact (tabB_iff.1 ((mem_latL ht).1 hx).2.2).1
theorem lp_dom (ht : typedP F = true) (hh : 0 < (latL F h).length) (hx : inLp F h x) : tabP F h x := by
 have hO := head_OR ht hh
 rcases hx with rfl | hp
 · exact ⟨hO, hO, .inl rfl⟩
 · induction hp with
   | one hr =>
    rcases hr.1 with ⟨_, h2⟩ | ⟨h1, _⟩
    · exact tabB_iff.1 ((mem_latL ht).1 h2).2.2
    · exact absurd rfl h1
   | @more z y hp hr ih =>
    have hzh := (plus_ne hp).1
    rcases hr.1 with ⟨h1, _⟩ | ⟨_, h2⟩
    · exact absurd h1 hzh
    · refine ⟨hO, hr.2.1, .inr fun hA => ?_⟩
      exact (ih.2.2.resolve_left (fun e => hzh e.symm)) (.step hA h2 hzh)
theorem lp_back (hx : inLp F h x) (hxh : x ≠ h) (hy : y ∈ PR F x) (hO : y ∈ OR F) : inLp F h y := by
 by_cases hyh : y = h
 · exact .inl hyh
 · exact .inr (.more (hx.resolve_left hxh) ⟨.inr ⟨hxh, hy⟩, hO, hyh⟩)
theorem lp_sub (ht : typedP F = true) (ha : 0 < (latL F a).length) (hb : 0 < (latL F b).length) (hne : a ≠ b) (hab : tabP F a b) (hxa : inLp F a x) (hxb : inLp F b x) (hy : inLp F b y) : inLp F a y := by
 have hba : ¬ tabP F b a := fun h => hne (tab_anti ht hab h)
 have aO := head_OR ht ha
 have bO := head_OR ht hb
 have hAv : Avoid (fun x y => x ∈ PR F y) b a := Classical.byContradiction fun h => hba ⟨bO, aO, .inr h⟩
 have hb0 : b ≠ 0 := fun e => by
  subst e
  exact (hab.2.2.resolve_left hne) (.start hne)
 have hin : inLp F a b := by
  refine Classical.byContradiction fun hnb => ?_
  have key : ∀ (n z : Nat), pl F.blocks.length (OR F) z ≤ n → inLp F a z → Avoid (fun x y => x ∈ PR F y) b z := fun n => by
   induction n with
   | zero =>
    intro z hz hi
    have hzO := (lp_dom ht ha hi).2.1
    obtain ⟨i, hi', h1, h2⟩ := (gr_of ht).mem hzO
    have := pl_idx (gr_of ht).nod (gr_of ht).lt hi'
    rw [getD_get hi'] at h1
    rw [h1] at this
    omega
   | succ n ih =>
    intro z hz hi
    by_cases hza : z = a
    · subst hza; exact hAv
    by_cases hz0 : z = 0
    · subst hz0; exact .start hb0
    · obtain ⟨p, h1, h2, h3⟩ := (gr_of ht).fwd (lp_dom ht ha hi).2.1 hz0
      exact .step (ih p ZO (lp_back hi hza h2 h1)) h2 (fun e => hnb (by rw [← e]; exact hi))
  have hbx := (lp_dom ht hb hxb).2.2
  rcases hbx with rfl | hbx
  · exact hnb hxa
  · exact hbx (key _ x (Nat.le_refl _) hxa)
 rcases hy with rfl | hp
 · exact hin
 · induction hp with
   | one hr =>
    rcases hr.1 with ⟨_, h2⟩ | ⟨h1, _⟩
    · exact lp_back hin (fun e => hne e.symm) (List.mem_filter.1 h2).1 hr.2.1
    · exact absurd rfl h1
   | @more z y hp hr ih =>
    have hzh := (plus_ne hp).1
    rcases hr.1 with ⟨h1, _⟩ | ⟨_, h2⟩
    · exact absurd h1 hzh
    · exact lp_back ih (fun e => hba (by rw [← e]; exact lp_dom ht hb (.inr hp))) h2 hr.2.1
theorem lp_nest (ht : typedP F = true) (ha : 0 < (latL F a).length) (hb : 0 < (latL F b).length) : (∀ x, ¬ (inLp F a x ∧ inLp F b x)) ∨ (∀ x, inLp F b x → inLp F a x) ∨ ∀ x, inLp F a x → inLp F b x := by
 by_cases he : a = b
 · subst he; exact .inr (.inl fun _ h => h)
 by_cases hd : ∀ x, ¬ (inLp F a x ∧ inLp F b x)
 · exact .inl hd
 obtain ⟨x, hxa, hxb⟩ : ∃ x, inLp F a x ∧ inLp F b x := Classical.byContradiction fun h => hd fun x hx => h ⟨x, hx⟩
 rcases tab_lin ht (lp_dom ht ha hxa) (lp_dom ht hb hxb) with h | h
 · exact .inr (.inl fun y hy => lp_sub ht ha hb he h hxa hxb hy)
 · exact .inr (.inr fun y hy => lp_sub ht hb ha (fun e => he e.symm) h hxb hxa hy)
end
end Go.Proofs.YthhpbkfngcflcaaGreatDoor
