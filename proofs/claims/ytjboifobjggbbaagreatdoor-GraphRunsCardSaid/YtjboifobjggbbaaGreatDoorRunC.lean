/- Cells of rows that were copied; of phis what comes from a block. A region that draws its order, three steps open at once. No program's code in sight. A region that draws its order and writes no old memory: each operation's value has a word of its own, whichever were done before. No program's code in sight. -/
import Derived.Test.YtjboifobjggbbaaGreatDoorRunS
import Derived.Test.YtjboifobjggbbaaGreatDoorSch
import Derived.Test.YtjboifobjggbbaaGreatDoorNewP
namespace Go.Proofs.YtjboifobjggbbaaGreatDoor
open Go.RowKit
set_option maxRecDepth 100000
def CellsAt (w : World) (B : Nat) (v : Value) (n : Nat) (xs : List Value) : Prop := ∃ A c, v = .slice A n c ∧ n ≤ c ∧ ∀ i u, xs[i]? = some u → ∃ g, A = some ⟨g, 0, none⟩ ∧ B ≤ g ∧ g < w.heap.size ∧ w.cell? ⟨g, i, none⟩ = some u
theorem CellsAt.below {w w' : World} {B : Nat} {v : Value} {n : Nat} {xs : List Value} (h : CellsAt w B v n xs) (hb : Below w.heap.size w w') : CellsAt w' B v n xs := by
 obtain ⟨A, c, hv, hc, hx⟩ := h
 refine ⟨A, c, hv, hc, fun i u hi => ?_⟩
 obtain ⟨g, hg, hB, hl, hcell⟩ := hx i u hi
 exact ⟨g, hg, hB, Nat.lt_of_lt_of_le hl hb.size, (hb.cell (p := ⟨g, i, none⟩) hl).trans hcell⟩
theorem CellsAt.kp {w w' : World} {D : Nat → Prop} {B : Nat} {v : Value} {n : Nat} {xs : List Value} (h : CellsAt w B v n xs) (hk : Kp D w w') (hD : ∀ g, B ≤ g → D g) : CellsAt w' B v n xs := by
 obtain ⟨A, c, hv, hc, hx⟩ := h
 refine ⟨A, c, hv, hc, fun i u hi => ?_⟩
 obtain ⟨g, hg, hB, hl, hcell⟩ := hx i u hi
 exact ⟨g, hg, hB, Nat.lt_of_lt_of_le hl hk.size, (hk.cell (hD g hB) hl).trans hcell⟩
theorem own_cellsF {w : World} {B e g n cap : Nat} {xs : List Value} (h : w.ownsRow B e 1 (.slice (some ⟨g, 0, none⟩) n cap) n xs) : ∀ i u, xs[i]? = some u → w.cell? ⟨g, i, none⟩ = some u := fun i u hi => by
 have h1 := h.1
 have h2 := (List.getElem?_eq_some_iff.1 hi).1
 rw [h.cellAt i ZO]
 exact hi
theorem run_cloneF {P : Program} (w : World) {B : Nat} (hB : B ≤ w.heap.size) {t ty e : TypeId} {z : Value} {bytes : Nat} (ht : P.underlying t = some (.slice e)) (hinf : (P.info? e).map (fun i => (i.zero, i.size, i.bytes)) = some (some z, 1, bytes)) (hby : bytes ≤ 64)
 (a : Addr) (g n c : Nat) (xs : List Value) (hl : xs.length = n) (hc : ∀ i u, xs[i]? = some u → w.cell? ⟨g, i, none⟩ = some u) (hn : n ≤ 1048576) :
 ∃ v' w', (Builtin.append_ #[t, t] ty #[.slice (some a) 0 0, .slice (some ⟨g, 0, none⟩) n c]).run P w = .ok v' w' ∧ CellsAt w' B v' n xs ∧ Below w.heap.size w w' := by
 obtain ⟨i, hi, hz, hsz, hb⟩ := info_parts hinf
 by_cases h0 : n = 0
 · subst h0
   have : xs = [] := List.eq_nil_of_length_eq_zero hl
   subst this
   refine ⟨.slice (some a) 0 0, w, ?_, ⟨some a, 0, rfl, Nat.le_refl _, fun i u h => by simp at h⟩, Below.refl _ _⟩
   have hf := run_firstCells_some (P := P) w i.size 0 ⟨g, 0, none⟩ 0 c [] ZS ZS
   simp [Builtin.append_, run_underlying ht, sizeOf, typeInfo, hi, Builtin.lenOf, hf, storeCells]
 · have hr := run_append_grow (P := P) w t ty e i z ht hi hz a 0 0 [] ZS ZS ⟨g, 0, none⟩ n c xs (by rw [hsz]; omega) (fun j u hj => by rw [Addr.add_lit, Nat.zero_add]; exact hc j u hj) ZO ZO (by
    rw [Nat.zero_add, nextslicecap_zero ZO, hb]
    calc n * bytes ≤ 1048576 * 64 := Nat.mul_le_mul hn hby
     _ ≤ 281474976710656 := ZD)
   rw [Nat.zero_add] at hr
   refine ⟨_, _, hr, ⟨_, _, rfl, ?_, fun j u hj => ⟨w.heap.size, rfl, hB, ZS, ?_⟩⟩, ((Below.refl _ _).drew).alloc ZS _⟩
   · exact grownCap_ge w n 0 e
   · have hg := heap_alloc_new w.drew (.cells (([] : List Value).toArray ++ xs.toArray ++ Builtin.zeroCells z.cells (grownCap w n 0 e - n)) e)
     rw [heap_drew] at hg
     rw [cell_of_row _ _ _ _ _ _ hg]
     have := (List.getElem?_eq_some_iff.1 hj).1
     simp [Array.getElem?_append, this]
     exact (List.getElem?_eq_some_iff.1 hj).2
theorem atOf_drop {b : Int} : ∀ {fs l : List Int} {j : Nat}, j < fs.length → fs.length = l.length → atOf (fs.drop j) (l.drop j) b = if ith fs j = b then ith l j else atOf (fs.drop (j + 1)) (l.drop (j + 1)) b := by
 intro fs l j hj hl
 rw [List.drop_eq_getElem_cons hj, List.drop_eq_getElem_cons (show j < l.length from ZO)]
 show (if fs[j] = b then l[j] else atOf (fs.drop (j + 1)) (l.drop (j + 1)) b) = _
 simp [ith, List.getD_eq_getElem?_getD, hj, show j < l.length from ZO]
theorem atOf_end {b : Int} {fs l : List Int} {j : Nat} (h : fs.length ≤ j) : atOf (fs.drop j) (l.drop j) b = -1 := by
 rw [List.drop_eq_nil_of_le h]
 unfold atOf
 rfl
theorem gotR_succ {b : PBlock} {x : Int} {k : Nat} (h : k < b.phis.length) : gotR (b.phis.take (k + 1)) x = gotR (b.phis.take k) x ++ [atOf (b.phi k).froms (b.phi k).args x] := by
 unfold gotR
 rw [List.take_add_one, PBlock.phi_get h]
 simp
theorem moveR_snoc {o : RSt} : ∀ (ps : List PPhi) (gs : List Int) (p : PPhi) (g : Int) (s : RSt), ps.length = gs.length → moveR o (ps ++ [p]) (gs ++ [g]) s = (((moveR o ps gs s).setI p.dst (o.int g)).setB p.dst (o.boo g)).setA p.dst (o.arr g)
 | [], [], _, _, _, _ => rfl
 | [], _ :: _, _, _, _, h => by simp at h
 | _ :: _, [], _, _, _, h => by simp at h
 | q :: ps, y :: gs, p, g, s, h => by
  rw [List.cons_append, List.cons_append, moveR, moveR]
  exact moveR_snoc ps gs p g _ (by simpa using h)
theorem gotR_len {ps : List PPhi} {x : Int} : (gotR ps x).length = ps.length := by simp [gotR]
theorem gotR_at {b : PBlock} {x : Int} {k : Nat} (h : k < b.phis.length) : ith (gotR b.phis x) k = atOf (b.phi k).froms (b.phi k).args x := by
 unfold ith gotR
 rw [List.getD_eq_getElem?_getD, List.getElem?_map, PBlock.phi_get h]
 rfl
theorem got_var {F : PFunc} {b : PBlock} {x : Int} {k : Nat} (h : k < b.phis.length) (hp : phiB F (b.phi k) = true) (hn : (gotR b.phis x).any (fun g => decide (g < 0)) = false) : ∃ j : Nat, ith (gotR b.phis x) k = j ∧ j < F.vars.length := by
 have hm : ith (gotR b.phis x) k ∈ gotR b.phis x := ith_mem (by rw [gotR_len]; exact h)
 have h1 : ¬ ith (gotR b.phis x) k < 0 := by
  have := List.any_eq_false.1 hn _ hm
  simpa using this
 rw [gotR_at h] at h1 ⊢
 unfold phiB at hp
 simp only [Bool.and_eq_true] at hp
 rcases atOf_case (b.phi k).froms (b.phi k).args x with h2 | h2
 · exact ZO
 · have := inB_true (List.all_eq_true.1 hp.1.2 _ h2)
   exact ⟨(atOf (b.phi k).froms (b.phi k).args x).toNat, ZO, ZO⟩
theorem run_append_ints {P : Program} (w : World) {t ty : TypeId} (base : Nat) (e : TypeId) (ht : P.underlying t = some (.slice e)) {z : Value} (hinf : (P.info? e).map (fun i => (i.zero, i.size, i.bytes)) = some (some z, 1, 8)) (hz1 : z.cells.size = 1)
 (v : Value) (n : Nat) (xs : List Int) (hown : w.ownsRow base e 1 v n (xs.map (Value.int .i64))) {B : Nat} {A : Option Addr} {ys : List Int} {c : Nat} (hr : Rd B A ys 1 (IntC w)) (h63 : n + ys.length ≤ 1048576) (hbase : base ≤ w.heap.size) :
 ∃ v' w', (Builtin.append_ #[t, t] ty #[v, .slice A ys.length c]).run P w = .ok v' w' ∧ w'.ownsRow base e 1 v' (n + ys.length) ((xs ++ ys).map (Value.int .i64)) ∧ w.grownBy w' v.ownBlock := by
 obtain ⟨i, hi, hz, hsz, hb⟩ := info_parts hinf
 rcases A with _ | ad
 · have hy : ys = [] := by
    cases ys with
    | nil => rfl
    | cons y r => obtain ⟨b, off, he, -⟩ := hr 0 y rfl; cases he
   subst hy
   refine ⟨v, w, ?_, by simpa using hown, World.grownBy.refl w _⟩
   rcases hown.2 with ⟨rfl, rfl⟩ | ⟨g, cap, cur, rfl, _, _, hnc, _⟩
   · simp [Builtin.append_, run_underlying ht, sizeOf, typeInfo, hi, Builtin.lenOf, Builtin.firstCells]
   · simp [Builtin.append_, run_underlying ht, sizeOf, typeInfo, hi, Builtin.lenOf, Builtin.firstCells, hnc, storeCells]
 · have hcells : ∀ j u, (ys.map (Value.int .i64))[j]? = some u → w.cell? (ad.add j) = some u := fun j u hu => by
    have hj : j < ys.length := by have := (List.getElem?_eq_some_iff.1 hu).1; simpa using this
    obtain ⟨b, off, he, hbl, hc⟩ := hr j _ (ith_get hj)
    cases he
    rw [Addr.add_lit]
    rw [List.getElem?_map, ith_get hj] at hu
    simp only [Option.map_some, Option.some.injEq] at hu
    rw [← hu]
    unfold IntC at hc
    simpa using hc
   obtain ⟨v', w', hrun, h2, h3, -, -⟩ := run_append_own_at (P := P) w base t ty e i z 1 8 ht hi hz hsz hb hz1 ZD v n _ hown ad ys.length c (ys.map (Value.int .i64)) ZS hcells (fun u hu => by obtain ⟨x, -, rfl⟩ := List.mem_map.1 hu; rfl) (by unfold maxLen; omega) ZO hbase
   exact ⟨v', w', hrun, by simpa using h2, h3⟩
theorem run_cloneI {P : Program} (w : World) {t ty : TypeId} (e : TypeId) (ht : P.underlying t = some (.slice e)) {z : Value} (hinf : (P.info? e).map (fun i => (i.zero, i.size, i.bytes)) = some (some z, 1, 8)) (hz1 : z.cells.size = 1)
 {A : Option Addr} {ys : List Int} {c : Nat} (hr : Rd w.heap.size A ys 1 (IntC w)) (hl : ys.length ≤ 1048576) :
 ∃ v' w', (Builtin.append_ #[t, t] ty #[.slice (some ⟨w.heap.size, 0, none⟩) 0 0, .slice A ys.length c]).run P (w.alloc (.cells #[] e)) = .ok v' w' ∧ w'.ownsRow w.heap.size e 1 v' ys.length (ys.map (Value.int .i64)) ∧ Below w.heap.size w w' := by
 have hb : Below w.heap.size w (w.alloc (.cells #[] e)) := (Below.refl _ _).alloc (Nat.le_refl _) _
 have h0 : (w.alloc (.cells #[] e)).ownsRow w.heap.size e 1 (.slice (some ⟨w.heap.size, 0, none⟩) 0 0) 0 (([] : List Int).map (Value.int .i64)) := World.ownsRow_lit w #[] 0 (Nat.le_refl _) (Nat.zero_le _) rfl
 obtain ⟨v', w', h1, h2, h3⟩ := run_append_ints (P := P) (w.alloc (.cells #[] e)) (ty := ty) w.heap.size e ht hinf hz1 _ 0 [] h0 (hr.move hb) (c := c) ZO ZS
 refine ⟨v', w', h1, by simpa using h2, ?_⟩
 exact hb.grown h3 ZS (fun k hk => by simp only [Value.ownBlock, Option.some.injEq] at hk; omega)
end Go.Proofs.YtjboifobjggbbaaGreatDoor
namespace Go.Proofs.YtjboifobjggbbaaGreatDoor
open Go
section
variable {P : Program} {Q : Exit → Act → World → Prop} {S : World → Prop}
theorem wpTree_fork3 {md : Region.Mode} {a : Act} {w : World} {l : List Oper} {n : Nat} {listed : Array Bool} (i j m fuel : Nat) (hn : fuel + 1 = n)
 (hB : (Region.ready md l.toArray listed == [i, j, m] && decide (i < l.length) && decide (j < l.length) && decide (m < l.length)) = true) (hS : S w)
 (h1 : wpSchR P l.toArray Q S (fun a w => S w → wpAnyH P md l.toArray Q S fuel (listed.setIfInBounds i true) a w) [(l.getD i default, true)] a w)
 (h2 : wpSchR P l.toArray Q S (fun a w => S w → wpAnyH P md l.toArray Q S fuel (listed.setIfInBounds j true) a w) [(l.getD j default, true)] a w)
 (h3 : wpSchR P l.toArray Q S (fun a w => S w → wpAnyH P md l.toArray Q S fuel (listed.setIfInBounds m true) a w) [(l.getD m default, true)] a w) : wpAnyH P md l.toArray Q S n listed a w := by
 simp only [Bool.and_eq_true, beq_iff_eq, decide_eq_true_eq] at hB
 obtain ⟨⟨⟨hr, hi⟩, hj⟩, hm⟩ := hB
 subst hn
 have key : ∀ k, k < l.length → wpSchR P l.toArray Q S (fun a w => S w → wpAnyH P md l.toArray Q S fuel (listed.setIfInBounds k true) a w) [(l.getD k default, true)] a w →
  wpOp P l.toArray Q k (fun a' w' => S w' ∧ wpAnyH P md l.toArray Q S fuel (listed.setIfInBounds k true) a' w') a w := by
  intro k hk h
  unfold wpOp
  have hg : l.toArray[k]? = some (l.getD k default) := by simp [hk]
  simp only [hg]
  unfold wpSchR at h
  by_cases hw : Region.wanted (l.getD k default) (yielded l.toArray a.tmps) = true
  · rw [if_pos hw, if_pos rfl] at h
    rw [if_pos hw]
    refine .inl (Oper.wp_mono (fun a' w' h' => ?_) h)
    obtain ⟨h3, h4⟩ := h'
    unfold wpSchR at h4
    exact ⟨h3, h4 h3⟩
  · rw [if_neg hw] at h
    rw [if_neg hw]
    unfold wpSchR at h
    exact ⟨hS, h hS⟩
 refine wpAnyH_all hr ZS (fun k hk => ?_)
 simp only [List.mem_cons, List.mem_nil_iff, or_false] at hk
 rcases hk with rfl | rfl | rfl
 · exact key _ hi h1
 · exact key _ hj h2
 · exact key _ hm h3
end
end Go.Proofs.YtjboifobjggbbaaGreatDoor
namespace Go.Proofs.YtjboifobjggbbaaGreatDoor
open Go Go.RowKit
set_option maxRecDepth 100000
def putsL (a : Act) : List Tmp → List Value → Act
 | d :: ds, v :: vs => putsL (a.put (some d) v) ds vs
 | _, _ => a
theorem put_comm {a : Act} {d e : Tmp} (h : d ≠ e) (u v : Value) : (a.put (some d) u).put (some e) v = (a.put (some e) v).put (some d) u := by
 simp only [Act.put, Act.mk.injEq, and_true]
 exact Array.setIfInBounds_comm u v h
theorem put_put {a : Act} {d : Tmp} (u v : Value) : (a.put (some d) u).put (some d) v = a.put (some d) v := by
 simp only [Act.put, Act.mk.injEq, and_true]
 simp
theorem put_self (a : Act) (d : Tmp) : a.put (some d) (a.tmps.getD d undef) = a := by
 obtain ⟨t, df⟩ := a
 simp only [Act.put, Act.mk.injEq, and_true]
 apply Array.ext_getElem?
 intro i
 by_cases e : d = i
 · subst e
   by_cases hd : d < t.size
   · simp [hd]
   · simp [hd]
 · simp [Array.getElem?_setIfInBounds_ne e]
theorem putsL_out {d : Tmp} {v : Value} : ∀ {ds : List Tmp} {vs : List Value} {a : Act}, d ∉ ds → (putsL a ds vs).put (some d) v = putsL (a.put (some d) v) ds vs
 | [], _, _, _ => by simp [putsL]
 | _ :: _, [], _, _ => by simp [putsL]
 | e :: ds, u :: vs, a, h => by
  rw [putsL, putsL, putsL_out (fun hm => h (by simp [hm])), put_comm (fun he => h (by simp [he]))]
theorem putsL_set {v : Value} : ∀ {ds : List Tmp} {vs : List Value} {a : Act} {i : Nat}, ds.Nodup → vs.length = ds.length → i < ds.length → (putsL a ds vs).put (some (ds.getD i 0)) v = putsL a ds (vs.set i v)
 | [], _, _, _, _, _, h => by simp at h
 | _ :: _, [], _, _, _, h, _ => by simp at h
 | e :: ds, u :: vs, a, 0, hn, _, _ => by
  rw [List.set_cons_zero, putsL, putsL, List.getD_cons_zero, putsL_out (List.nodup_cons.1 hn).1, put_put]
 | e :: ds, u :: vs, a, i + 1, hn, hl, hi => by
  rw [List.set_cons_succ, putsL, putsL, List.getD_cons_succ]
  exact putsL_set (List.nodup_cons.1 hn).2 (by simpa using hl) (by simpa using hi)
theorem putsL_self (a : Act) : ∀ (ds : List Tmp), putsL a ds (ds.map fun d => a.tmps.getD d undef) = a
 | [] => rfl
 | d :: ds => by rw [List.map_cons, putsL, put_self, putsL_self]
theorem wp_built {P : Program} {o : Oper} {a : Act} {w : World} {K : Act → World → Prop} {Q : Exit → Act → World → Prop} {cells : Array Value} (t : TypeId) (parts : Array (Nat × Operand)) (ho : o.op = .build t parts)
 (hc : P.built t (parts.map fun (i, x) => (i, a.eval x)).toList = some cells) (h : K (a.put o.dst (.agg cells)) w) : o.wp P a w K Q :=
 wp_build t parts ho (by rw [hc]; rfl) (by rw [hc]; exact h)
theorem len_cons {α : Type} {n : Nat} {vs : List α} (h : vs.length = n + 1) : ∃ v r, vs = v :: r ∧ r.length = n := by
 cases vs with
 | nil => cases h
 | cons v r => exact ⟨v, r, rfl, by simpa using h⟩
section
variable {P : Program} {Q : Exit → Act → World → Prop}
theorem wp_region_mono {id : Nat} {a : Act} {w : World} {l : List Oper} (ds : List Tmp) (pr : Nat → World → Value → Prop) (hm : P.follows .mixedOrders = true)
 (hB : (downB l && l.all fun o => o.guard.isNone) = true) (hD : l.map (·.dst) = ds.map some) (hN : ds.Nodup)
 (mono : ∀ i w1 w2 v, i < l.length → Below w1.heap.size w1 w2 → pr i w1 v → pr i w2 v)
 (step : ∀ i o vs w1, l[i]? = some o → vs.length = l.length → Below w.heap.size w w1 → (∀ j, (o.after.any fun e => Region.binds .any e && e.on == j) = true → pr j w1 (vs.getD j undef)) →
   ∀ K : Act → World → Prop, Shut (∀ v a2 w2, a2 = (putsL a ds vs).put o.dst v → Below w1.heap.size w1 w2 → pr i w2 v → K a2 w2) → o.wp P (putsL a ds vs) w1 K Q)
 (fin : ∀ vs w1, vs.length = l.length → Below w.heap.size w w1 → (∀ i, i < l.length → pr i w1 (vs.getD i undef)) → Q .normal (putsL a ds vs) w1) : (Code.region id l.toArray true).wp P Q a w := by
 have hdl : ds.length = l.length := by simpa using (congrArg List.length hD).symm
 refine wp_region_word hm (fun a0 f a1 w1 => ∃ vs, vs.length = l.length ∧ a1 = putsL a0 ds vs ∧ Below w.heap.size w w1 ∧ ∀ i, i < l.length → f i = true → pr i w1 (vs.getD i undef)) hB
  ⟨ds.map fun d => a.tmps.getD d undef, by simpa using hdl, (putsL_self a ds).symm, (Below.refl _ _).drew, fun _ _ h => by cases h⟩ ?_ ?_
 · rintro f i o a1 w1 ho hf hd ⟨vs, hl, rfl, hb, hp⟩ K hK
   have hi : i < l.length := (List.getElem?_eq_some_iff.1 ho).1
   have hlt : ∀ j, (o.after.any fun e => Region.binds .any e && e.on == j) = true → j < l.length ∧ f j = true := fun j hj => by
    obtain ⟨e, he, h2⟩ := Array.any_eq_true'.1 hj
    rw [Bool.and_eq_true, beq_iff_eq] at h2
    have h3 := hd e he h2.1
    rw [h2.2] at h3
    refine ⟨?_, h3⟩
    rw [Bool.and_eq_true] at hB
    have h1 := List.all_eq_true.1 hB.1 i (List.mem_range.2 hi)
    rw [show l.getD i default = o by simp [List.getD_eq_getElem?_getD, ho], Array.all_eq_true'] at h1
    have h4 := h1 e he
    simp only [decide_eq_true_eq] at h4
    omega
   refine step i o vs w1 ho hl hb (fun j hj => hp j (hlt j hj).1 (hlt j hj).2) K (fun v a2 w2 ha2 hb2 hv => hK.out _ _ ?_)
   have hdst : o.dst = some (ds.getD i 0) := by
    have := congrArg (fun x => x[i]?) hD
    simp only [List.getElem?_map, ho, Option.map_some] at this
    rw [List.getElem?_eq_getElem ZO, Option.map_some, Option.some.injEq] at this
    rw [this, List.getD_eq_getElem?_getD, List.getElem?_eq_getElem ZO]
    rfl
   refine ⟨vs.set i v, by simpa using hl, by rw [ha2, hdst]; exact putsL_set hN ZO ZO, hb.trans (hb2.mono hb.size), fun j hj hfj => ?_⟩
   by_cases e : j = i
   · subst e
     rw [List.getD_eq_getElem?_getD, List.getElem?_set_self ZO]
     exact hv
   · rw [List.getD_eq_getElem?_getD, List.getElem?_set_ne (fun x => e x.symm), ← List.getD_eq_getElem?_getD]
     rw [upd_ne e] at hfj
     exact mono j _ _ _ hj hb2 (hp j hj hfj)
 · rintro f a1 w1 hf ⟨vs, hl, rfl, hb, hp⟩
   exact fin vs w1 hl hb fun i hi => hp i hi (hf i hi)
end
end Go.Proofs.YtjboifobjggbbaaGreatDoor
