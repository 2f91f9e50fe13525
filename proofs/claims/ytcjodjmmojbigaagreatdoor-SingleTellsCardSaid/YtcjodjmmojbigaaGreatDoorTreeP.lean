/- The plain law of dom.New: levels, and the rows of kids. No program's code in sight. The memory of dom.New while it makes a tree: levels and kids. No program is walked here. The plain law of the fronts: from each block that leads to one, up to the nearest above that one. No program's code in sight. -/
import Derived.Test.YtcjodjmmojbigaaGreatDoorNear
import Derived.Test.YtcjodjmmojbigaaGreatDoorRows2
import Derived.Maps.AppendAt
namespace Go.Proofs.YtcjodjmmojbigaaGreatDoor
open Go.RowKit

/-- the levels of the first blocks of the order. -/
structure LvP (O : List Nat) (n : Nat) (N : Nat → Option Nat) (k : Nat) (V : List (Option Nat)) : Prop where
  len : V.length = n
  zero : fnO V 0 = some 0
  iff : ∀ {b}, fnO V b ≠ none ↔ b ∈ O.take (k + 1)
  up : ∀ {b j}, b ≠ 0 → fnO V b = some j → ∃ p i, N b = some p ∧ fnO V p = some i ∧ j = i + 1
  le : ∀ {b j}, fnO V b = some j → j ≤ pz n O b
section
variable {n k b p i : Nat} {O : List Nat} {P : Nat → List Nat} {L V : List (Option Nat)}
theorem LvP.start (g : GrOk n O P) (n1 : 1 ≤ n) : LvP O n (fnO L) 0 ((List.replicate n none).set 0 (some 0)) := by
  obtain ⟨r, hr⟩ := g.hd
  have h0 : fnO ((List.replicate n none).set 0 (some 0)) 0 = some 0 := fnO_set (by simp; omega)
  have hne : ∀ {b}, b ≠ 0 → fnO ((List.replicate n none).set 0 (some 0)) b = none := fun h => by rw [fnO_ne h]; exact fnO_rep
  refine ⟨by simp, h0, fun {b} => ?_, fun {b j} hb hj => ?_, fun {b j} hj => ?_⟩
  · by_cases hb : b = 0
    · subst hb; rw [h0, hr]; simp
    · rw [hne hb, hr]; simp [hb]
  · rw [hne hb] at hj; cases hj
  · by_cases hb : b = 0
    · subst hb; rw [h0] at hj; obtain rfl := Option.some.inj hj; omega
    · rw [hne hb] at hj; cases hj
/-- the block whose turn it is, the one above it, and that one's level. -/
theorem LvP.turn (g : GrOk n O P) (t : NearOk n O P L) (h : LvP O n (fnO L) k V) (hk : k + 1 < O.length) (hb : O.getD (k + 1) 0 = b) : b < n ∧ b ≠ 0 ∧ ∃ p i, fnO L b = some p ∧ p < n ∧ fnO V p = some i ∧ i < O.length ∧ LvP O n (fnO L) (k + 1) (V.set b (some (i + 1))) := by
  have hbm : b ∈ O := by rw [← hb, getD_get hk]; exact List.getElem_mem hk
  have hpb : pz n O b = k + 1 := by rw [← hb]; exact pz_idx g hk
  have h0 : b ≠ 0 := fun e => by rw [e, g.gok.at0] at hpb; omega
  have hbn := g.lt b hbm
  cases hp : fnO L b with
  | none => exact absurd hp (t.all hbm)
  | some p =>
    have hu := t.tok.up h0 hp
    obtain ⟨q, hq, h1, h2⟩ := g.mem hu.2.1
    have hpt : p ∈ O.take (k + 1) := by
      rw [List.mem_take_iff_getElem]
      refine ⟨q, by have := hu.2.2.1; simp; omega, ?_⟩
      rw [← getD_get hq 0]
      exact h1
    cases hi : fnO V p with
    | none => exact absurd hi (h.iff.2 hpt)
    | some i =>
      have hpn := g.lt p hu.2.1
      have hil := h.le hi
      have hbV : b < V.length := by rw [h.len]; exact hbn
      have hpne : p ≠ b := fun e => by have := hu.2.2.1; rw [e] at this; omega
      have hnb : b ∉ O.take (k + 1) := by
        intro hm
        rw [List.mem_take_iff_getElem] at hm
        obtain ⟨j, hj, he⟩ := hm
        have := pz_idx g (i := j) (by omega)
        rw [getD_get (by omega), he, hpb] at this
        omega
      have hnone : fnO V b = none := by
        cases hv : fnO V b with
        | none => rfl
        | some x => exact absurd (h.iff.1 (by rw [hv]; simp)) hnb
      refine ⟨hbn, h0, p, i, rfl, hpn, hi, by omega, by rw [List.length_set, h.len], ?_, fun {c} => ?_, fun {c j} hc hj => ?_, fun {c j} hj => ?_⟩
      · rw [fnO_ne (fun e => h0 e.symm)]; exact h.zero
      · rw [List.take_succ_eq_append_getElem hk, List.mem_append, ← h.iff, show O[k + 1] = b by rw [← hb, getD_get hk]]
        by_cases e : c = b
        · subst e; rw [fnO_set hbV]; simp
        · rw [fnO_ne e]; simp [e]
      · by_cases e : c = b
        · subst e
          rw [fnO_set hbV] at hj
          obtain rfl := Option.some.inj hj
          exact ⟨p, i, hp, by rw [fnO_ne hpne]; exact hi, rfl⟩
        · rw [fnO_ne e] at hj
          obtain ⟨q', i', h3, h4, h5⟩ := h.up hc hj
          refine ⟨q', i', h3, ?_, h5⟩
          rw [fnO_ne (fun e2 => by rw [e2, hnone] at h4; cases h4)]
          exact h4
      · by_cases e : c = b
        · subst e
          rw [fnO_set hbV] at hj
          obtain rfl := Option.some.inj hj
          have := hu.2.2.1
          omega
        · rw [fnO_ne e] at hj
          exact h.le hj
theorem LvP.fin (g : GrOk n O P) (h : LvP O n (fnO L) (O.length - 1) V) : LvOk (· ∈ O) (fnO L) (fnO V) := by
  obtain ⟨r, hr⟩ := g.hd
  refine ⟨h.zero, h.up, fun {b} => h.iff.trans ?_⟩
  rw [List.take_of_length_le (by rw [hr]; simp)]
end
end Go.Proofs.YtcjodjmmojbigaaGreatDoor
namespace Go.Proofs.YtcjodjmmojbigaaGreatDoor
open Go.RowKit
set_option maxRecDepth 100000

/-- append of one cell just laid, as a run. -/
theorem run_append1F {P : Program} (w : World) {t ty : TypeId} (base : Nat) (e : TypeId) (bytes : Nat) (ht : P.underlying t = some (.slice e)) {z : Value} (hinf : (P.info? e).map (fun i => (i.zero, i.size, i.bytes)) = some (some z, 1, bytes)) (hz1 : z.cells.size = 1)
    (v : Value) (n : Nat) (xs : List Value) (hown : w.ownsRow base e 1 v n xs) (u : Value) (h1 : u.oneCell' = true) (h63 : n < 1048576) (hby : bytes ≤ 64) (hbase : base ≤ w.heap.size) :
    ∃ v' w', (Builtin.append_ #[t, t] ty #[v, .slice (some ⟨w.heap.size, 0, none⟩) 1 1]).run P (w.alloc (.cells #[u] e)) = .ok v' w' ∧ w'.ownsRow base e 1 v' (n + 1) (xs ++ [u]) ∧ (w.alloc (.cells #[u] e)).grownBy w' v.ownBlock ∧
      ∀ k, v'.ownBlock = some k → v.ownBlock = some k ∨ w.heap.size < k := by
  obtain ⟨i, hi, hz, hsz, hb⟩ := info_parts hinf
  have hbytes : (n + 1) * bytes ≤ 140737488355328 := by
    calc (n + 1) * bytes ≤ 1048576 * 64 := Nat.mul_le_mul (by omega) hby
      _ ≤ 140737488355328 := by decide
  obtain ⟨v', w', hr, h2, h3, -, h4⟩ := run_append_own_at (P := P) (w := w.alloc (.cells #[u] e)) base t ty e i z 1 bytes ht hi hz hsz hb hz1 (by decide) v n xs (hown.alloc (.cells #[u] e)) ⟨w.heap.size, 0, none⟩ 1 1 [u] rfl (cell_new_one w u e) (by simpa using h1) (by unfold maxLen; omega) hbytes (by simp; omega)
  refine ⟨v', w', hr, h2, h3, fun k hk => ?_⟩
  rcases h4 with e | e
  · exact .inl (by rw [← e]; exact hk)
  · rw [e] at hk
    cases hk
    exact .inr (by simp)
/-- an append whose run is known. -/
theorem wp_append_run {P : Program} {o : Oper} {a : Act} {w w' : World} {K : Act → World → Prop} {Q : Exit → Act → World → Prop} (s x : Operand) (t : TypeId) (ho : o.op = .call { callee := .builtin .append, args := #[s, x], argTypes := #[t, t] })
    {v xv v' : Value} (hs : a.eval s = v) (hx : a.eval x = xv) (hrun : (Builtin.append_ #[t, t] o.type #[v, xv]).run P w = .ok v' w') (hK : K (a.put o.dst v') w') : o.wp P a w K Q := by
  unfold Oper.wp execOp
  simp only [ho, resolve, invoke, builtin, Sem.run_bind, Sem.run_pure, Result.andThen_ok, List.map_toArray, List.map_cons, List.map_nil, hs, hx, hrun]
  exact hK
/-- a store elsewhere leaves a row of rows. -/
theorem OwnRows.other {w : World} {base g : Nat} {ti te : TypeId} {av : Nat → Prop} {xss : List (List Int)} (h : OwnRows w base ti te g av xss) {a : Addr} (hg : a.block ≠ g) (ha : av a.block) (v : Value) : OwnRows (w.setCell a v) base ti te g av xss := by
  obtain ⟨vs, h1, h2, h3, h4, h5⟩ := h
  exact ⟨vs, h1, ownsRow_setCell_other h2 (by simpa [Value.ownBlock] using fun e => hg e.symm) v, fun i vi xs hi hx => ownsRow_setCell_other (h3 i vi xs hi hx) (fun e => h5 i vi a.block hi e ha) v, h4, h5⟩
/-- a row of a row of rows is where nothing is to be avoided. -/
theorem OwnRows.row {w : World} {base g : Nat} {ti te : TypeId} {av : Nat → Prop} {xss : List (List Int)} (h : OwnRows w base ti te g av xss) {c : Nat} (hc : c < xss.length) {v : Value} (hv : w.cell? ⟨g, c, none⟩ = some v) :
    w.ownsRow base te 1 v (xss.getD c []).length ((xss.getD c []).map (Value.int .i64)) ∧ ∀ b, v.ownBlock = some b → ¬ av b := by
  obtain ⟨vs, h1, h2, h3, h4, h5⟩ := h
  have hvc : vs[c]? = some v := by
    have := h2.cellAt c (by omega)
    rw [hv] at this
    exact this.symm
  exact ⟨h3 c v _ hvc (by simp [hc]), fun b hb => h5 c v b hvc hb⟩
/-- the avoided blocks of the rows of kids. -/
def avT (gn gl gf tb : Nat) : Nat → Prop := fun k => k = gn ∨ k = gl ∨ k = gf ∨ k = tb
structure T1 (wb wr : World) (n gn gl gk gf tb : Nat) (L0 V : List (Option Nat)) (K : List (List Int)) : Prop where
  hb : Below wb.heap.size wb wr
  hn : RowO wr gn L0
  hl : wr.ownsRow wb.heap.size 3 1 (.slice (some ⟨gl, 0, none⟩) n n) n (valsO V)
  hk : OwnRows wr wb.heap.size 23 3 gk (avT gn gl gf tb) K
  hf : wr.ownsRow wb.heap.size 23 1 (.slice (some ⟨gf, 0, none⟩) n n) n (List.replicate n (.slice none 0 0))
  ht : tb < wr.heap.size
  c0 : wr.cell? ⟨tb, 0, none⟩ = some (.slice (some ⟨gn, 0, none⟩) n n)
  c1 : wr.cell? ⟨tb, 1, none⟩ = some (.slice (some ⟨gl, 0, none⟩) n n)
  c2 : wr.cell? ⟨tb, 2, none⟩ = some (.slice (some ⟨gk, 0, none⟩) n n)
  c3 : wr.cell? ⟨tb, 3, none⟩ = some (.slice (some ⟨gf, 0, none⟩) n n)
  d : gn ≠ gl ∧ gn ≠ gk ∧ gn ≠ gf ∧ gn ≠ tb ∧ gl ≠ gk ∧ gl ≠ gf ∧ gl ≠ tb ∧ gk ≠ gf ∧ gk ≠ tb ∧ gf ≠ tb
section
variable {wb wr w' w3 : World} {n gn gl gk gf tb i c : Nat} {L0 V : List (Option Nat)} {K : List (List Int)} {o : Option Nat}
theorem T1.below (h : T1 wb wr n gn gl gk gf tb L0 V K) (hb : Below wr.heap.size wr w') : T1 wb w' n gn gl gk gf tb L0 V K :=
  ⟨h.hb.trans (hb.mono h.hb.size), h.hn.below hb, own_below h.hl hb, h.hk.below hb, own_below h.hf hb, Nat.lt_of_lt_of_le h.ht hb.size, (hb.cell (p := ⟨tb, 0, none⟩) h.ht).trans h.c0, (hb.cell (p := ⟨tb, 1, none⟩) h.ht).trans h.c1, (hb.cell (p := ⟨tb, 2, none⟩) h.ht).trans h.c2, (hb.cell (p := ⟨tb, 3, none⟩) h.ht).trans h.c3, h.d⟩
theorem T1.setL (h : T1 wb wr n gn gl gk gf tb L0 V K) : T1 wb (wr.setCell ⟨gl, i, none⟩ (.int .i64 (encO o))) n gn gl gk gf tb L0 (V.set i o) K := by
  obtain ⟨d1, d2, d3, d4, d5, d6, d7, d8, d9, d10⟩ := h.d
  have far : ∀ g j, g ≠ gl → (wr.setCell ⟨gl, i, none⟩ (.int .i64 (encO o))).cell? ⟨g, j, none⟩ = wr.cell? ⟨g, j, none⟩ := fun g j hg => World.cell?_setCell_far _ _ _ _ (by simpa using fun e => hg e.symm)
  refine ⟨h.hb.setCell (p := ⟨gl, i, none⟩) (h.hl.lt _ rfl).1 _, ⟨by simpa using h.hn.1, fun j hj => by rw [far gn j d1]; exact h.hn.2 j hj⟩, ?_, h.hk.other (a := ⟨gl, i, none⟩) d5 (.inr (.inl rfl)) _, ownsRow_setCell_other h.hf (a := ⟨gl, i, none⟩) (by simpa [Value.ownBlock] using fun e => d6 e.symm) _, by simpa using h.ht, ?_, ?_, ?_, ?_, h.d⟩
  · rw [← valsO_set]; exact (h.hl.stored i _).1
  · rw [far tb 0 (fun e => d7 e.symm)]; exact h.c0
  · rw [far tb 1 (fun e => d7 e.symm)]; exact h.c1
  · rw [far tb 2 (fun e => d7 e.symm)]; exact h.c2
  · rw [far tb 3 (fun e => d7 e.symm)]; exact h.c3
/-- one more kid: an append to the row, and the store of what it gave. -/
theorem T1.addK (h : T1 wb wr n gn gl gk gf tb L0 V K) (hKn : K.length = n) (hc : c < n) {v v' : Value} (hv : wr.cell? ⟨gk, c, none⟩ = some v)
    (hown : w3.ownsRow wb.heap.size 3 1 v' ((K.getD c []).length + 1) ((K.getD c []).map (Value.int .i64) ++ [.int .i64 (i : Int)])) (hg : (wr.alloc (.cells #[.int .i64 (i : Int)] 3)).grownBy w3 v.ownBlock)
    (hfr : ∀ k, v'.ownBlock = some k → v.ownBlock = some k ∨ wr.heap.size < k) :
    T1 wb (w3.setCell ⟨gk, c, none⟩ v') n gn gl gk gf tb L0 V (addP i K c) ∧ w3.cell? ⟨tb, 2, none⟩ = some (.slice (some ⟨gk, 0, none⟩) n n) ∧ w3.cell? ⟨gk, c, none⟩ = some v ∧ w3.frozen? ⟨gk, c, none⟩ = false ∧ gk < w3.heap.size ∧ tb < w3.heap.size := by
  obtain ⟨d1, d2, d3, d4, d5, d6, d7, d8, d9, d10⟩ := h.d
  have hrow := h.hk.row (by omega) hv
  have hlts : ∀ k, avT gn gl gf tb k → k < wr.heap.size := by
    rintro k (e | e | e | e)
    · rw [e]; exact h.hn.1
    · rw [e]; exact (h.hl.lt _ rfl).2
    · rw [e]; exact (h.hf.lt _ rfl).2
    · rw [e]; exact h.ht
  obtain ⟨h1, h2⟩ := h.hk.step (by decide) (by omega) hv hown hg hfr (fun k hk ha => by have := hlts k ha; omega)
  obtain ⟨m1, m2, m3⟩ := h.hk.mid (by decide) (by omega) hv hg
  have ha : Below wr.heap.size wr (wr.alloc (.cells #[.int .i64 (i : Int)] 3)) := (Below.refl _ _).alloc (Nat.le_refl _) _
  have kept : ∀ k, avT gn gl gf tb k → w3.heap[k]? = wr.heap[k]? := fun k hk => (hg.block k (by have := hlts k hk; simp; omega) (fun e => hrow.2 k e.symm hk)).trans (Below.heap_alloc wr _ k (hlts k hk))
  have far : ∀ g j, avT gn gl gf tb g → g ≠ gk → (w3.setCell ⟨gk, c, none⟩ v').cell? ⟨g, j, none⟩ = wr.cell? ⟨g, j, none⟩ := fun g j hg hne => (World.cell?_setCell_far _ _ _ _ (by simpa using fun e => hne e.symm)).trans (World.cell?_of_block (kept g hg))
  have htk : w3.cell? ⟨tb, 2, none⟩ = wr.cell? ⟨tb, 2, none⟩ := World.cell?_of_block (kept tb (.inr (.inr (.inr rfl))))
  have hsz : tb < w3.heap.size := by have := hg.size; have := h.ht; simp at *; omega
  have keepOwn : ∀ {ty : TypeId} {g : Nat} {xs : List Value}, avT gn gl gf tb g → g ≠ gk → wr.ownsRow wb.heap.size ty 1 (.slice (some ⟨g, 0, none⟩) n n) n xs → (w3.setCell ⟨gk, c, none⟩ v').ownsRow wb.heap.size ty 1 (.slice (some ⟨g, 0, none⟩) n n) n xs := by
    intro ty g xs hg' hne ho
    refine ownsRow_setCell_other (own_grown ho ha hg (fun b hb hb' => ?_)) (a := ⟨gk, c, none⟩) (by simpa [Value.ownBlock] using hne) v'
    cases hb
    exact hrow.2 g hb' hg'
  refine ⟨⟨?_, ⟨?_, fun j hj => ?_⟩, keepOwn (.inr (.inl rfl)) d5 h.hl, h1, keepOwn (.inr (.inr (.inl rfl))) (fun e => d8 e.symm) h.hf, by simpa using hsz, ?_, ?_, ?_, ?_, h.d⟩, htk.trans h.c2, m1, m2, m3, hsz⟩
  · exact (grown_below hrow.1 hg h.hb (Nat.le_refl _) h.hb.size).setCell (p := ⟨gk, c, none⟩) h.hk.blk.1 _
  · have := hg.size; have := h.hn.1; simp at *; omega
  · rw [far gn j (.inl rfl) d2]; exact h.hn.2 j hj
  · rw [far tb 0 (.inr (.inr (.inr rfl))) (fun e => d9 e.symm)]; exact h.c0
  · rw [far tb 1 (.inr (.inr (.inr rfl))) (fun e => d9 e.symm)]; exact h.c1
  · rw [far tb 2 (.inr (.inr (.inr rfl))) (fun e => d9 e.symm)]; exact h.c2
  · rw [far tb 3 (.inr (.inr (.inr rfl))) (fun e => d9 e.symm)]; exact h.c3
end
theorem fnO_set0 {L : List (Option Nat)} {b : Nat} (hb : b < L.length) : fnO (L.set b none) b = none := by simp [fnO, List.getD, hb]
/-- the rows of kids, of those below i. -/
def kidsF (L0 : List (Option Nat)) : Nat → List (List Int)
  | 0 => List.replicate L0.length []
  | i + 1 => match fnO L0 i with
    | none => kidsF L0 i
    | some p => addP i (kidsF L0 i) p
/-- the kids of p, of those below i. -/
def kidRow (L0 : List (Option Nat)) (p : Nat) : Nat → List Nat
  | 0 => []
  | i + 1 => if fnO L0 i = some p then kidRow L0 p i ++ [i] else kidRow L0 p i
theorem kidsF_len {L0 : List (Option Nat)} : ∀ i, (kidsF L0 i).length = L0.length
  | 0 => by simp [kidsF]
  | i + 1 => by
    rw [kidsF]
    split
    · exact kidsF_len i
    · rw [addP_len]; exact kidsF_len i
theorem kidsF_row {L0 : List (Option Nat)} {p : Nat} (hp : p < L0.length) : ∀ i, (kidsF L0 i).getD p [] = ints (kidRow L0 p i)
  | 0 => by simp [kidsF, kidRow, ints, List.getD, hp]
  | i + 1 => by
    have ih := kidsF_row hp i
    rw [kidsF, kidRow]
    cases h : fnO L0 i with
    | none => simpa using ih
    | some q =>
      by_cases e : q = p
      · subst e
        simp [addP, List.getD, kidsF_len, hp, ints] at ih ⊢
        exact ih
      · have : ¬ (some q = some p) := fun h => e (Option.some.inj h)
        rw [if_neg this]
        simp only [addP]
        rw [List.getD, List.getElem?_set_ne e, ← List.getD_eq_getElem?_getD]
        exact ih
theorem mem_kidRow {L0 : List (Option Nat)} {p b : Nat} : ∀ {i}, b ∈ kidRow L0 p i ↔ b < i ∧ fnO L0 b = some p
  | 0 => by simp [kidRow]
  | i + 1 => by
    rw [kidRow]
    split
    · rename_i h
      rw [List.mem_append, mem_kidRow, List.mem_singleton]
      constructor
      · rintro (⟨h1, h2⟩ | rfl)
        · exact ⟨by omega, h2⟩
        · exact ⟨by omega, h⟩
      · rintro ⟨h1, h2⟩
        rcases Nat.lt_succ_iff_lt_or_eq.1 h1 with h | h
        · exact .inl ⟨h, h2⟩
        · exact .inr h
    · rename_i h
      rw [mem_kidRow]
      constructor
      · rintro ⟨h1, h2⟩; exact ⟨by omega, h2⟩
      · rintro ⟨h1, h2⟩
        rcases Nat.lt_succ_iff_lt_or_eq.1 h1 with h3 | h3
        · exact ⟨h3, h2⟩
        · subst h3; exact absurd h2 h
theorem kidRow_le {L0 : List (Option Nat)} {p : Nat} : ∀ i, (kidRow L0 p i).length ≤ i
  | 0 => by simp [kidRow]
  | i + 1 => by
    have := kidRow_le (L0 := L0) (p := p) i
    rw [kidRow]
    split
    · simp; omega
    · omega
end Go.Proofs.YtcjodjmmojbigaaGreatDoor
namespace Go.Proofs.YtcjodjmmojbigaaGreatDoor
open Go.RowKit

/-- y is above b, by the nearest ones L0 (block 0 has none). -/
def PA (L0 : List (Option Nat)) (N : Nat → Option Nat) (y b : Nat) : Prop := ∃ q, fnO L0 b = some q ∧ Anc N y q
/-- in the front of y, of those that are in l. -/
def SF (O : List Nat) (P : Nat → List Nat) (L0 : List (Option Nat)) (N : Nat → Option Nat) (l : List Nat) (y c : Nat) : Prop := c ∈ l ∧ ∃ p, p ∈ P c ∧ p ∈ O ∧ Anc N y p ∧ ¬ PA L0 N y c
/-- and of b as well, by those of ps. -/
def SP (O : List Nat) (P : Nat → List Nat) (L0 : List (Option Nat)) (N : Nat → Option Nat) (l : List Nat) (b : Nat) (ps : List Nat) (y c : Nat) : Prop := SF O P L0 N l y c ∨ c = b ∧ ∃ p, p ∈ ps ∧ p ∈ O ∧ Anc N y p ∧ ¬ PA L0 N y b
/-- and by p, so far as cur. -/
def SC (O : List Nat) (P : Nat → List Nat) (L0 : List (Option Nat)) (N : Nat → Option Nat) (l : List Nat) (b : Nat) (ps : List Nat) (p : Nat) (cur : Option Nat) (y c : Nat) : Prop := SP O P L0 N l b ps y c ∨ c = b ∧ Anc N y p ∧ ¬ ∃ x, cur = some x ∧ Anc N y x
structure FrI (n : Nat) (S : Nat → Nat → Prop) (X : List (List Int)) : Prop where
  len : X.length = n
  nod : ∀ x, x < n → (X.getD x []).Nodup
  mem : ∀ x, x < n → ∀ z : Int, z ∈ X.getD x [] ↔ ∃ b : Nat, z = b ∧ S x b
section
variable {n x b c y p q : Nat} {S S' : Nat → Nat → Prop} {X : List (List Int)} {O l ps : List Nat} {P : Nat → List Nat} {L L0 : List (Option Nat)} {N : Nat → Option Nat} {cur : Option Nat}
theorem FrI.congr (h : FrI n S X) (e : ∀ x b, x < n → (S x b ↔ S' x b)) : FrI n S' X :=
  ⟨h.len, h.nod, fun x hx z => (h.mem x hx z).trans ⟨fun ⟨b, h1, h2⟩ => ⟨b, h1, (e x b hx).1 h2⟩, fun ⟨b, h1, h2⟩ => ⟨b, h1, (e x b hx).2 h2⟩⟩⟩
theorem FrI.start (hS : ∀ x b, ¬ S x b) : FrI n S (List.replicate n []) := by
  have e : ∀ x, (List.replicate n ([] : List Int)).getD x [] = [] := fun x => by
    simp only [List.getD, List.getElem?_replicate]
    split <;> rfl
  exact ⟨by simp, fun x _ => by rw [e]; exact List.nodup_nil, fun x _ z => by rw [e]; simp [hS]⟩
theorem FrI.has (h : FrI n S X) (hx : x < n) : (X.getD x []).contains (b : Int) = true ↔ S x b := by
  rw [List.contains_iff_mem, h.mem x hx]
  constructor
  · rintro ⟨c, h1, h2⟩
    obtain rfl : b = c := by omega
    exact h2
  · exact fun h => ⟨b, rfl, h⟩
theorem FrI.add (h : FrI n S X) (hx : x < n) (hs : ¬ S x b) (e : ∀ y c, S' y c ↔ S y c ∨ y = x ∧ c = b) : FrI n S' (X.set x (X.getD x [] ++ [(b : Int)])) := by
  have hxl : x < X.length := by rw [h.len]; exact hx
  have hse : (X.set x (X.getD x [] ++ [(b : Int)])).getD x [] = X.getD x [] ++ [(b : Int)] := by simp [List.getD, hxl]
  have hne : ∀ y, y ≠ x → (X.set x (X.getD x [] ++ [(b : Int)])).getD y [] = X.getD y [] := fun y hy => by
    rw [List.getD, List.getElem?_set_ne (fun e => hy e.symm), ← List.getD_eq_getElem?_getD]
  refine ⟨by rw [List.length_set, h.len], fun y hy => ?_, fun y hy z => ?_⟩
  · by_cases hyx : y = x
    · subst hyx
      rw [hse, List.nodup_append]
      refine ⟨h.nod y hy, by simp, fun z hz z' hz' => ?_⟩
      simp at hz'
      subst hz'
      rintro rfl
      obtain ⟨c, h1, h2⟩ := (h.mem y hy _).1 hz
      obtain rfl : b = c := by omega
      exact hs h2
    · rw [hne y hyx]; exact h.nod y hy
  · by_cases hyx : y = x
    · subst hyx
      rw [hse, List.mem_append, h.mem y hy, List.mem_singleton]
      constructor
      · rintro (⟨c, h1, h2⟩ | rfl)
        · exact ⟨c, h1, (e y c).2 (.inl h2)⟩
        · exact ⟨b, rfl, (e y b).2 (.inr ⟨rfl, rfl⟩)⟩
      · rintro ⟨c, h1, h2⟩
        rcases (e y c).1 h2 with h3 | ⟨_, rfl⟩
        · exact .inl ⟨c, h1, h3⟩
        · exact .inr h1
    · rw [hne y hyx, h.mem y hy]
      constructor
      · rintro ⟨c, h1, h2⟩; exact ⟨c, h1, (e y c).2 (.inl h2)⟩
      · rintro ⟨c, h1, h2⟩
        rcases (e y c).1 h2 with h3 | ⟨h3, _⟩
        · exact ⟨c, h1, h3⟩
        · exact absurd h3 hyx
/-- the way up from a block: itself, or by the one nearest above. -/
theorem anc_up (hL0 : L0 = L.set 0 none) : Anc (fnO L) y x ↔ y = x ∨ ∃ q, fnO L0 x = some q ∧ Anc (fnO L) y q := by
  by_cases h0 : x = 0
  · subst h0
    have : ∀ q, fnO L0 0 ≠ some q := fun q h => by
      rw [hL0] at h
      by_cases hl : 0 < L.length
      · simp [fnO, List.getD, hl] at h
      · simp [fnO, List.getD, hl] at h
    constructor
    · exact fun h => .inl h.of0
    · rintro (rfl | ⟨q, h1, _⟩)
      · exact .refl
      · exact absurd h1 (this q)
  · rw [hL0, fnO_ne h0]
    constructor
    · intro h
      rcases h.inv with e | ⟨_, q, h1, h2⟩
      · exact .inl e
      · exact .inr ⟨q, h1, h2⟩
    · rintro (rfl | ⟨q, h1, h2⟩)
      · exact .refl
      · exact .up h0 h1 h2
theorem anc_not (t : NearOk n O P L) (hL0 : L0 = L.set 0 none) (h : fnO L0 x = some q) : ¬ Anc (fnO L) x q := by
  intro ha
  have h0 : x ≠ 0 := fun e => by
    subst e
    rw [hL0] at h
    by_cases hl : 0 < L.length
    · simp [fnO, List.getD, hl] at h
    · simp [fnO, List.getD, hl] at h
  rw [hL0, fnO_ne h0] at h
  have := t.tok.le ha
  have := (t.tok.up h0 h).2.2.1
  omega
/-- on the climb from p toward the one nearest above b. -/
def Climb (L0 : List (Option Nat)) (N : Nat → Option Nat) (b p : Nat) : Option Nat → Prop
  | none => fnO L0 b = none
  | some x => Anc N x p ∧ ∀ q, fnO L0 b = some q → Anc N q x
theorem Climb.start (t : NearOk n O P L) (hL0 : L0 = L.set 0 none) (hb : b ∈ O) (hp : p ∈ P b) (hpO : p ∈ O) : Climb L0 (fnO L) b p (some p) := by
  refine ⟨.refl, fun q hq => ?_⟩
  have h0 : b ≠ 0 := fun e => by
    subst e
    rw [hL0] at hq
    by_cases hl : 0 < L.length
    · simp [fnO, List.getD, hl] at hq
    · simp [fnO, List.getD, hl] at hq
  rw [hL0, fnO_ne h0] at hq
  have hqb : Anc (fnO L) q b := .up h0 hq .refl
  have hne : q ≠ b := fun e => by have := (t.tok.up h0 hq).2.2.1; rw [e] at this; omega
  refine (t.dom hpO).2 fun hA => ?_
  exact ((t.dom hb).1 hqb) (.step hA hp fun e => hne e.symm)
theorem Climb.step (hL0 : L0 = L.set 0 none) (h : Climb L0 (fnO L) b p (some x)) (hne : fnO L0 b ≠ some x) : Climb L0 (fnO L) b p (fnO L0 x) := by
  obtain ⟨h1, h2⟩ := h
  cases hx : fnO L0 x with
  | none =>
    cases hq : fnO L0 b with
    | none => exact hq
    | some q =>
      rcases (anc_up hL0).1 (h2 q hq) with e | ⟨r, h3, _⟩
      · subst e; exact absurd hq hne
      · rw [hx] at h3; cases h3
  | some r =>
    refine ⟨((anc_up hL0).2 (.inr ⟨r, hx, .refl⟩)).trans h1, fun q hq => ?_⟩
    rcases (anc_up hL0).1 (h2 q hq) with e | ⟨r', h3, h4⟩
    · subst e; exact absurd hq hne
    · rw [hx] at h3
      obtain rfl := Option.some.inj h3
      exact h4
/-- one block more on the climb. -/
theorem SC.step (t : NearOk n O P L) (hL0 : L0 = L.set 0 none) (hxp : Anc (fnO L) x p) : SC O P L0 (fnO L) l b ps p (fnO L0 x) y c ↔ SC O P L0 (fnO L) l b ps p (some x) y c ∨ y = x ∧ c = b := by
  have e : ∀ z, (∃ x', some x = some x' ∧ Anc (fnO L) z x') ↔ Anc (fnO L) z x := fun z => ⟨fun ⟨x', h1, h2⟩ => by obtain rfl := Option.some.inj h1; exact h2, fun h => ⟨x, rfl, h⟩⟩
  unfold SC
  rw [e]
  constructor
  · rintro (h | ⟨rfl, h1, h2⟩)
    · exact .inl (.inl h)
    · by_cases hy : y = x
      · exact .inr ⟨hy, rfl⟩
      · exact .inl (.inr ⟨rfl, h1, fun h3 => by
          rcases (anc_up hL0).1 h3 with e | h4
          · exact hy e
          · exact h2 h4⟩)
  · rintro ((h | ⟨rfl, h1, h2⟩) | ⟨rfl, rfl⟩)
    · exact .inl h
    · exact .inr ⟨rfl, h1, fun h3 => h2 ((anc_up hL0).2 (.inr h3))⟩
    · exact .inr ⟨rfl, hxp, fun ⟨q, h3, h4⟩ => anc_not t hL0 h3 h4⟩
theorem SC.start : SC O P L0 N l b ps p (some p) y c ↔ SP O P L0 N l b ps y c := by
  unfold SC
  constructor
  · rintro (h | ⟨_, h1, h2⟩)
    · exact h
    · exact absurd ⟨p, rfl, h1⟩ h2
  · exact .inl
theorem SC.stop (hp : p ∈ O) : SC O P L0 N l b ps p (fnO L0 b) y c ↔ SP O P L0 N l b (ps ++ [p]) y c := by
  unfold SC SP
  constructor
  · rintro ((h | ⟨h, q, h1, h2⟩) | ⟨h, h1, h2⟩)
    · exact .inl h
    · exact .inr ⟨h, q, by simp [h1], h2⟩
    · exact .inr ⟨h, p, by simp, hp, h1, h2⟩
  · rintro (h | ⟨h, q, h1, h2, h3, h4⟩)
    · exact .inl (.inl h)
    · rcases List.mem_append.1 h1 with h1 | h1
      · exact .inl (.inr ⟨h, q, h1, h2, h3, h4⟩)
      · simp at h1; subst h1; exact .inr ⟨h, h3, h4⟩
theorem SP.out (hp : p ∉ O) : SP O P L0 N l b (ps ++ [p]) y c ↔ SP O P L0 N l b ps y c := by
  unfold SP
  constructor
  · rintro (h | ⟨h, q, h1, h2⟩)
    · exact .inl h
    · rcases List.mem_append.1 h1 with h1 | h1
      · exact .inr ⟨h, q, h1, h2⟩
      · simp at h1; subst h1; exact absurd h2.1 hp
  · rintro (h | ⟨h, q, h1, h2⟩)
    · exact .inl h
    · exact .inr ⟨h, q, by simp [h1], h2⟩
theorem SP.start : SP O P L0 N l b [] y c ↔ SF O P L0 N l y c := by simp [SP]
theorem SP.stop : SP O P L0 N l b (P b) y c ↔ SF O P L0 N (l ++ [b]) y c := by
  unfold SP SF
  constructor
  · rintro (⟨h1, h2⟩ | ⟨rfl, h⟩)
    · exact ⟨by simp [h1], h2⟩
    · exact ⟨by simp, h⟩
  · rintro ⟨h1, h2⟩
    rcases List.mem_append.1 h1 with h1 | h1
    · exact .inl ⟨h1, h2⟩
    · simp at h1; subst h1; exact .inr ⟨rfl, h2⟩
open Classical in
/-- the front of x, sorted. -/
noncomputable def frontL (n : Nat) (S : Nat → Nat → Prop) (x : Nat) : List Nat := (List.range n).filter fun b => decide (S x b)
theorem FrI.sorted (h : FrI n S X) (hx : x < n) (hS : ∀ b, S x b → b < n) : (X.getD x []).mergeSort (fun a b => decide (a ≤ b)) = ints (frontL n S x) := by
  have hp := List.mergeSort_perm (X.getD x []) (fun a b => decide (a ≤ b))
  have hs := List.pairwise_mergeSort (le := fun (a b : Int) => decide (a ≤ b)) (fun a b c h1 h2 => by simp at *; omega) (fun a b => by simp; omega) (X.getD x [])
  have hr : (ints (frontL n S x)).Pairwise (fun a b => decide (a ≤ b) = true) := by
    unfold ints frontL
    rw [List.pairwise_map]
    refine (List.Pairwise.filter _ List.pairwise_lt_range).imp fun h => ?_
    simp
    omega
  have hn2 : (ints (frontL n S x)).Nodup := by
    unfold ints frontL List.Nodup
    rw [List.pairwise_map]
    refine (List.Pairwise.filter _ List.pairwise_lt_range).imp fun h => ?_
    intro e
    simp at e
    omega
  refine List.Perm.eq_of_pairwise (fun a b _ _ h1 h2 => by simp at h1 h2; omega) hs hr (hp.trans ((List.perm_ext_iff_of_nodup (h.nod x hx) hn2).2 fun z => ?_))
  rw [h.mem x hx]
  unfold ints frontL
  rw [List.mem_map]
  constructor
  · rintro ⟨b, h1, h2⟩
    exact ⟨b, by simp [h2, hS b h2], by rw [h1]; rfl⟩
  · rintro ⟨b, h1, h2⟩
    simp at h1
    exact ⟨b, h2.symm, h1.2⟩
theorem FrI.row_le (h : FrI n S X) (hx : x < n) (hS : ∀ b, S x b → b < n) : (X.getD x []).length ≤ n := by
  have h1 := congrArg List.length (h.sorted hx hS)
  rw [List.length_mergeSort] at h1
  rw [h1]
  unfold ints frontL
  rw [List.length_map]
  exact Nat.le_trans (List.length_filter_le _ _) (by simp)
end
end Go.Proofs.YtcjodjmmojbigaaGreatDoor
