/- A row of rows of numbers that the call makes: each row its own block. No program's code in sight. -/
import Derived.Test.YteajnaabbddohaaGreatDoorOrder
namespace Go.Proofs.YteajnaabbddohaaGreatDoor
open Go.RowKit

section
variable {P : Program}
/-- append of one cell: the row stays where it is, or lies in a new block. -/
theorem wpList_append1F (w : World) {ops : Array Oper} {rest : List Oper} {o : Oper} {a : Act} {Q : Exit → Act → World → Prop} (hgd : o.guard = none) (s x : Operand) (t : TypeId)
    (ho : o.op = .call { callee := .builtin .append, args := #[s, x], argTypes := #[t, t] })
    (base : Nat) (e : TypeId) (bytes : Nat) (ht : P.underlying t = some (.slice e)) {z : Value} (hinf : (P.info? e).map (fun i => (i.zero, i.size, i.bytes)) = some (some z, 1, bytes)) (hz1 : z.cells.size = 1)
    (v : Value) (n : Nat) (xs : List Value) (hs : a.eval s = v) (hown : w.ownsRow base e 1 v n xs)
    (N : Nat) (hN : w.heap.size = N) (u : Value) (hx : a.eval x = .slice (some ⟨N, 0, none⟩) 1 1) (h1 : u.oneCell' = true)
    (h63 : n < 1048576) (hby : bytes ≤ 64) (hbase : base ≤ w.heap.size)
    (h : ∀ v' w', w'.ownsRow base e 1 v' (n + 1) (xs ++ [u]) → (w.alloc (.cells #[u] e)).grownBy w' v.ownBlock → (∀ k, v'.ownBlock = some k → v.ownBlock = some k ∨ w.heap.size < k) → wpList P ops Q rest (a.put o.dst v') w') :
    wpList P ops Q (o :: rest) a (w.alloc (.cells #[u] e)) := by
  subst hN
  obtain ⟨i, hi, hz, hsz, hb⟩ := info_parts hinf
  have hown' := hown.alloc (.cells #[u] e)
  have hnews := cell_new_one w u e
  have hbytes : (n + 1) * bytes ≤ 140737488355328 := by
    calc (n + 1) * bytes ≤ 1048576 * 64 := Nat.mul_le_mul (by omega) hby
      _ ≤ 140737488355328 := by decide
  obtain ⟨v', w', hr, h2, h3, -⟩ := run_append_own (P := P) (w.alloc (.cells #[u] e)) base t o.type e i z 1 bytes ht hi hz hsz hb hz1 (by decide) v n xs hown' ⟨w.heap.size, 0, none⟩ 1 1 [u] rfl hnews (by simpa using h1) (by unfold maxLen; omega) hbytes (by simp; omega)
  have h4 : ∀ k, v'.ownBlock = some k → v.ownBlock = some k ∨ w.heap.size < k := by
    rcases hown'.2 with ⟨rfl, rfl⟩ | ⟨g, cap, cur, rfl, hbg, hg, hnc, hcm, hcs, htake⟩
    · have hr2 := run_append_nil (P := P) (w.alloc (.cells #[u] e)) t o.type e i z ht hi hz ⟨w.heap.size, 0, none⟩ 1 1 [u] (by rw [hsz]; rfl) hnews (by decide) (by decide) (by rw [hb]; omega)
      rw [hr2] at hr
      injection hr with e1 e2
      intro k hk
      rw [← e1] at hk
      simp only [Value.ownBlock, Option.some.injEq] at hk
      right
      rw [← hk]
      simp
    · by_cases hroom : n + 1 ≤ cap
      · obtain ⟨w2, hr2, -, -⟩ := run_append_fits (P := P) (w.alloc (.cells #[u] e)) base t o.type e i 1 ht hi hsz g n cap xs hown' ⟨w.heap.size, 0, none⟩ 1 1 [u] rfl hnews (by simpa using h1) hroom
        rw [hr2] at hr
        injection hr with e1 e2
        intro k hk
        rw [← e1] at hk
        exact .inl hk
      · have holds : ∀ j u', xs[j]? = some u' → (w.alloc (.cells #[u] e)).cell? ((⟨g, 0, none⟩ : Addr).add j) = some u' := hown'.cells (g := g) rfl
        have hr2 := run_append_grow (P := P) (w.alloc (.cells #[u] e)) t o.type e i z ht hi hz ⟨g, 0, none⟩ n cap xs (by rw [hsz]; exact hown'.1) holds ⟨w.heap.size, 0, none⟩ 1 1 [u] (by rw [hsz]; rfl) hnews (by omega) (by omega) (growslice_fits (by omega) (by rw [hb]; exact hbytes))
        rw [hr2] at hr
        injection hr with e1 e2
        intro k hk
        rw [← e1] at hk
        simp only [Value.ownBlock, Option.some.injEq] at hk
        right
        rw [← hk]
        simp
  refine wpList_plain hgd fun _ hK => ?_
  unfold Oper.wp execOp
  simp only [ho, resolve, invoke, builtin, Sem.run_bind, Sem.run_pure, Result.andThen_ok, List.map_toArray, List.map_cons, List.map_nil, hs, hx, hr]
  exact hK _ _ (h v' w' h2 (by simpa using h3) h4)
end
/-- block g holds rows of numbers, each in a block of its own. -/
def OwnRows (w : World) (base : Nat) (ti te : TypeId) (g : Nat) (av : Nat → Prop) (xss : List (List Int)) : Prop :=
  ∃ vs : List Value, vs.length = xss.length ∧ w.ownsRow base ti 1 (.slice (some ⟨g, 0, none⟩) xss.length xss.length) xss.length vs ∧
    (∀ (i : Nat) (v : Value) (xs : List Int), vs[i]? = some v → xss[i]? = some xs → w.ownsRow base te 1 v xs.length (xs.map (Value.int .i64))) ∧
    (∀ (i j : Nat) (vi vj : Value) (b : Nat), i ≠ j → vs[i]? = some vi → vs[j]? = some vj → vi.ownBlock = some b → vj.ownBlock ≠ some b) ∧
    ∀ (i : Nat) (v : Value) (b : Nat), vs[i]? = some v → v.ownBlock = some b → ¬ av b
theorem OwnRows.below {w w' : World} {base g : Nat} {ti te : TypeId} {av : Nat → Prop} {xss : List (List Int)} (h : OwnRows w base ti te g av xss) (hb : Below w.heap.size w w') : OwnRows w' base ti te g av xss := by
  obtain ⟨vs, h1, h2, h3, h4, h5⟩ := h
  exact ⟨vs, h1, own_below h2 hb, fun i v xs hv hx => own_below (h3 i v xs hv hx) hb, h4, h5⟩
theorem OwnRows.at_ {w : World} {base g : Nat} {ti te : TypeId} {av : Nat → Prop} {xss : List (List Int)} (h : OwnRows w base ti te g av xss) {c : Nat} (hc : c < xss.length) :
    ∃ v, w.cell? ⟨g, c, none⟩ = some v ∧ w.ownsRow base te 1 v (xss.getD c []).length ((xss.getD c []).map (Value.int .i64)) := by
  obtain ⟨vs, h1, h2, h3, h4, h5⟩ := h
  have hv : vs[c]? = some vs[c] := List.getElem?_eq_getElem (by omega)
  refine ⟨vs[c], ?_, h3 c _ _ hv (by simp [hc])⟩
  rw [h2.cellAt c (by omega)]
  exact hv
theorem OwnRows.step {w w3 : World} {base g : Nat} {ti te : TypeId} {av : Nat → Prop} {xss : List (List Int)} (h : OwnRows w base ti te g av xss) (hne : ti ≠ te) {c : Nat} (hc : c < xss.length) {v v' : Value} {x : Int} {o : Obj} (hv : w.cell? ⟨g, c, none⟩ = some v)
    (hown : w3.ownsRow base te 1 v' ((xss.getD c []).length + 1) ((xss.getD c []).map (Value.int .i64) ++ [.int .i64 x])) (hg : (w.alloc o).grownBy w3 v.ownBlock) (hfr : ∀ k, v'.ownBlock = some k → v.ownBlock = some k ∨ w.heap.size < k) (hav : ∀ k, w.heap.size < k → ¬ av k) :
    OwnRows (w3.setCell ⟨g, c, none⟩ v') base ti te g av (xss.set c ((xss.getD c []) ++ [x])) ∧ ∀ b j, av b → b ≠ g → b < w.heap.size → (w3.setCell ⟨g, c, none⟩ v').cell? ⟨b, j, none⟩ = w.cell? ⟨b, j, none⟩ := by
  obtain ⟨vs, h1, h2, h3, h4, h5⟩ := h
  have hvc : vs[c]? = some v := by
    have := h2.cellAt c (by omega)
    rw [hv] at this
    exact this.symm
  have hrow := h3 c v _ hvc (show xss[c]? = some (xss.getD c []) by simp [hc])
  have ha : Below w.heap.size w (w.alloc o) := (Below.refl _ _).alloc (Nat.le_refl _) _
  have hg3 : w3.ownsRow base ti 1 (.slice (some ⟨g, 0, none⟩) xss.length xss.length) xss.length vs :=
    own_grown h2 ha hg (fun b hb => own_ne h2 hrow hne hb)
  have hst := (hg3.stored c v').1
  refine ⟨⟨vs.set c v', by simp [h1], by simpa using hst, fun i vi xs hi hx => ?_, fun i j vi vj b hij hi hj hbi => ?_, fun i vi b hi hbi => ?_⟩, fun b j hb hbg hbl => ?_⟩
  rotate_left 2
  · by_cases hic : c = i
    · subst hic
      rw [List.getElem?_set_self (by omega)] at hi
      simp only [Option.some.injEq] at hi
      subst hi
      rcases hfr b hbi with hb | hb
      · exact h5 c v b hvc hb
      · exact hav b hb
    · rw [List.getElem?_set_ne hic] at hi
      exact h5 i vi b hi hbi
  · rw [World.cell?_setCell_far _ _ _ _ (by simpa using fun e => hbg e.symm)]
    have hnb : some b ≠ v.ownBlock := fun e => h5 c v b hvc e.symm hb
    rw [World.cell?_of_block (w := w.alloc o) (hg.block b (by simp; omega) hnb)]
    exact World.cell?_of_block (heap_alloc_old w o hbl)
  · have hgne : ∀ {vx : Value} {nx : Nat} {xx : List Value}, w3.ownsRow base te 1 vx nx xx → vx.ownBlock ≠ some g := fun hx => own_ne hg3 hx hne rfl
    by_cases hic : c = i
    · subst hic
      rw [List.getElem?_set_self (by omega)] at hi hx
      simp only [Option.some.injEq] at hi hx
      subst hi hx
      refine ownsRow_setCell_other (a := ⟨g, c, none⟩) ?_ (hgne hown) v'
      simpa using hown
    · rw [List.getElem?_set_ne hic] at hi hx
      have h5x := h3 i vi xs hi hx
      have h6 : w3.ownsRow base te 1 vi xs.length (xs.map (Value.int .i64)) := own_grown h5x ha hg (fun b hb hb' => h4 c i v vi b hic hvc hi hb' hb)
      exact ownsRow_setCell_other (a := ⟨g, c, none⟩) h6 (hgne h6) v'
  · have hlt : ∀ (k : Nat) (vk : Value), vs[k]? = some vk → vk.ownBlock = some b → b < w.heap.size := fun k vk hk hb => by
      have hkl : k < xss.length := by rw [← h1]; exact (List.getElem?_eq_some_iff.1 hk).1
      exact (own_lt (h3 k vk _ hk (List.getElem?_eq_getElem hkl)) hb).2
    by_cases hic : c = i
    · subst hic
      rw [List.getElem?_set_self (by omega)] at hi
      simp only [Option.some.injEq] at hi
      subst hi
      rw [List.getElem?_set_ne hij] at hj
      intro hbj
      rcases hfr b hbi with hb | hb
      · exact h4 c j v vj b hij hvc hj hb hbj
      · have := hlt j vj hj hbj
        omega
    · rw [List.getElem?_set_ne hic] at hi
      by_cases hjc : c = j
      · subst hjc
        rw [List.getElem?_set_self (by omega)] at hj
        simp only [Option.some.injEq] at hj
        subst hj
        intro hbj
        rcases hfr b hbj with hb | hb
        · exact h4 i c vi v b hij hi hvc hbi hb
        · have := hlt i vi hi hbi
          omega
      · rw [List.getElem?_set_ne hjc] at hj
        exact h4 i j vi vj b hij hi hj hbi
theorem OwnRows.mid {w w3 : World} {base g : Nat} {ti te : TypeId} {av : Nat → Prop} {xss : List (List Int)} (h : OwnRows w base ti te g av xss) (hne : ti ≠ te) {c : Nat} (hc : c < xss.length) {v : Value} {o : Obj} (hv : w.cell? ⟨g, c, none⟩ = some v)
    (hg : (w.alloc o).grownBy w3 v.ownBlock) : w3.cell? ⟨g, c, none⟩ = some v ∧ w3.frozen? ⟨g, c, none⟩ = false ∧ g < w3.heap.size := by
  obtain ⟨vs, h1, h2, h3, h4, h5⟩ := h
  have hvc : vs[c]? = some v := by
    have := h2.cellAt c (by omega)
    rw [hv] at this
    exact this.symm
  have hrow := h3 c v _ hvc (show xss[c]? = some (xss.getD c []) by simp [hc])
  have ha : Below w.heap.size w (w.alloc o) := (Below.refl _ _).alloc (Nat.le_refl _) _
  have hg3 : w3.ownsRow base ti 1 (.slice (some ⟨g, 0, none⟩) xss.length xss.length) xss.length vs :=
    own_grown h2 ha hg (fun b hb => own_ne h2 hrow hne hb)
  exact ⟨(hg3.cellAt c (by omega)).trans hvc, hg3.frozenAt c, (hg3.lt g rfl).2⟩
/-- rows of numbers, read. -/
def RowC (w : World) (B : Nat) (b o : Nat) (xs : List Int) : Prop := ∃ v, w.cell? ⟨b, o, none⟩ = some v ∧ SInts w B v xs
def RetRows (w : World) (xss : List (List Int)) (e : Ending) (w' : World) : Prop :=
  ∃ A c, e = .returned (.slice A xss.length c) ∧ Len xss.length ∧ xss.length ≤ c ∧ Rd w'.heap.size A xss 1 (RowC w' w'.heap.size) ∧ Below w.heap.size w w'
theorem OwnRows.ret {w w' : World} {base g : Nat} {ti te : TypeId} {av : Nat → Prop} {xss : List (List Int)} (h : OwnRows w' base ti te g av xss) (hb : Below w.heap.size w w') (hn : xss.length ≤ 1048576) (hm : ∀ xs ∈ xss, xs.length ≤ 1048576) : RetRows w xss (.returned (.slice (some ⟨g, 0, none⟩) xss.length xss.length)) w' := by
  obtain ⟨vs, h1, h2, h3, h4, h5⟩ := h
  refine ⟨_, _, rfl, by unfold Len; omega, Nat.le_refl _, fun i xs hx => ?_, hb⟩
  have hi : i < xss.length := (List.getElem?_eq_some_iff.1 hx).1
  have hg := h2.lt g rfl
  refine ⟨g, 0, rfl, hg.2, vs[i], ?_, ?_⟩
  · have := h2.cellAt i (by omega)
    rw [show (0 + i * 1) = i by omega, this]
    exact List.getElem?_eq_getElem (by omega)
  · have h6 := h3 i vs[i] xs (List.getElem?_eq_getElem (by omega)) hx
    obtain ⟨A, c, hv⟩ := own_form h6
    rw [hv] at h6 ⊢
    obtain ⟨-, hc, hr⟩ := Rd.of_own h6
    have := hm xs (List.mem_of_getElem? hx)
    exact hr.sints (by unfold Len; omega) hc
theorem OwnRows.made {w : World} {base g n : Nat} {ti te : TypeId} {av : Nat → Prop} (h : w.ownsRow base ti 1 (.slice (some ⟨g, 0, none⟩) n n) n (List.replicate n (.slice none 0 0))) : OwnRows w base ti te g av (List.replicate n []) := by
  refine ⟨List.replicate n (.slice none 0 0), by simp, by simpa using h, fun i v xs hv hx => ?_, fun i j vi vj b _ hi _ hb => ?_, fun i vi b hi hb => ?_⟩
  · obtain ⟨-, rfl⟩ : _ ∧ v = .slice none 0 0 := by
      rw [List.getElem?_replicate] at hv; split at hv <;> simp at hv; exact ⟨‹_›, hv.symm⟩
    obtain rfl : xs = [] := by
      rw [List.getElem?_replicate] at hx; split at hx <;> simp at hx; exact hx
    exact World.ownsRow_nil _ _ _ _
  · obtain rfl : vi = .slice none 0 0 := by
      rw [List.getElem?_replicate] at hi; split at hi <;> simp at hi; exact hi.symm
    simp [Value.ownBlock] at hb
  · obtain rfl : vi = .slice none 0 0 := by
      rw [List.getElem?_replicate] at hi; split at hi <;> simp at hi; exact hi.symm
    simp [Value.ownBlock] at hb
/-- what has come since is avoided. -/
theorem OwnRows.avoid {w w' : World} {base g : Nat} {ti te : TypeId} {av : Nat → Prop} {xss : List (List Int)} (h : OwnRows w base ti te g av xss) (hb : Below w.heap.size w w') {hi : Nat} : OwnRows w' base ti te g (fun k => w.heap.size ≤ k ∧ k < hi) xss := by
  have h' := h
  obtain ⟨vs, h1, h2, h3, h4, -⟩ := h
  refine ⟨vs, h1, own_below h2 hb, fun i v xs hv hx => own_below (h3 i v xs hv hx) hb, h4, fun i v b hv hbv => ?_⟩
  have hkl : i < xss.length := by rw [← h1]; exact (List.getElem?_eq_some_iff.1 hv).1
  have := (own_lt (h3 i v _ hv (List.getElem?_eq_getElem hkl)) hbv).2
  omega
theorem OwnRows.free {w : World} {base g : Nat} {ti te : TypeId} {av : Nat → Prop} {xss : List (List Int)} (h : OwnRows w base ti te g av xss) : OwnRows w base ti te g (fun _ => False) xss := by
  obtain ⟨vs, h1, h2, h3, h4, -⟩ := h
  exact ⟨vs, h1, h2, h3, h4, fun _ _ _ _ _ h => h⟩
theorem OwnRows.blk {w : World} {base g : Nat} {ti te : TypeId} {av : Nat → Prop} {xss : List (List Int)} (h : OwnRows w base ti te g av xss) : base ≤ g ∧ g < w.heap.size := by
  obtain ⟨vs, h1, h2, h3, h4, -⟩ := h
  exact h2.lt g rfl
theorem OwnRows.frozen {w : World} {base g : Nat} {ti te : TypeId} {av : Nat → Prop} {xss : List (List Int)} (h : OwnRows w base ti te g av xss) (c : Nat) : w.frozen? ⟨g, c, none⟩ = false := by
  obtain ⟨vs, h1, h2, h3, h4, -⟩ := h
  exact h2.frozenAt c
end Go.Proofs.YteajnaabbddohaaGreatDoor
