/- A row of rows of structs that the call makes: each row its own block. No program's code in sight. Where each variable of a program is made: the plain lists. No program's code in sight. The walk of single.makings: of each variable all places that make it, in their order; of a typed program. The walk of single.once of a typed program: each variable is made at most once, and no parameter. -/
import Derived.Test.YtjboifobjggbbaaGreatDoorSlc
import Derived.Test.YtjboifobjggbbaaGreatDoorTreeP
import Derived.Test.YtjboifobjggbbaaGreatDoorPreds
import Derived.Test.YtjboifobjggbbaaGreatDoorSch
import Derived.Test.YtjboifobjggbbaaGreatDoorNewP
namespace Go.Proofs.YtjboifobjggbbaaGreatDoor
open Go.RowKit
set_option maxRecDepth 100000
def RowsE {α : Type} (w : World) (base : Nat) (te : TypeId) (sz : Nat) (enc : α → List Value) (lo : Nat) (vs : List Value) (xss : List (List α)) : Prop :=
 vs.length = xss.length ∧
  (∀ (i : Nat) (v : Value) (xs : List α), lo ≤ i → vs[i]? = some v → xss[i]? = some xs → w.ownsRow base te sz v xs.length (xs.flatMap enc)) ∧
  (∀ (i j : Nat) (vi vj : Value) (b : Nat), lo ≤ i → lo ≤ j → i ≠ j → vs[i]? = some vi → vs[j]? = some vj → vi.ownBlock = some b → vj.ownBlock ≠ some b)
def OwnRowsE {α : Type} (w : World) (base : Nat) (ti te : TypeId) (sz : Nat) (enc : α → List Value) (g : Nat) (xss : List (List α)) : Prop :=
 ∃ vs : List Value, w.ownsRow base ti 1 (.slice (some ⟨g, 0, none⟩) xss.length xss.length) xss.length vs ∧ RowsE w base te sz enc 0 vs xss
section
variable {α : Type} {w w' w3 : World} {base g sz lo : Nat} {ti te : TypeId} {enc : α → List Value} {xss : List (List α)} {vs : List Value}
theorem RowsE.below (h : RowsE w base te sz enc lo vs xss) (hb : Below w.heap.size w w') : RowsE w' base te sz enc lo vs xss :=
 ⟨h.1, fun i v xs hl hv hx => own_below (h.2.1 i v xs hl hv hx) hb, h.2.2⟩
theorem RowsE.up {lo' : Nat} (h : RowsE w base te sz enc lo vs xss) (hl : lo ≤ lo') : RowsE w base te sz enc lo' vs xss :=
 ⟨h.1, fun i v xs h1 => h.2.1 i v xs (Nat.le_trans hl h1), fun i j vi vj b h1 h2 => h.2.2 i j vi vj b (Nat.le_trans hl h1) (Nat.le_trans hl h2)⟩
theorem RowsE.row (h : RowsE w base te sz enc lo vs xss) {c : Nat} (hc : c < xss.length) (hl : lo ≤ c) : ∃ v, vs[c]? = some v ∧ w.ownsRow base te sz v (xss.getD c []).length ((xss.getD c []).flatMap enc) := by
 have hv : vs[c]? = some (vs[c]'(by rw [h.1]; exact hc)) := List.getElem?_eq_getElem _
 exact ⟨_, hv, h.2.1 c _ _ hl hv (by simp [hc])⟩
theorem RowsE.next (h : RowsE w base te sz enc lo vs xss) {c : Nat} (hl : lo ≤ c) {v : Value} (hv : vs[c]? = some v) {o : Obj} (hg : (w.alloc o).grownBy w3 v.ownBlock) : RowsE w3 base te sz enc (c + 1) vs xss :=
 ⟨h.1, fun i vi xs hi hvi hx => own_grown (h.2.1 i vi xs ZO hvi hx) ((Below.refl _ _).alloc (Nat.le_refl _) _) hg (fun b hb hb' => h.2.2 c i v vi b hl ZO ZO hv hvi hb' hb),
   fun i j vi vj b h1 h2 => h.2.2 i j vi vj b ZO ZO⟩
theorem RowsE.far (h : RowsE w base te sz enc lo vs xss) {N : Nat} (hN : ∀ (i : Nat) (v : Value) (b : Nat), vs[i]? = some v → v.ownBlock = some b → b < N) {o : Obj} {r : Option Nat} (hg : (w.alloc o).grownBy w3 r) (hr : ∀ b, r = some b → N ≤ b) : RowsE w3 base te sz enc lo vs xss :=
 ⟨h.1, fun i vi xs hi hvi hx => own_grown (h.2.1 i vi xs hi hvi hx) ((Below.refl _ _).alloc (Nat.le_refl _) _) hg (fun b hb hb' => by have := hN i vi b hvi hb; have := hr b hb'; omega), h.2.2⟩
theorem OwnRowsE.below (h : OwnRowsE w base ti te sz enc g xss) (hb : Below w.heap.size w w') : OwnRowsE w' base ti te sz enc g xss := by
 obtain ⟨vs, h1, h2⟩ := h
 exact ⟨vs, own_below h1 hb, h2.below hb⟩
theorem OwnRowsE.at_ (h : OwnRowsE w base ti te sz enc g xss) {c : Nat} (hc : c < xss.length) :
 ∃ v, w.cell? ⟨g, c, none⟩ = some v ∧ w.ownsRow base te sz v (xss.getD c []).length ((xss.getD c []).flatMap enc) := by
 obtain ⟨vs, h1, h2⟩ := h
 obtain ⟨v, hv, ho⟩ := h2.row hc (Nat.zero_le _)
 exact ⟨v, by rw [h1.cellAt c ZO]; exact hv, ho⟩
theorem OwnRowsE.blk (h : OwnRowsE w base ti te sz enc g xss) : base ≤ g ∧ g < w.heap.size := by
 obtain ⟨vs, h1, h2⟩ := h
 exact h1.lt g rfl
theorem OwnRowsE.frozen (h : OwnRowsE w base ti te sz enc g xss) (c : Nat) : w.frozen? ⟨g, c, none⟩ = false := by
 obtain ⟨vs, h1, h2⟩ := h
 exact h1.frozenAt c
theorem OwnRowsE.mid (h : OwnRowsE w base ti te sz enc g xss) (hne : ti ≠ te) {c : Nat} (hc : c < xss.length) {v : Value} {o : Obj} (hv : w.cell? ⟨g, c, none⟩ = some v)
 (hg : (w.alloc o).grownBy w3 v.ownBlock) : w3.cell? ⟨g, c, none⟩ = some v ∧ w3.frozen? ⟨g, c, none⟩ = false ∧ g < w3.heap.size := by
 obtain ⟨vs, h2, h3⟩ := h
 have hvc : vs[c]? = some v := by
  have := h2.cellAt c ZO
  rw [hv] at this
  exact this.symm
 have hrow := h3.2.1 c v _ (Nat.zero_le _) hvc (show xss[c]? = some (xss.getD c []) by simp [hc])
 have ha : Below w.heap.size w (w.alloc o) := (Below.refl _ _).alloc (Nat.le_refl _) _
 have hg3 : w3.ownsRow base ti 1 (.slice (some ⟨g, 0, none⟩) xss.length xss.length) xss.length vs :=
  own_grown h2 ha hg (fun b hb => own_ne h2 hrow hne hb)
 exact ⟨(hg3.cellAt c ZO).trans hvc, hg3.frozenAt c, (hg3.lt g rfl).2⟩
theorem OwnRowsE.step (h : OwnRowsE w base ti te sz enc g xss) (hne : ti ≠ te) {c : Nat} (hc : c < xss.length) {v v' : Value} {x : α} {o : Obj} (hv : w.cell? ⟨g, c, none⟩ = some v)
 (hown : w3.ownsRow base te sz v' ((xss.getD c []).length + 1) ((xss.getD c []).flatMap enc ++ enc x)) (hg : (w.alloc o).grownBy w3 v.ownBlock) (hfr : ∀ k, v'.ownBlock = some k → v.ownBlock = some k ∨ w.heap.size < k) :
 OwnRowsE (w3.setCell ⟨g, c, none⟩ v') base ti te sz enc g (xss.set c ((xss.getD c []) ++ [x])) := by
 obtain ⟨vs, h2, h1, h3, h4⟩ := h
 have hvc : vs[c]? = some v := by
  have := h2.cellAt c ZO
  rw [hv] at this
  exact this.symm
 have hrow := h3 c v _ (Nat.zero_le _) hvc (show xss[c]? = some (xss.getD c []) by simp [hc])
 have ha : Below w.heap.size w (w.alloc o) := (Below.refl _ _).alloc (Nat.le_refl _) _
 have hg3 : w3.ownsRow base ti 1 (.slice (some ⟨g, 0, none⟩) xss.length xss.length) xss.length vs :=
  own_grown h2 ha hg (fun b hb => own_ne h2 hrow hne hb)
 have hst := (hg3.stored c v').1
 refine ⟨vs.set c v', by simpa using hst, by simp [h1], fun i vi xs _ hi hx => ?_, fun i j vi vj b _ _ hij hi hj hbi => ?_⟩
 · have hgne : ∀ {vx : Value} {nx : Nat} {xx : List Value}, w3.ownsRow base te sz vx nx xx → vx.ownBlock ≠ some g := fun hx => own_ne hg3 hx hne rfl
   by_cases hic : c = i
   · subst hic
     rw [List.getElem?_set_self ZO] at hi hx
     simp only [Option.some.injEq] at hi hx
     subst hi hx
     refine ownsRow_setCell_other (a := ⟨g, c, none⟩) ?_ (hgne hown) v'
     simpa using hown
   · rw [List.getElem?_set_ne hic] at hi hx
     have h5x := h3 i vi xs (Nat.zero_le _) hi hx
     have h6 : w3.ownsRow base te sz vi xs.length (xs.flatMap enc) := own_grown h5x ha hg (fun b hb hb' => h4 c i v vi b (Nat.zero_le _) (Nat.zero_le _) hic hvc hi hb' hb)
     exact ownsRow_setCell_other (a := ⟨g, c, none⟩) h6 (hgne h6) v'
 · have hlt : ∀ (k : Nat) (vk : Value), vs[k]? = some vk → vk.ownBlock = some b → b < w.heap.size := fun k vk hk hb => by
    have hkl : k < xss.length := by rw [← h1]; exact (List.getElem?_eq_some_iff.1 hk).1
    exact (own_lt (h3 k vk _ (Nat.zero_le _) hk (List.getElem?_eq_getElem hkl)) hb).2
   by_cases hic : c = i
   · subst hic
     rw [List.getElem?_set_self ZO] at hi
     simp only [Option.some.injEq] at hi
     subst hi
     rw [List.getElem?_set_ne hij] at hj
     intro hbj
     rcases hfr b hbi with hb | hb
     · exact h4 c j v vj b (Nat.zero_le _) (Nat.zero_le _) hij hvc hj hb hbj
     · have := hlt j vj hj hbj
       omega
   · rw [List.getElem?_set_ne hic] at hi
     by_cases hjc : c = j
     · subst hjc
       rw [List.getElem?_set_self ZO] at hj
       simp only [Option.some.injEq] at hj
       subst hj
       intro hbj
       rcases hfr b hbj with hb | hb
       · exact h4 i c vi v b (Nat.zero_le _) (Nat.zero_le _) hij hi hvc hbi hb
       · have := hlt i vi hi hbi
         omega
     · rw [List.getElem?_set_ne hjc] at hj
       exact h4 i j vi vj b (Nat.zero_le _) (Nat.zero_le _) hij hi hj hbi
theorem OwnRowsE.made {n : Nat} (h : w.ownsRow base ti 1 (.slice (some ⟨g, 0, none⟩) n n) n (List.replicate n (.slice none 0 0))) : OwnRowsE w base ti te sz enc g (List.replicate n ([] : List α)) := by
 refine ⟨List.replicate n (.slice none 0 0), by simpa using h, ZS, fun i v xs _ hv hx => ?_, fun i j vi vj b _ _ _ hi _ hb => ?_⟩
 · obtain ⟨-, rfl⟩ : _ ∧ v = .slice none 0 0 := by
    rw [List.getElem?_replicate] at hv; split at hv <;> simp at hv; exact ⟨‹_›, hv.symm⟩
   obtain rfl : xs = [] := by
    rw [List.getElem?_replicate] at hx; split at hx <;> simp at hx; exact hx
   exact World.ownsRow_nil _ _ _ _
 · obtain rfl : vi = .slice none 0 0 := by
    rw [List.getElem?_replicate] at hi; split at hi <;> simp at hi; exact hi.symm
   simp [Value.ownBlock] at hb
end
def encP (p : Int × Int) : List Value := [.int .i64 p.1, .int .i64 p.2]
def PlcC (w : World) (b o : Nat) (p : Int × Int) : Prop := w.cell? ⟨b, o, none⟩ = some (.int .i64 p.1) ∧ w.cell? ⟨b, o + 1, none⟩ = some (.int .i64 p.2)
def SPlc (w : World) (B : Nat) (v : Value) (xs : List (Int × Int)) : Prop := Sl B v xs 2 (PlcC w)
theorem SPlc.keep {w w' : World} {B B' : Nat} {v : Value} {xs : List (Int × Int)} (h : SPlc w B v xs) (hk : Kept B w w') (hB : B ≤ B') : SPlc w' B' v xs :=
 Sl.keep h hB fun b o x hb hx => by unfold PlcC at *; rw [hk b _ hb, hk b _ hb]; exact hx
theorem flatP_len (xs : List (Int × Int)) : (xs.flatMap encP).length = xs.length * 2 := by
 induction xs with
 | nil => rfl
 | cons a r ih => simp [List.flatMap_cons, ih, encP]; omega
theorem flatP_at : ∀ {xs : List (Int × Int)} {i : Nat} {p : Int × Int}, xs[i]? = some p → (xs.flatMap encP)[i * 2]? = some (.int .i64 p.1) ∧ (xs.flatMap encP)[i * 2 + 1]? = some (.int .i64 p.2)
 | [], i, p, h => by simp at h
 | a :: r, 0, p, h => by simp at h; subst h; simp [encP]
 | a :: r, i + 1, p, h => by
  have := flatP_at (xs := r) (i := i) (by simpa using h)
  rw [show (i + 1) * 2 = i * 2 + 2 from ZO]
  simpa [List.flatMap_cons, encP] using this
theorem SPlc.of_own {w : World} {base e n : Nat} {v : Value} {xs : List (Int × Int)} (h : w.ownsRow base e 2 v n (xs.flatMap encP)) (hn : n ≤ 1048576) : n = xs.length ∧ SPlc w w.heap.size v xs := by
 have hl := h.1
 rw [flatP_len] at hl
 have hnl : n = xs.length := by omega
 subst hnl
 refine ⟨rfl, ?_⟩
 rcases h.2 with ⟨rfl, h0⟩ | ⟨g, cap, cur, rfl, hb, hg, hnc, hcm, hsz, hcur⟩
 · have : xs = [] := List.eq_nil_of_length_eq_zero h0
   subst this
   exact ⟨none, 0, rfl, by simp [Len], Nat.le_refl _, fun i x hx => by simp at hx⟩
 · refine ⟨_, _, rfl, by unfold Len; omega, hnc, fun i x hx => ⟨g, 0, rfl, (Array.getElem?_eq_some_iff.1 hg).1, ?_⟩⟩
   have h2 := flatP_at hx
   have hi : i < xs.length := (List.getElem?_eq_some_iff.1 hx).1
   have hc := h.cells (g := g) rfl
   have e0 := hc _ _ h2.1
   have e1 := hc _ _ h2.2
   have a0 : ((⟨g, 0, none⟩ : Addr).add (i * 2)) = ⟨g, 0 + i * 2, none⟩ := by simp [Addr.add]; omega
   have a1 : ((⟨g, 0, none⟩ : Addr).add (i * 2 + 1)) = ⟨g, 0 + i * 2 + 1, none⟩ := by simp [Addr.add]
   rw [a0] at e0
   rw [a1] at e1
   exact ⟨e0, e1⟩
section
variable {P : Program}
theorem run_appendSF (w : World) {t ty : TypeId} (base : Nat) (e : TypeId) (sz bytes : Nat) (ht : P.underlying t = some (.slice e)) {z : Value} (hinf : (P.info? e).map (fun i => (i.zero, i.size, i.bytes)) = some (some z, sz, bytes)) (hz1 : z.cells.size = sz) (hsz : 0 < sz)
 (v : Value) (n : Nat) (xs : List Value) (hown : w.ownsRow base e sz v n xs) (us : Array Value) (hul : us.size = sz) (h1 : ∀ u ∈ us, u.oneCell' = true) (h63 : n < 1048576) (hby : bytes ≤ 128) (hbase : base ≤ w.heap.size) :
 ∃ v' w', (Builtin.append_ #[t, t] ty #[v, .slice (some ⟨w.heap.size, 0, none⟩) 1 1]).run P (w.alloc (.cells us e)) = .ok v' w' ∧ w'.ownsRow base e sz v' (n + 1) (xs ++ us.toList) ∧ (w.alloc (.cells us e)).grownBy w' v.ownBlock ∧
  ∀ k, v'.ownBlock = some k → v.ownBlock = some k ∨ w.heap.size < k := by
 obtain ⟨i, hi, hz, hisz, hb⟩ := info_parts hinf
 have hnews : ∀ j u, us.toList[j]? = some u → (w.alloc (.cells us e)).cell? ((⟨w.heap.size, 0, none⟩ : Addr).add j) = some u := fun j u hu => by
  have := (BoxAt.new w us e).cell j
  rw [show ((⟨w.heap.size, 0, none⟩ : Addr).add j) = ⟨w.heap.size, j, none⟩ by simp [Addr.add]; omega, this]
  simpa using hu
 have hbytes : (n + 1) * bytes ≤ 140737488355328 := by
  calc (n + 1) * bytes ≤ 1048576 * 128 := Nat.mul_le_mul ZO hby
   _ ≤ 140737488355328 := by decide
 obtain ⟨v', w', hr, h2, h3, -, h4⟩ := run_append_own_at (P := P) (w := w.alloc (.cells us e)) base t ty e i z sz bytes ht hi hz hisz hb hz1 hsz v n xs (hown.alloc (.cells us e)) ⟨w.heap.size, 0, none⟩ 1 1 us.toList (by simp [hul]) hnews (fun u hu => h1 u (by simpa using hu)) (by unfold maxLen; omega) hbytes ZX
 refine ⟨v', w', hr, h2, h3, fun k hk => ?_⟩
 rcases h4 with e | e
 · exact .inl (by rw [← e]; exact hk)
 · rw [e] at hk
   cases hk
   exact .inr ZS
end
end Go.Proofs.YtjboifobjggbbaaGreatDoor
