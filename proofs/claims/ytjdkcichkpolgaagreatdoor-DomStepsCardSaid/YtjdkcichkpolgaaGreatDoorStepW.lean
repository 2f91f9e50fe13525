/- The walk of the law DomSteps: it returns true, whatever the program. -/
import Derived.Test.YtjdkcichkpolgaaGreatDoorSteps
import Derived.Test.YtjdkcichkpolgaaGreatDoorLiveD
import Derived.BigFrameIn
namespace Go.Proofs.YtjdkcichkpolgaaGreatDoor
open Go.RowKit
set_option maxRecDepth 100000
attribute [local go_sem] Oper.semAt_some
def seenL (n : Nat) (sn : List Nat) : List Int := (List.range n).map fun b => if b ∈ sn then 1 else 0
section
variable {n b : Nat} {sn : List Nat}
theorem seenL_len : (seenL n sn).length = n := by simp [seenL]
theorem seenL_at (h : b < n) : ith (seenL n sn) b = if b ∈ sn then 1 else 0 := by simp [ith, seenL, List.getD, h]
theorem seenL_nil : (seenL n []).map (Value.int .i64) = List.replicate n (.int .i64 0) := by
 unfold seenL
 rw [List.map_map]
 refine List.ext_getElem ZS fun i h1 h2 => ?_
 simp
theorem seenL_set : (seenL n sn).set b 1 = seenL n (sn ++ [b]) := by
 unfold seenL
 apply List.ext_getElem?
 intro j
 rw [List.getElem?_set]
 by_cases e : b = j
 · subst e
   by_cases hj : b < n <;> simp [hj]
 · simp only [if_neg e, List.getElem?_map]
   have hne : ¬ j = b := fun h => e h.symm
   by_cases hj : j < n
   · by_cases hm : j ∈ sn <;> simp [hj, hm, hne]
   · simp [hj]
end
theorem own_popS {w : World} {base e g cap m : Nat} {xs : List Value} {u : Value} (h : w.ownsRow base e 1 (.slice (some ⟨g, 0, none⟩) (m + 1) cap) (m + 1) (xs ++ [u])) :
 w.ownsRow base e 1 (.slice (some ⟨g, 0, none⟩) m cap) m xs := by
 obtain ⟨h1, h2⟩ := h
 have hm : xs.length = m := by simp at h1; omega
 rcases h2 with ⟨h0, _⟩ | ⟨g', cap', cur, hv, hg, hh, hn, hcap, hsz, htake⟩
 · cases h0
 · cases hv
   refine ⟨ZO, .inr ⟨g, cap, cur, rfl, hg, hh, ZO, hcap, hsz, ?_⟩⟩
   have h3 : (cur.toList.take ((m + 1) * 1)).take (m * 1) = (xs ++ [u]).take (m * 1) := by rw [htake]
   rw [List.take_take, Nat.min_eq_left ZO] at h3
   rw [h3, Nat.mul_one, ← hm, List.take_left]
section
variable {F : Fence} {n' : Nat} {P : Program}
theorem wpListIn_append_run {ops : Array Oper} {rest : List Oper} {o : Oper} {a : Act} {w w' : World} {Q : Exit → Act → World → Prop} (hgd : o.guard = none) (s x : Operand) (t : TypeId) (ho : o.op = .call { callee := .builtin .append, args := #[s, x], argTypes := #[t, t] }) {u y v : Value} (hs : a.eval s = u) (hx : a.eval x = y)
 (hrun : (Builtin.append_ #[t, t] o.type #[u, y]).run P w = .ok v w') (h : wpListIn F n' P ops Q rest (a.put o.dst v) w') : wpListIn F n' P ops Q (o :: rest) a w := by
 refine wpListIn_plain hgd fun K hK => ?_
 unfold Oper.wpIn
 refine ⟨?_, ?_⟩
 · simp [Oper.about, ho, resolve, Target.leads, Sem.run_pure]
 · rw [Oper.semAt_plain F _ _ (by rw [ho]; intro c hc'; cases hc')]
   simp [execOp, ho, resolve, invoke, builtin, hs, hx, hrun, Result.andThen]
   exact hK _ _ h
theorem wpListIn_make_full (w : World) {ops : Array Oper} {rest : List Oper} {o : Oper} {a : Act} {Q : Exit → Act → World → Prop}
 (hg : o.guard = none) (l c : Operand) (t : TypeId) (hop : o.op = Op.makeSlice t l c)
 (base : Nat) (e : TypeId) (i : TypeInfo) (z : Value) (size : Nat) (h1 : P.underlying t = some (.slice e)) (h2 : P.info? e = some i) (h3 : i.zero = some z) (h4 : i.size = size)
 (kl kc : IntKind) (L C : Int) (n : Nat) (hl : a.eval l = .int kl L) (hc : a.eval c = .int kc C) (hL : L = (n : Int)) (hC : C = (n : Int)) (b2 : i.bytes * n ≤ 281474976710656) (b3 : n ≤ maxLen) (b4 : base ≤ w.heap.size)
 (hK : ∀ w', w'.ownsRow base e size (.slice (some ⟨w.heap.size, 0, none⟩) n n) n (madeCells z.cells (n * size)).toList → w.grownBy w' none → wpListIn F n' P ops Q rest (a.put o.dst (.slice (some ⟨w.heap.size, 0, none⟩) n n)) w') :
 wpListIn F n' P ops Q (o :: rest) a w := by
 refine wpListIn_plain hg fun K hK' => ?_
 obtain ⟨w', hrun, r1, r2⟩ := run_make_full (P := P) w base t e i z size h1 h2 h3 h4 kl kc n b2 b3 b4
 subst hL
 subst hC
 unfold Oper.wpIn
 refine ⟨?_, ?_⟩
 · simp [Oper.about, hop]
 · rw [Oper.semAt_plain F _ _ (by rw [hop]; intro c hc'; cases hc')]
   simp [execOp, hop, hl, hc, hrun, Result.andThen]
   exact hK' _ _ (hK w' r1 r2)
end
structure StepM (w4 W : World) (n₀ b2 b3 b5 R b6 Bo n : Nat) (tp : Value) (op sn : List Nat) : Prop where
 box2 : BoxAt W b2 #[.bool false] 4
 box3 : BoxAt W b3 #[tp] 35
 box5 : ∃ A c, BoxAt W b5 #[.slice A op.length c] 23 ∧ W.ownsRow Bo 3 1 (.slice A op.length c) op.length ((ints op).map (Value.int .i64))
 box6 : BoxAt W b6 #[.slice (some ⟨R, 0, none⟩) n n] 23
 seen : W.ownsRow R 3 1 (.slice (some ⟨R, 0, none⟩) n n) n ((seenL n sn).map (Value.int .i64))
 below : Below n₀ w4 W
theorem box_own {A B : World} {g : Nat} {cs : Array Value} {t : TypeId} {row : Option Nat} (h : BoxAt A g cs t) (hg : A.grownBy B row) (hr : ∀ r, row = some r → ∃ o : Obj, A.heap[r]? = some o ∧ o.isCells = false) : BoxAt B g cs t :=
 h.grown hg (fun e => by
  obtain ⟨o, ho, hc⟩ := hr g e
  unfold BoxAt at h
  rw [h] at ho
  cases ho
  cases hc)
theorem rowS_own {A B : World} {base e sz m : Nat} {v : Value} {xs : List Value} {row : Option Nat} (h : A.ownsRow base e sz v m xs) (hg : A.grownBy B row) (hr : ∀ r, row = some r → ∃ o : Obj, A.heap[r]? = some o ∧ o.isCells = false) : B.ownsRow base e sz v m xs :=
 own_turn h fun k hk => hg.block k (own_lt h hk).2 (fun e2 => by
  obtain ⟨o, ho, hc⟩ := hr k e2.symm
  rcases h.2 with ⟨rfl, -⟩ | ⟨g, cap, cur, rfl, -, hh, -⟩
  · cases hk
  · cases hk
    rw [hh] at ho
    cases ho
    cases hc)
theorem StepM.own {w4 A B : World} {n₀ b2 b3 b5 R b6 Bo n N1 : Nat} {tp : Value} {op sn : List Nat} {row : Option Nat} (h : StepM w4 A n₀ b2 b3 b5 R b6 Bo n tp op sn) (hn : n₀ ≤ w4.heap.size) (hB : n₀ ≤ N1) (hg : A.grownBy B row) (hr : ∀ r, row = some r → N1 ≤ r ∧ ∃ o : Obj, A.heap[r]? = some o ∧ o.isCells = false) : StepM w4 B n₀ b2 b3 b5 R b6 Bo n tp op sn := by
 have hr' : ∀ r, row = some r → ∃ o : Obj, A.heap[r]? = some o ∧ o.isCells = false := fun r e => (hr r e).2
 obtain ⟨A5, c5, h5, h6⟩ := h.box5
 exact ⟨box_own h.box2 hg hr', box_own h.box3 hg hr', ⟨A5, c5, box_own h5 hg hr', rowS_own h6 hg hr'⟩, box_own h.box6 hg hr', rowS_own h.seen hg hr', h.below.grown hg (Nat.le_trans hn h.below.size) (fun k e => Nat.le_trans hB (hr k e).1)⟩
theorem StepM.keep {w4 A B : World} {n₀ b2 b3 b5 R b6 Bo n : Nat} {tp : Value} {op sn : List Nat} (h : StepM w4 A n₀ b2 b3 b5 R b6 Bo n tp op sn) (hn : n₀ ≤ w4.heap.size) (hb : Below A.heap.size A B) : StepM w4 B n₀ b2 b3 b5 R b6 Bo n tp op sn := by
 obtain ⟨A5, c5, h5, h6⟩ := h.box5
 exact ⟨h.box2.below hb h.box2.lt, h.box3.below hb h.box3.lt, ⟨A5, c5, h5.below hb h5.lt, own_below h6 hb⟩, h.box6.below hb h.box6.lt, own_below h.seen hb, h.below.trans (hb.mono (Nat.le_trans hn h.below.size))⟩
theorem keeps_below {A B : World} (h : Below A.heap.size A B) : KeepsOthers A B := ⟨h.size, fun k _ hk _ => (h.block k (Array.getElem?_eq_some_iff.1 hk).1).trans hk⟩
set_option maxHeartbeats 8000000 in
theorem steps_law {W : World} {fv : Value} {F : PFunc} (hU : Uni W) (hF : FnV W W.heap.size fv F) :
 Calls Tryz.prog 4 #[fv] W fun e w' => e = .returned (.bool true) ∧ Below W.heap.size W w' := by
 have hlv := fun (w : World) (h : Below W.heap.size W w) => livesD_calls hU h
 have hty := fun (w : World) (h : Below W.heap.size W w) => lawTyped_calls hU hF h
 obtain ⟨w, rfl⟩ : ∃ w : World, w = W := ⟨_, rfl⟩
 obtain ⟨A0, c0, A1, c1, A2, c2, rfl, l0, l1, l2, -, -, -, r0, r1, r2⟩ := id hF.open_
 unfold Len at *
 clear r0 r1 r2
 obtain ⟨w0, hw0⟩ : ∃ w0 : World, w0 = (w.alloc (.cells #[.slice A0 F.vars.length c0, .slice A1 F.params.length c1, .slice A2 F.blocks.length c2] 26)).alloc (.cells #[.bool false] 4) := ⟨_, rfl⟩
 have hb0 : Below w.heap.size w w0 := by rw [hw0]; exact BL
 have x0 : BoxAt w0 w.heap.size #[.slice A0 F.vars.length c0, .slice A1 F.params.length c1, .slice A2 F.blocks.length c2] 26 := by rw [hw0]; exact (BoxAt.new _ _ _).alloc _
 have x1 : BoxAt w0 (w.heap.size + 1) #[.bool false] 4 := by
  rw [hw0]
  have := BoxAt.new (w.alloc (.cells #[.slice A0 F.vars.length c0, .slice A1 F.params.length c1, .slice A2 F.blocks.length c2] 26)) #[.bool false] 4
  simpa using this
 cases hx : lawT F
 · rw [hx] at hty
   clear hx hF
   go_enter Tryz.func4, Tryz.ntmps4
   go_upto_region 1 with fail
   rw [← hw0]
   clear hw0
   go_wp2_with fail
   refine (hlv _ hb0).mono ?_
   rintro e w1 ⟨rfl, hb1⟩
   have hB1 := hb0.trans (hb1.mono hb0.size)
   have y0 := x0.below hb1 x0.lt
   have q0 := y0.cell 0
   have q1 := y0.cell 1
   have q2 := y0.cell 2
   have ql := y0.lt
   simp at q0 q1 q2
   go_wp2_with fail
   refine (hty _ hB1).mono ?_
   rintro e w2 ⟨rfl, hb2⟩
   have hB2 := hB1.trans (hb2.mono hB1.size)
   go_wp2_with fail
   refine (hlv _ hB2).mono ?_
   rintro e w3 ⟨rfl, hb3⟩
   have hB3 := hB2.trans (hb3.mono hB2.size)
   have y1 := ((x1.below hb1 x1.lt).below hb2 (by have := hb1.size; have := x1.lt; omega)).below hb3 (by have := hb1.size; have := hb2.size; have := x1.lt; omega)
   have z0 := y1.cell 0
   have zf := y1.frozen 0
   have zl := y1.lt
   simp at z0
   go_wp2
   have hz := (y1.set 0 (.bool true)).cell 0
   simp at hz
   exact bodyPost_ret (v := .bool true) (by simp [results, Tryz.results4, go_sem, hz]) rfl ⟨rfl, hB3.setCell ZS _⟩
 rw [hx] at hty
 have hx2 : fewB F = true ∧ typedP F = true := by
  unfold lawT at hx
  simpa using hx
 have hnew := fun (w' : World) (h : Below w.heap.size w w') => newYes_calls hU hF h (few_small hx2.1) hx2.2
 obtain ⟨n1, n2⟩ := shaped_count (typed_shaped hx2.2)
 have HG := Lib.hid (gr_of hx2.2)
 obtain ⟨ib, hib, hi0, hi1, hi2⟩ := info_parts Tryz.info3
 have hdd : ∀ k : Nat, (Fence.wide.depth.isSome = true → 1 ≤ k) := fun k h => by cases h
 clear hx hx2 hF
 refine (callsIn_wide (n := 9)).1 ?_
 refine callsIn_of_wp_marks Tryz.func4 rfl trivial ?_ rfl
 simp only [Tryz.ntmps4, List.size_toArray, List.length_cons, List.length_nil, Nat.reduceAdd, Nat.reduceSub, Array.replicate_succ, Array.replicate_zero, List.push_toArray, List.append_toArray, List.nil_append, List.cons_append]
 gi_upto_region 1 with fail
 rw [← hw0]
 clear hw0
 have q0 := x0.cell 0
 have q1 := x0.cell 1
 have q2 := x0.cell 2
 have ql := x0.lt
 simp at q0 q1 q2
 gi_wp2_with fail
 refine ⟨trivial, (callsIn_wide.2 (hlv _ hb0)).mono ?_⟩
 rintro e w1 ⟨rfl, hb1⟩
 have hB1 := hb0.trans (hb1.mono hb0.size)
 have y0 := x0.below hb1 x0.lt
 have x11 := x1.below hb1 x1.lt
 clear q0 q1 q2 ql
 have q0 := y0.cell 0
 have q1 := y0.cell 1
 have q2 := y0.cell 2
 have ql := y0.lt
 simp at q0 q1 q2
 gi_wp2_with fail
 refine ⟨trivial, (callsIn_wide.2 (hty _ hB1)).mono ?_⟩
 rintro e w2 ⟨rfl, hb2⟩
 have hB2 := hB1.trans (hb2.mono hB1.size)
 have z0 := y0.below hb2 y0.lt
 have x12 := x11.below hb2 x11.lt
 clear q0 q1 q2 ql
 have q0 := z0.cell 0
 have q1 := z0.cell 1
 have q2 := z0.cell 2
 have ql := z0.lt
 simp at q0 q1 q2
 gi_wp2_with fail
 refine ⟨trivial, (callsIn_wide.2 (hnew _ hB2)).mono ?_⟩
 rintro e w5 ⟨v, rfl, ⟨tb, gn, gl, gk, gf, L, V, rfl, hD⟩, hb5⟩
 have hB5 := hB2.trans (hb5.mono hB2.size)
 have u0 := z0.below hb5 z0.lt
 have x15 := x12.below hb5 x12.lt
 clear q0 q1 q2 ql hlv hty hnew hb0 hb1 hb2 hb5 hB1 hB2 x0 x1 x11 x12 y0 z0
 have q2 := u0.cell 2
 have ql := u0.lt
 have q15 := x15.lt
 simp at q2
 gi_upto_region 8 with (gi_at_make; refine wpListIn_make_full _ rfl _ _ 23 rfl (w5.heap.size + 1 + 1) 3 ib _ 1 Tryz.underlying23 hib hi0 hi1 _ _ _ _ _ rfl rfl rfl rfl (by rw [hi2]; omega) (by unfold maxLen; omega) ZS ?_; intro w6 hs6 hg6)
 have hg0 : ((w5.alloc (.cells #[.pointer (some ⟨tb, 0, none⟩)] 35)).alloc (.cells #[.slice none 0 0] 23)).grownBy w6 none := hg6
 have v3 : BoxAt w6 w5.heap.size #[.pointer (some ⟨tb, 0, none⟩)] 35 := ((BoxAt.new w5 _ _).alloc _).grown hg0 ZS
 have v5 : BoxAt w6 (w5.heap.size + 1) #[.slice none 0 0] 23 := by
  have := BoxAt.new (w5.alloc (.cells #[.pointer (some ⟨tb, 0, none⟩)] 35)) #[.slice none 0 0] 23
  rw [World.size_alloc] at this
  exact this.grown hg0 ZS
 have hb6 : Below w5.heap.size w5 w6 := (((Below.refl _ _).alloc (Nat.le_refl _) _).alloc ZS _).grown hg0 ZX (fun k hk => by cases hk)
 have hsn : w6.ownsRow (w5.heap.size + 1 + 1) 3 1 (.slice (some ⟨w5.heap.size + 1 + 1, 0, none⟩) F.blocks.length F.blocks.length) F.blocks.length ((seenL F.blocks.length []).map (Value.int .i64)) := by
  rw [seenL_nil]
  have h : (w5.alloc (.cells #[.pointer (some ⟨tb, 0, none⟩)] 35)).heap.size + 1 = w5.heap.size + 1 + 1 := by simp
  simpa [Value.cells, toList_madeCells_one, h] using hs6
 have hRl := (hsn.lt _ rfl).2
 simp only at hRl
 clear hs6 hg6
 obtain ⟨w7, hw7⟩ : ∃ w7 : World, w7 = w6.alloc (.cells #[.slice (some ⟨w5.heap.size + 1 + 1, 0, none⟩) F.blocks.length F.blocks.length] 23) := ⟨_, rfl⟩
 rw [← hw7]
 have hs7 : w7.heap.size = w6.heap.size + 1 := by rw [hw7]; simp
 have v2 : BoxAt w7 (w.heap.size + 1) #[.bool false] 4 := by rw [hw7]; exact (x15.below hb6 q15).alloc _
 have v6 : BoxAt w7 w6.heap.size #[.slice (some ⟨w5.heap.size + 1 + 1, 0, none⟩) F.blocks.length F.blocks.length] 23 := by rw [hw7]; exact BoxAt.new _ _ _
 have hb7 : Below w5.heap.size w5 w7 := by rw [hw7]; exact hb6.alloc (by have := hb6.size; omega) _
 have hM7 : StepM w5 w7 w5.heap.size (w.heap.size + 1) w5.heap.size (w5.heap.size + 1) (w5.heap.size + 1 + 1) w6.heap.size (w6.heap.size + 1) F.blocks.length (.pointer (some ⟨tb, 0, none⟩)) [] [] := by
  refine ⟨v2, ?_, ⟨none, 0, ?_, World.ownsRow_nil _ _ _ _⟩, v6, ?_, hb7⟩
  · rw [hw7]; exact v3.alloc _
  · rw [hw7]; exact v5.alloc _
  · rw [hw7]; exact hsn.alloc _
 clear hw7 v2 v3 v5 v6 hsn hg0 x15 u0 q2 ql hb6
 have q3 := hM7.box3.cell 0
 have q3l := hM7.box3.lt
 simp at q3
 gi_wp2_with fail
 refine ⟨trivial, (callsIn_wide.2 stepsOf_calls).mono ?_⟩
 rintro e w8 ⟨rfl, hw8⟩
 have hM8 : StepM w5 w8 w5.heap.size (w.heap.size + 1) w5.heap.size (w5.heap.size + 1) (w5.heap.size + 1 + 1) w6.heap.size (w6.heap.size + 1) F.blocks.length (.pointer (some ⟨tb, 0, none⟩)) [] [] := by rw [hw8]; exact hM7.keep (Nat.le_refl _) ((Below.refl _ _).alloc (Nat.le_refl _) _)
 have hBt : w8.cell? ⟨w6.heap.size + 1, 0, none⟩ = some (.pointer (some ⟨tb, 0, none⟩)) := by
  rw [hw8, ← hs7, (BoxAt.new w7 #[.pointer (some ⟨tb, 0, none⟩)] 35).cell 0]
  rfl
 have hs8 : w8.heap.size = w7.heap.size + 1 := by rw [hw8]; simp
 have hb8 : Below w5.heap.size w5 w8 := hM8.below
 have hn8 := hb8.size
 have hD8 : TreeD w8 w5.heap.size tb F.blocks.length (OR F) (PR F) gn gl gk gf L V := hD.keep (Kept.of_below hb8) (Nat.le_refl _)
 have hfin := steps_run HG.out hD.near hD.lv
 clear hw8 hM7 q3 q3l hb7
 gi_wp2_with fail
 refine wpIn_rangeFunc_ownF rfl ZD (gf := 60) (lb := #[.pointer (some ⟨w6.heap.size + 1, 0, none⟩)]) rfl trivial (enters_of Tryz.func60 ZK rfl)
  (steps_stops HG.out hD8 hn8 n2 n1 _ (w6.heap.size + 1) ZO hBt) belowK_t (belowK_b hn8) (Below.refl _ _) (fun _ => rfl)
  (fun pre W => ∃ op sn, evR F.blocks.length (ovF (OR F) L) (lvF V) pre ([], []) = some (op, sn) ∧ op.length ≤ F.blocks.length ∧ StepM w5 W w5.heap.size (w.heap.size + 1) w5.heap.size (w5.heap.size + 1) (w5.heap.size + 1 + 1) w6.heap.size (w6.heap.size + 1) F.blocks.length (.pointer (some ⟨tb, 0, none⟩)) op sn)
  (fun c pre _ => c = .ret ∧ evR F.blocks.length (ovF (OR F) L) (lvF V) pre ([], []) = none)
  (fun pre A B row hs hg hr => by obtain ⟨op, sn, h1, h2, h3⟩ := hs; exact ⟨op, sn, h1, h2, h3.own (Nat.le_refl _) hn8 hg hr⟩)
  (fun _ _ _ _ _ hs _ _ => hs) ⟨[], [], rfl, Nat.zero_le _, hM8⟩ ?a1 ?assign ?body ?done ?stop
 case assign =>
  intro l x W K hK
  unfold encE
  gi_wp2
  exact hK
 case stop =>
  rintro D c pre W _ hp ⟨-, hn⟩ _
  exact absurd hn (evR_prefix hp hfin.1)
 case body =>
  rintro l pre x W ⟨op, sn, he, hol, hM⟩ _
  obtain ⟨b, i⟩ := x
  have HEV := Lib.hid (fun i' => evR_snoc (e := (b, i')) he)
  have HM := Lib.hid hM
  have HDN := Lib.hid hD.near
  have HDL := Lib.hid hD.lv
  obtain ⟨A5, c5, h5, h5r⟩ := hM.box5
  have k2 := hM.box2.cell 0
  have f2 := hM.box2.frozen 0
  have l2' := hM.box2.lt
  have k3 := hM.box3.cell 0
  have l3' := hM.box3.lt
  have k5 := h5.cell 0
  have f5 := h5.frozen 0
  have l5' := h5.lt
  have k6 := hM.box6.cell 0
  have l6' := hM.box6.lt
  simp at k2 k3 k5 k6
  have H5R := Lib.hid h5r
  have H5 := Lib.hid h5
  clear he hM h5r hfin
  generalize hnn : F.blocks.length = n at *
  by_cases hbn : b < n
  · have hbI : (b : Int) < (n : Int) := by omega
    have hbz : decide ((b : Int) < 0) = false := decide_eq_false ZO
    have hbz1 : decide ((n : Int) ≤ (b : Int)) = false := decide_eq_false ZO
    have hbz2 : decide (n ≤ b) = false := decide_eq_false ZO
    cases i
    · as_aux_lemma =>
      rcases List.eq_nil_or_concat op with hop | ⟨s0, y, hop⟩
      · subst hop
        gi_wp2
        exact ⟨KeepsOthers.setCell _ _ _, rfl, by rw [HEV.out, evS, if_pos hbn, if_neg ZS, if_neg ZS]⟩
      · rw [List.concat_eq_append] at hop
        subst hop
        have hl : (s0 ++ [y]).length = s0.length + 1 := by simp
        rw [hl] at hol k5
        have h5r := H5R.out
        rw [hl] at h5r
        obtain ⟨g, cap, hv, hg0, hgl, hcp, hcm⟩ := own_succ h5r
        simp only [Value.slice.injEq] at hv
        obtain ⟨rfl, -, rfl⟩ := hv
        unfold maxLen at hcm
        have hct := h5r.cellAt s0.length ZO
        simp [ints] at hct
        have hpop : W.ownsRow (w6.heap.size + 1) 3 1 (.slice (some ⟨g, 0, none⟩) s0.length c5) s0.length ((ints s0).map (Value.int .i64)) := own_popS (u := .int .i64 (y : Int)) (by simpa [ints] using h5r)
        have HP := Lib.hid hpop
        have hsl : s0.length + 1 ≤ c5 := hcp
        clear h5r hpop
        by_cases hyb : y = b
        · subst hyb
          gi_wp2
          have hev2 : evR n (ovF (OR F) L) (lvF V) (pre ++ [(y, false)]) ([], []) = some (s0, sn) := (HEV.out false).trans (evS_out hbn)
          have hM := HM.out
          refine ⟨KeepsOthers.setCell _ _ _, (Below.refl _ _).setCell ZS _, s0, sn, hev2, ZO, hM.box2.other ZX _, hM.box3.other ZS _, ⟨some ⟨g, 0, none⟩, c5, ?_, ownsRow_setCell_other HP.out (fun e => by simp only [Value.ownBlock, Option.some.injEq] at e; omega) _⟩, hM.box6.other ZX _, ownsRow_setCell_other hM.seen (fun e => by simp only [Value.ownBlock, Option.some.injEq] at e; omega) _, hM.below.setCell ZS _⟩
          simpa using h5.set 0 (.slice (some ⟨g, 0, none⟩) s0.length c5)
        · have hyI : ((y : Int) != (b : Int)) = true := bne_iff_ne.2 ZO
          gi_wp2
          exact ⟨KeepsOthers.setCell _ _ _, rfl, by rw [HEV.out, evS, if_pos hbn, if_neg ZS, if_neg (by simpa using hyb)]⟩
    · as_aux_lemma =>
      gi_wp2_with fail
      gi_loopw [50] (fun s wr => ∃ j : Nat, s = .int .i64 (j : Int) ∧ j ≤ op.length ∧ (∀ a ∈ op.take j, ovF (OR F) L a b = true) ∧ Below W.heap.size W wr) (fun s _ => op.length - (intOf s).toNat)
      case atStart => exact ⟨0, rfl, Nat.zero_le _, fun a h => by simp at h, Below.refl _ _⟩
      case round => as_aux_lemma =>
       obtain ⟨j, rfl, hj, hov, hbr⟩ := hrel
       have hMr := HM.out.keep (Nat.le_refl _) hbr
       have hDr : TreeD wr wr.heap.size tb n (OR F) (PR F) gn gl gk gf L V := hD.keep (Kept.of_below hMr.below) hMr.below.size
       have r2 := hMr.box2.cell 0
       have rf2 := hMr.box2.frozen 0
       have rl2 := hMr.box2.lt
       have r3 := hMr.box3.cell 0
       have rl3 := hMr.box3.lt
       simp at r2 r3
       clear k2 k3 k5 k6 f2 f5 l2' l3' l5' l6' h5
       by_cases hjl : j < op.length
       · obtain ⟨g, cap, hv, hgl, hcap⟩ := own_pos H5R.out ZO
         simp only [Value.slice.injEq] at hv
         obtain ⟨rfl, -, rfl⟩ := hv
         have hct := (own_below H5R.out hbr).cellAt j ZO
         have hje : (ints op)[j]? = some ((op[j] : Nat) : Int) := by simp [ints, hjl]
         simp only [List.getElem?_map, hje] at hct
         replace hct : wr.cell? ⟨g, j, none⟩ = some (.int .i64 ((op[j] : Nat) : Int)) := hct
         have hglr := Nat.lt_of_lt_of_le hgl hbr.size
         have htk : op.take (j + 1) = op.take j ++ [op[j]] := by rw [List.take_add_one, List.getElem?_eq_getElem hjl]; rfl
         have hmem := List.getElem_mem hjl
         have hjI : (j : Int) < (op.length : Int) := by omega
         have HTK := Lib.hid htk
         have HMEM := Lib.hid hmem
         generalize op[j] = y at *
         have hq := over_calls HG.out hDr (y : Int) (b : Int)
         have HOV := Lib.hid hov
         clear htk hmem hje hov
         cases hv : ovF (OR F) L y b
         · have HV := Lib.hid hv
           unfold ovF at hv
           rw [hv] at hq
           clear hv
           gi_wp2_with fail
           refine ⟨trivial, ?_⟩
           refine (CallsIn.inRound l (callsIn_wide.2 hq)).mono ?_
           rintro e w9 ⟨rfl, hb9⟩
           have s2 := (hMr.keep (Nat.le_refl _) hb9).box2.cell 0
           have sf2 := (hMr.keep (Nat.le_refl _) hb9).box2.frozen 0
           have sl2 := (hMr.keep (Nat.le_refl _) hb9).box2.lt
           simp at s2
           gi_wp2
           refine ⟨(keeps_below (hbr.trans (hb9.mono hbr.size))).trans (KeepsOthers.setCell _ _ _), rfl, ?_⟩
           rw [HEV.out, evS, if_pos hbn, if_pos rfl, if_neg]
           rintro ⟨h1, -⟩
           have := h1 y HMEM.out
           rw [HV.out] at this
           cases this
         · have HV := Lib.hid hv
           unfold ovF at hv
           rw [hv] at hq
           clear hv
           gi_wp2_with fail
           refine ⟨trivial, ?_⟩
           refine (CallsIn.inRound l (callsIn_wide.2 hq)).mono ?_
           rintro e w9 ⟨rfl, hb9⟩
           gi_wp2
           go_roundw
           case rel =>
            refine ⟨j + 1, ZN, ZO, fun a ha => ?_, hbr.trans (hb9.mono hbr.size)⟩
            rw [HTK.out] at ha
            rcases List.mem_append.1 ha with ha | ha
            · exact HOV.out a ha
            · rw [List.mem_singleton] at ha
              rw [ha]
              exact HV.out
           case measure => simp [intOf]; omega
       · obtain rfl : j = op.length := by omega
         rw [List.take_length] at hov
         have hlq : Calls Tryz.prog 24 #[.pointer (some ⟨tb, 0, none⟩), .int .i64 (b : Int)] wr fun e w' => (∃ ok, e = .returned (.tuple #[.int .i64 ((lvF V b : Nat) : Int), .bool ok])) ∧ w' = wr := (level_calls HG.out hDr b hbn).mono fun e w' h => by
          obtain ⟨⟨k, ⟨h1, h2, rfl⟩ | ⟨h1, rfl, rfl⟩⟩, rfl⟩ := h
          · exact ⟨⟨true, by unfold lvF; rw [h2]; rfl⟩, rfl⟩
          · refine ⟨⟨false, ?_⟩, rfl⟩
            have : fnO V b = none := by
             cases hv : fnO V b with
             | none => rfl
             | some k => exact absurd (hD.lv.iff.1 (by rw [hv]; simp)) h1
            unfold lvF
            rw [this]
            rfl
         have h5w := H5.out.below hbr H5.out.lt
         have how := own_below H5R.out hbr
         have r5 := h5w.cell 0
         have rf5 := h5w.frozen 0
         have rl5 := h5w.lt
         have r6 := hMr.box6.cell 0
         have rl6 := hMr.box6.lt
         have hcR := hMr.seen.cellAt b ZO
         have hfR := hMr.seen.frozenAt b
         have hRl2 := (hMr.seen.lt _ rfl).2
         have hse : ((seenL n sn).map (Value.int .i64))[b]? = some (.int .i64 (if b ∈ sn then 1 else 0)) := by rw [List.getElem?_map, ith_get (by rw [seenL_len]; exact hbn), seenL_at hbn]; rfl
         rw [hse] at hcR
         simp at r5 r6
         have HLV := Lib.hid (show lvF V b = lvF V b from rfl)
         have HSN := Lib.hid (fun (h : b ∈ sn) => h)
         have HMR := Lib.hid hMr
         have HHW := Lib.hid how
         have HH5 := Lib.hid h5w
         have HHV := Lib.hid hov
         clear hse hMr how h5w hDr hD hov
         by_cases hkl : lvF V b = op.length
         · rw [hkl] at hlq
           by_cases hbs : b ∈ sn
           · rw [if_pos hbs] at hcR
             gi_wp2_with fail
             refine ⟨trivial, ?_⟩
             refine (CallsIn.inRound l (callsIn_wide.2 hlq)).mono ?_
             rintro e w9 ⟨⟨ok, rfl⟩, rfl⟩
             gi_wp2
             refine ⟨(keeps_below hbr).trans (KeepsOthers.setCell _ _ _), rfl, ?_⟩
             rw [HEV.out, evS, if_pos hbn, if_pos rfl, if_neg]
             rintro ⟨-, -, h3⟩
             exact h3 hbs
           · rw [if_neg hbs] at hcR
             have hev2 := (HEV.out true).trans (evS_in (ov := ovF (OR F) L) (lv := lvF V) (op := op) (sn := sn) hbn HHV.out hkl hbs)
             have HE2 := Lib.hid hev2
             have hlt : op.length < n := by rw [← hkl]; unfold lvF; cases hv : fnO V b with
              | none => exact n1
              | some k => exact lv_lt HG.out HDN.out HDL.out hv
             have hown1 := ownsRow_setCell_other HHW.out (a := ⟨w5.heap.size + 1 + 1, b, none⟩) (fun e => by have := (own_lt HHW.out e).1; simp only at this; omega) (.int .i64 1)
             obtain ⟨v9, w9, hr9, ho9, hg9, -⟩ := run_append1F (P := Tryz.prog) (wr.setCell ⟨w5.heap.size + 1 + 1, b, none⟩ (.int .i64 1)) (t := 23) (ty := 23) (w6.heap.size + 1) 3 8 Tryz.underlying23 Tryz.info3 rfl _ op.length _ hown1 (.int .i64 (b : Int)) rfl ZO ZD ZX
             obtain ⟨A9, c9, rfl⟩ := own_form ho9
             rw [World.size_setCell] at hr9
             have hgg : ((wr.setCell ⟨w5.heap.size + 1 + 1, b, none⟩ (.int .i64 1)).alloc (.cells #[.int .i64 (b : Int)] 3)).grownBy w9 (Value.slice A5 op.length c5).ownBlock := hg9
             have hro : ∀ k, (Value.slice A5 op.length c5).ownBlock = some k → w6.heap.size + 1 ≤ k ∧ k < wr.heap.size := fun k hk => own_lt HHW.out hk
             have box9 : ∀ {g : Nat} {cs : Array Value} {t : TypeId}, BoxAt wr g cs t → g ≠ w5.heap.size + 1 + 1 → g < w6.heap.size + 1 → BoxAt w9 g cs t := fun h h1 h2 => ((h.other (p := ⟨w5.heap.size + 1 + 1, b, none⟩) (fun e => h1 e.symm) (.int .i64 1)).alloc (.cells #[.int .i64 (b : Int)] 3)).grown hgg (fun e => by have := (hro _ e).1; omega)
             have y5 := box9 HH5.out ZO ZO
             have hz9 := hgg.size
             simp at hz9
             have t5 := y5.cell 0
             have tf5 := y5.frozen 0
             have tl5 := y5.lt
             simp at t5
             have HGG := Lib.hid hgg
             have HO9 := Lib.hid ho9
             clear hg9 hgg ho9
             gi_wp2_with fail
             refine ⟨trivial, ?_⟩
             refine (CallsIn.inRound l (callsIn_wide.2 hlq)).mono ?_
             rintro e w1 ⟨⟨ok, rfl⟩, hw1⟩
             rw [hw1]
             clear hw1
             gi_wp2_with (gi_at_builtin; refine wpListIn_append_run rfl _ _ 23 rfl rfl rfl hr9 ?_; clear hr9)
             have hM := HMR.out
             have hrow : ∀ (j : Nat) (o : Obj), (Value.slice A5 op.length c5).ownBlock = some j → ((wr.setCell ⟨w5.heap.size + 1 + 1, b, none⟩ (.int .i64 1)).alloc (.cells #[.int .i64 (b : Int)] 3)).heap[j]? = some o → o.isCells = true := fun j o hj ho => by
              rcases (hown1.alloc (.cells #[.int .i64 (b : Int)] 3)).2 with ⟨e, -⟩ | ⟨g, cap, cur, e, -, hh, -⟩
              · rw [e] at hj
                cases hj
              · rw [e] at hj
                cases hj
                rw [hh] at ho
                cases ho
                rfl
             have hKO : KeepsOthers wr w9 := (KeepsOthers.setCell _ _ _).trans ((KeepsOthers.alloc _ _).trans (KeepsOthers.of_grownBy HGG.out hrow))
             have hBN : Below w5.heap.size wr w9 := (((Below.refl w5.heap.size wr).setCell (p := ⟨w5.heap.size + 1 + 1, b, none⟩) ZX _).alloc (by have := hM.below.size; simp; omega) _).grown HGG.out (by have := hM.below.size; simp; omega) (fun k hk => by have := (hro k hk).1; omega)
             have hlo : (op ++ [b]).length = op.length + 1 := by simp
             have hsn9 : w9.ownsRow (w5.heap.size + 1 + 1) 3 1 (.slice (some ⟨w5.heap.size + 1 + 1, 0, none⟩) n n) n ((seenL n (sn ++ [b])).map (Value.int .i64)) := by
              have h1 := ((hM.seen.stored b (.int .i64 1)).1).alloc (.cells #[.int .i64 (b : Int)] 3)
              rw [← seenL_set, List.map_set]
              exact own_turn h1 fun k hk => HGG.out.block k (own_lt h1 hk).2 (fun e => by have := (hro _ e.symm).1; simp only [Value.ownBlock, Option.some.injEq] at hk; omega)
             refine ⟨(keeps_below hbr).trans (hKO.trans (KeepsOthers.setCell _ _ _)), (hbr.mono HM.out.below.size).trans (hBN.setCell ZS _), op ++ [b], sn ++ [b], HE2.out, by rw [hlo]; omega, ?_⟩
             refine ⟨(box9 hM.box2 ZO ZO).other ZX _, (box9 hM.box3 ZO ZO).other ZS _, ⟨A9, c9, ?_, ?_⟩, (box9 hM.box6 ZO ZO).other ZX _, ownsRow_setCell_other hsn9 (fun e => by simp only [Value.ownBlock, Option.some.injEq] at e; omega) _, (hM.below.trans hBN).setCell ZS _⟩
             · rw [hlo]
               simpa using y5.set 0 (.slice A9 (op.length + 1) c9)
             · rw [hlo]
               have := HO9.out
               refine ownsRow_setCell_other (by simpa [ints] using this) (fun e => by have := (own_lt HO9.out e).1; simp only at this; omega) _
         · obtain ⟨k9, hk9⟩ : ∃ k, k = lvF V b := ⟨_, rfl⟩
           rw [← hk9] at hlq hkl
           have hkI : ((k9 : Int) != (op.length : Int)) = true := bne_iff_ne.2 ZO
           have HK9 := Lib.hid hk9
           clear hk9
           gi_wp2_with fail
           refine ⟨trivial, ?_⟩
           refine (CallsIn.inRound l (callsIn_wide.2 hlq)).mono ?_
           rintro e w9 ⟨⟨ok, rfl⟩, rfl⟩
           gi_wp2
           refine ⟨(keeps_below hbr).trans (KeepsOthers.setCell _ _ _), rfl, ?_⟩
           rw [HEV.out, evS, if_pos hbn, if_pos rfl, if_neg]
           rintro ⟨-, h2, -⟩
           exact hkl (HK9.out.trans h2)
  · as_aux_lemma =>
    have hbI : ¬ (b : Int) < (n : Int) := by omega
    gi_wp2
    exact ⟨KeepsOthers.setCell _ _ _, rfl, by rw [HEV.out, evS, if_neg hbn]⟩
 case done =>
  rintro D xs W hD0 hxs ⟨op, sn, he, hol, hM⟩ hK
  rw [hxs, hfin.1] at he
  obtain ⟨rfl, rfl⟩ : [] = op ∧ pre (kidsOf F.blocks.length L) F.blocks.length 0 = sn := by simpa using he
  have hin := hfin.2
  generalize pre (kidsOf F.blocks.length L) F.blocks.length 0 = sn at *
  generalize hnn : F.blocks.length = n at *
  have k6 := hM.box6.cell 0
  have l6' := hM.box6.lt
  simp at k6
  have HIN := Lib.hid hin
  have HM := Lib.hid hM
  have HK := Lib.hid hK
  clear he hxs hfin hol hin hM hK
  gi_wp2_with fail
  gi_loopw [104] (fun s wr => ∃ i : Nat, s = .int .i64 (i : Int) ∧ i ≤ n ∧ Below W.heap.size W wr) (fun s _ => n - (intOf s).toNat)
  case atStart => exact ⟨0, rfl, Nat.zero_le _, Below.refl _ _⟩
  case round => as_aux_lemma =>
   obtain ⟨i, rfl, hi, hbr⟩ := hrel
   have hMr := HM.out.keep (Nat.le_refl _) hbr
   have hDr : TreeD wr wr.heap.size tb n (OR F) (PR F) gn gl gk gf L V := hD.keep (Kept.of_below hMr.below) hMr.below.size
   have r2 := hMr.box2.cell 0
   have rf2 := hMr.box2.frozen 0
   have rl2 := hMr.box2.lt
   have r3 := hMr.box3.cell 0
   have rl3 := hMr.box3.lt
   have r6 := hMr.box6.cell 0
   have rl6 := hMr.box6.lt
   simp at r2 r3 r6
   clear k6 l6'
   by_cases hlt : i < n
   · have hcR := hMr.seen.cellAt i ZO
     have hRl2 := (hMr.seen.lt _ rfl).2
     have hse : ((seenL n sn).map (Value.int .i64))[i]? = some (.int .i64 (if i ∈ sn then 1 else 0)) := by rw [List.getElem?_map, ith_get (by rw [seenL_len]; exact hlt), seenL_at hlt]; rfl
     rw [hse] at hcR
     have hlq : Calls Tryz.prog 24 #[.pointer (some ⟨tb, 0, none⟩), .int .i64 (i : Int)] wr fun e w' => (∃ k : Nat, e = .returned (.tuple #[.int .i64 (k : Int), .bool (decide (i ∈ sn))])) ∧ w' = wr := (level_calls HG.out hDr i hlt).mono fun e w' h => by
      obtain ⟨⟨k, ⟨h1, h2, rfl⟩ | ⟨h1, rfl, rfl⟩⟩, rfl⟩ := h
      · exact ⟨⟨k, by rw [decide_eq_true ((HIN.out i).2 h1)]⟩, rfl⟩
      · exact ⟨⟨0, by rw [decide_eq_false (fun h => h1 ((HIN.out i).1 h))]; rfl⟩, rfl⟩
     have hlI : (i : Int) < (n : Int) := by omega
     clear hse hMr hDr hD
     by_cases hs : i ∈ sn
     · rw [if_pos hs] at hcR
       rw [decide_eq_true hs] at hlq
       gi_wp2_with fail
       refine ⟨trivial, ?_⟩
       refine (callsIn_wide.2 hlq).mono ?_
       rintro e w9 ⟨⟨k, rfl⟩, hw9⟩
       subst hw9
       gi_wp2
       go_roundw
       case rel => exact ⟨i + 1, ZN, hlt, hbr⟩
       case measure => simp [intOf]; omega
     · rw [if_neg hs] at hcR
       rw [decide_eq_false hs] at hlq
       gi_wp2_with fail
       refine ⟨trivial, ?_⟩
       refine (callsIn_wide.2 hlq).mono ?_
       rintro e w9 ⟨⟨k, rfl⟩, hw9⟩
       subst hw9
       gi_wp2
       go_roundw
       case rel => exact ⟨i + 1, ZN, hlt, hbr⟩
       case measure => simp [intOf]; omega
   · obtain rfl : i = n := by omega
     obtain ⟨A5, c5, h5, -⟩ := hMr.box5
     have r5 := h5.cell 0
     have rl5 := h5.lt
     simp at r5
     gi_wp2
     have hK2 := ((keeps_below hbr).trans (KeepsOthers.setCell wr ⟨w.heap.size + 1, 0, none⟩ (.bool true))).same _ _ HK.out rfl
     have hz := (hMr.box2.set 0 (.bool true)).cell 0
     simp at hz
     have hgp := grownBy_putObj' (wr.setCell ⟨w.heap.size + 1, 0, none⟩ (.bool true)) D (.deferred none)
     have hz2 := cell_kept hz hgp (fun r e => by cases e; exact ⟨_, hK2, rfl⟩)
     have hBz : Below w.heap.size w ((wr.setCell ⟨w.heap.size + 1, 0, none⟩ (.bool true)).putObj D (.deferred none)) := (((hB5.trans (hMr.below.mono hB5.size))).setCell ZS _).grown hgp (by have := hMr.below.size; have := hB5.size; simp; omega) (fun k e => by cases e; have := hB5.size; omega)
     refine ⟨ZS, .inl ⟨_, _, rfl, run_takeDeferred hK2, ?_⟩⟩
     exact ⟨.bool true, by simp [results, Tryz.results4, go_sem, hz2], rfl, hBz⟩
end Go.Proofs.YtjdkcichkpolgaaGreatDoor
