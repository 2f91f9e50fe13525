/- Two rows of one's own that grow in turn, in whatever order; and the walk of graph.phi: of a phi the pairs of those blocks that lead there and are reached. -/
import Derived.Test.YtjdkcichkpolgaaGreatDoorPrP
import Derived.Test.YtjdkcichkpolgaaGreatDoorSch
import Derived.Test.YtjdkcichkpolgaaGreatDoorTreeP
namespace Go.Proofs.YtjdkcichkpolgaaGreatDoor
open Go.RowKit
set_option maxRecDepth 100000
def Two (w : World) (B : Nat) (v1 : Value) (xs : List Int) (v2 : Value) (ys : List Int) : Prop :=
 w.ownsRow B 3 1 v1 xs.length (xs.map (Value.int .i64)) ∧ w.ownsRow B 3 1 v2 ys.length (ys.map (Value.int .i64)) ∧ ∀ k, v1.ownBlock = some k → v2.ownBlock ≠ some k
section
variable {w w' : World} {B : Nat} {v1 v2 : Value} {xs ys : List Int} {x : Int} {N : Nat}
theorem Two.swap (h : Two w B v1 xs v2 ys) : Two w B v2 ys v1 xs := ⟨h.2.1, h.1, fun k e2 e1 => h.2.2 k e1 e2⟩
theorem Two.alloc (h : Two w B v1 xs v2 ys) (o : Obj) : Two (w.alloc o) B v1 xs v2 ys := ⟨h.1.alloc o, h.2.1.alloc o, h.2.2⟩
theorem Two.drew (h : Two w B v1 xs v2 ys) : Two w.drew B v1 xs v2 ys := h
theorem Two.set (h : Two w B v1 xs v2 ys) {a : Addr} (ha : a.block < B) (u : Value) : Two (w.setCell a u) B v1 xs v2 ys :=
 ⟨ownsRow_setCell_other h.1 (fun e => by have := (own_lt h.1 e).1; omega) _, ownsRow_setCell_other h.2.1 (fun e => by have := (own_lt h.2.1 e).1; omega) _, h.2.2⟩
theorem Two.nil : Two w B (.slice none 0 0) [] (.slice none 0 0) [] := ⟨World.ownsRow_nil _ _ _ _, World.ownsRow_nil _ _ _ _, fun k e => by cases e⟩
theorem Two.app (h : Two w B v1 xs v2 ys) (hc : w.cell? ⟨N, 0, none⟩ = some (.int .i64 x)) (hn : xs.length < 1048576) (hB : B ≤ w.heap.size) :
 ∃ v' w', (Builtin.append_ #[23, 23] 23 #[v1, .slice (some ⟨N, 0, none⟩) 1 1]).run Tryz.prog w = .ok v' w' ∧ Two w' B v' (xs ++ [x]) v2 ys ∧ w.grownBy w' v1.ownBlock ∧ Below B w w' := by
 obtain ⟨i, hi, hz, hsz, hb⟩ := info_parts Tryz.info3
 have hbytes : (xs.length + 1) * 8 ≤ 140737488355328 := by omega
 obtain ⟨v', w', hr, h2, h3, -, h4⟩ := run_append_own_at (P := Tryz.prog) w B 23 23 3 i _ 1 8 Tryz.underlying23 hi hz hsz hb rfl ZD v1 xs.length _ h.1 ⟨N, 0, none⟩ 1 1 [.int .i64 x] rfl
  (fun j u hj => by
    match j, hj with
    | 0, hj => simp at hj; subst hj; exact hc) (by simp [Value.oneCell']) (by unfold maxLen; omega) hbytes hB
 refine ⟨v', w', hr, ⟨by simpa using h2, own_turn h.2.1 (fun k hk => h3.block k (own_lt h.2.1 hk).2 (fun e => h.2.2 k e.symm hk)), fun k hk hk2 => ?_⟩, h3, ⟨h3.os, h3.tape, h3.output, h3.size, fun k hk => h3.block k ZO (fun e => by have := (own_lt h.1 e.symm).1; omega)⟩⟩
 rcases h4 with e | e
 · rw [e] at hk
   exact h.2.2 k hk hk2
 · rw [e] at hk
   cases hk
   have := (own_lt h.2.1 hk2).2
   omega
theorem wp_two {o : Oper} {a : Act} {K : Act → World → Prop} {Q : Exit → Act → World → Prop} (s z : Operand) (ho : o.op = .call { callee := .builtin .append, args := #[s, z], argTypes := #[23, 23] }) (hty : o.type = 23)
 (hs : a.eval s = v1) (hz : a.eval z = .slice (some ⟨N, 0, none⟩) 1 1) (h : Two w B v1 xs v2 ys) (hc : w.cell? ⟨N, 0, none⟩ = some (.int .i64 x)) (hn : xs.length < 1048576) (hB : B ≤ w.heap.size)
 (hK : ∀ A c w', Two w' B (.slice A (xs.length + 1) c) (xs ++ [x]) v2 ys → w.grownBy w' v1.ownBlock → Below B w w' → K (a.put o.dst (.slice A (xs.length + 1) c)) w') : o.wp Tryz.prog a w K Q := by
 obtain ⟨v', w', hr, h1, h2, h3⟩ := h.app hc hn hB
 obtain ⟨A, c, hv⟩ := own_form h1.1
 rw [List.length_append] at hv
 subst hv
 exact wp_append_run s z 23 ho hs hz (by rw [hty]; exact hr) (hK A c w' h1 h2 h3)
theorem keepN {r : Option Nat} {u : Value} (hg : w.grownBy w' r) (h : w.cell? ⟨N, 0, none⟩ = some u) (hr : r ≠ some N) : w'.cell? ⟨N, 0, none⟩ = some u := hg.cell h (fun e => hr e.symm)
end
theorem BoxAt.put21 {w : World} {g : Nat} {t : TypeId} {x a b a' b' : Value} (h : BoxAt w g #[x, a, b] t) : BoxAt ((w.setCell ⟨g, 2, none⟩ b').setCell ⟨g, 1, none⟩ a') g #[x, a', b'] t := by
 simpa using (h.set 2 b').set 1 a'
theorem containsRd_calls {W w : World} {A : Option Addr} {c : Nat} {xs : List Int} (h : Rd W.heap.size A xs 1 (IntC W)) (hW : Below W.heap.size W w) (hn : xs.length ≤ 1048576) (z : Int) :
 Calls Tryz.prog 90 #[.slice A xs.length c, .int .i64 z] w fun e w' => e = .returned (.bool (xs.contains z)) ∧ w' = w := by
 cases xs with
 | nil =>
  refine (Tryz.slices_Contains_int_empty A c z w).mono ?_
  rintro e w' ⟨rfl, rfl⟩
  exact ⟨ZS, rfl⟩
 | cons y ys =>
  obtain ⟨b, off, rfl, hb, -⟩ := h.int hW (i := 0) ZS
  refine (Tryz.slices_Contains_int b off (y :: ys).length c (y :: ys) z w ZO ZO (fun j hj => ?_)).mono ?_
  · obtain ⟨b2, o2, e, -, hc⟩ := h.int hW (i := j) hj
    cases e
    rw [hc, ith]
  · rintro e w' ⟨rfl, rfl⟩
    rw [List.take_length]
    exact ⟨rfl, rfl⟩
theorem rowsP_move {w w' : World} {A : Option Addr} {xss : List (List Int)} (h : Rd w.heap.size A xss 1 (RowC w w.heap.size)) (hb : Below w.heap.size w w') : Rd w'.heap.size A xss 1 (RowC w' w'.heap.size) :=
 h.keep hb.size fun _ _ _ hl hx => by
  obtain ⟨v, h1, h2⟩ := hx
  exact ⟨v, by rw [(Kept.of_below hb) _ _ hl]; exact h1, h2.keep (Kept.of_below hb) hb.size⟩
set_option maxHeartbeats 8000000 in
theorem gphi_calls {W w : World} {F : PFunc} {i : Nat} {x : PPhi} {A6 A7 Af An : Option Addr} {c6 c7 cf cn : Nat} {fs nums : List Int} (ha : Rd W.heap.size A6 x.args 1 (IntC W)) (hfr : Rd W.heap.size A7 x.froms 1 (IntC W)) (hf : Rd W.heap.size Af fs 1 (IntC W)) (hn : Rd W.heap.size An nums 1 (IntC W))
 (hW : Below W.heap.size W w) (hal : x.args.length = x.froms.length) (hl : x.froms.length ≤ 100000) (hfl : fs.length ≤ 100000)
 (hk : ∀ k, k < x.froms.length → 0 ≤ ith x.froms k ∧ (ith x.froms k).toNat < nums.length ∧ keepF F i (ith x.froms k) = (fs.contains (ith x.froms k) && decide (0 ≤ ith nums (ith x.froms k).toNat)))
 (hm : ∀ k, k < x.froms.length → keepF F i (ith x.froms k) = true → ith nums (ith x.froms k).toNat = numP F (ith x.froms k).toNat) :
 Calls Tryz.prog 48 #[.agg #[.int .i64 x.dst, .slice A6 x.args.length c6, .slice A7 x.froms.length c7], .slice Af fs.length cf, .slice An nums.length cn] w fun e w' => ∃ v1 v2, e = .returned (.agg #[.int .i64 x.dst, v1, v2]) ∧
  Two w' w.heap.size v2 (prPhi F i x).froms v1 (prPhi F i x).args ∧ Below w.heap.size w w' := by
 have hWs := hW.size
 have HAL := Lib.hid hal
 clear hal
 obtain ⟨w2, hw2⟩ : ∃ w2 : World, w2 = (w.alloc (.cells #[.int .i64 x.dst, .slice A6 x.args.length c6, .slice A7 x.froms.length c7] 66)).alloc (.cells #[.int .i64 0, .slice none 0 0, .slice none 0 0] 66) := ⟨_, rfl⟩
 have hb2 : Below w.heap.size w w2 := by rw [hw2]; exact BL
 have hs2 : w2.heap.size = w.heap.size + 2 := by rw [hw2]; simp
 have x0 : BoxAt w2 w.heap.size #[.int .i64 x.dst, .slice A6 x.args.length c6, .slice A7 x.froms.length c7] 66 := by rw [hw2]; exact (BoxAt.new _ _ _).alloc _
 have x1 : BoxAt w2 (w.heap.size + 1) #[.int .i64 0, .slice none 0 0, .slice none 0 0] 66 := by
  rw [hw2]
  have := BoxAt.new (w.alloc (.cells #[.int .i64 x.dst, .slice A6 x.args.length c6, .slice A7 x.froms.length c7] 66)) #[.int .i64 0, .slice none 0 0, .slice none 0 0] 66
  simpa using this
 have q0 := x0.cell 0
 have q2 := x0.cell 2
 have ql := x0.lt
 simp at q0 q2
 go_enter Tryz.func48, Tryz.ntmps48
 go_upto_region 1 with fail
 rw [← hw2]
 clear hw2
 go_wp2_with fail
 clear q0 q2 ql
 go_loopw [16] (fun s wr => ∃ (k : Nat) (B1 B2 : Option Addr) (d1 d2 : Nat), s = .int .i64 k ∧ k ≤ x.froms.length ∧ Two wr (w.heap.size + 3) (.slice B2 (prN F i x k).length d2) (prN F i x k) (.slice B1 (prA F i x k).length d1) (prA F i x k) ∧
  BoxAt wr (w.heap.size + 2) #[.int .i64 x.dst, .slice B1 (prA F i x k).length d1, .slice B2 (prN F i x k).length d2] 66 ∧ Below w2.heap.size w2 wr) (fun s _ => x.froms.length - (intOf s).toNat)
 case atStart =>
  refine ⟨0, none, none, 0, 0, rfl, Nat.zero_le _, Two.nil, ?_, (Below.refl _ _).alloc (Nat.le_refl _) _⟩
  have := BoxAt.new w2 #[.int .i64 x.dst, .slice none 0 0, .slice none 0 0] 66
  rw [hs2] at this
  exact this
 case round => as_aux_lemma =>
  obtain ⟨k, B1, B2, d1, d2, rfl, hkl, hT, hx, hb⟩ := hrel
  have hBr := hb2.trans (hb.mono hb2.size)
  have hWr := hW.trans (hBr.mono hWs)
  have y0 := x0.below hb x0.lt
  have y1 := x1.below hb x1.lt
  have hxl := hx.lt
  have q01 := y0.cell 1
  have q11 := hx.cell 1
  have q12 := hx.cell 2
  simp at q01 q11 q12
  by_cases hlt : k < x.froms.length
  · obtain ⟨b7, o7, rfl, hb7, hc7⟩ := hfr.int hWr hlt
    obtain ⟨b6, o6, rfl, hb6, hc6⟩ := ha.int hWr (i := k) (by have := HAL.out; omega)
    obtain ⟨hk0, hk1, hk2⟩ := hk k hlt
    have hk3 := hm k hlt
    obtain ⟨f, hfk⟩ : ∃ f : Nat, ith x.froms k = f := ⟨(ith x.froms k).toNat, ZO⟩
    have HFK := Lib.hid hfk
    rw [hfk, Int.toNat_natCast] at hk1 hk2 hk3
    rw [hfk] at hc7
    obtain ⟨bn, on, rfl, hbn, hcn⟩ := hn.int hWr hk1
    obtain ⟨b8, o8, e8, hbnW, -⟩ := hn _ _ (ith_get hk1)
    cases e8
    obtain ⟨b8, o8, e8, hb6W, -⟩ := ha _ _ (ith_get (show k < x.args.length by have := HAL.out; omega))
    cases e8
    have hcon := containsRd_calls (c := cf) hf hWr ZO (f : Int)
    have HA0 := Lib.hid (prA_no (F := F) (i := i) (x := x) (k := k))
    have HN0 := Lib.hid (prN_no (F := F) (i := i) (x := x) (k := k))
    have HA1 := Lib.hid (prA_yes (F := F) (i := i) (x := x) (k := k))
    have HN1 := Lib.hid (prN_yes (F := F) (i := i) (x := x) (k := k))
    rw [hfk] at HA0 HN0 HA1 HN1
    have hla := prA_le (F := F) (i := i) (x := x) k
    have hln := prN_le (F := F) (i := i) (x := x) k
    clear hfk hk hm y1
    cases hct : fs.contains (f : Int)
    · rw [hct] at hk2 hcon
      have ea := HA0.out (by simpa using hk2)
      have en := HN0.out (by simpa using hk2)
      clear hct hk2 hk3 HA0 HN0 HA1 HN1
      have EA := Lib.hid ea
      have EN' := Lib.hid en
      clear ea en
      go_wp2_with (go_at_call 90; refine hcon.mono ?_; rintro e w9 ⟨rfl, hw9⟩; subst w9)
      go_roundw
      case rel => exact ⟨k + 1, B1, B2, d1, d2, ZN, ZO, by rw [EA.out, EN'.out]; exact hT, by rw [EA.out, EN'.out]; exact hx, hb⟩
      case measure => simp [intOf]; omega
    · rw [hct] at hk2 hcon
      by_cases hge : 0 ≤ ith nums f
      · have hkp : keepF F i (f : Int) = true := by rw [hk2]; simp [hge]
        have hnv := hk3 hkp
        rw [hnv] at hcn
        have EA := Lib.hid (HA1.out hkp)
        have EN' := Lib.hid (HN1.out hkp)
        have hlA := congrArg List.length EA.out
        have hlN := congrArg List.length EN'.out
        rw [List.length_append, List.length_singleton] at hlA hlN
        rw [Int.toNat_natCast] at EN'
        have HLA := Lib.hid hlA
        have HLN := Lib.hid hlN
        clear hlA hlN hct hk2 hk3 HA0 HN0 HA1 HN1 hge hkp hnv
        generalize ith x.args k = av at *
        generalize prN F i x k = pn at *
        generalize prA F i x k = pa at *
        have hka : k < x.args.length := by have := HAL.out; omega
        have hls2 := fun j (e : (Value.slice B2 pn.length d2).ownBlock = some j) => (own_lt hT.1 e).2
        have hls1 := fun j (e : (Value.slice B1 pa.length d1).ownBlock = some j) => (own_lt hT.2.1 e).2
        go_wp2_with (go_at_call 90; refine hcon.mono ?_; rintro e w9 ⟨rfl, hw9⟩; subst w9)
        obtain ⟨S0, hS0⟩ : ∃ S0 : World → Prop, S0 = fun w' => w'.cell? ⟨w.heap.size + 2, 2, none⟩ = some (.slice B2 pn.length d2) ∧ w'.cell? ⟨w.heap.size + 2, 1, none⟩ = some (.slice B1 pa.length d1) ∧ w'.cell? ⟨w.heap.size, 1, none⟩ = some (.slice (some ⟨b6, o6, none⟩) x.args.length c6) ∧ w'.cell? ⟨bn, on + f, none⟩ = some (.int .i64 ((numP F f : Nat) : Int)) ∧ w'.cell? ⟨b6, o6 + k, none⟩ = some (.int .i64 av) ∧ Below (w.heap.size + 3) wr w' ∧ w.heap.size + 2 < w'.heap.size ∧ w.heap.size < w'.heap.size ∧ bn < w'.heap.size ∧ b6 < w'.heap.size := ⟨_, rfl⟩
        have HS0 := Lib.hid hS0
        clear hS0
        have k0 := fun xw => (WS.at HS0 xw).1
        have k1 := fun xw => (WS.at HS0 xw).2.1
        have k2 := fun xw => (WS.at HS0 xw).2.2.1
        have k3 := fun xw => (WS.at HS0 xw).2.2.2.1
        have k4 := fun xw => (WS.at HS0 xw).2.2.2.2.1
        have k5 := fun xw => (WS.at HS0 xw).2.2.2.2.2.1
        have k6 := fun xw => (WS.at HS0 xw).2.2.2.2.2.2.1
        have k7 := fun xw => (WS.at HS0 xw).2.2.2.2.2.2.2.1
        have k8 := fun xw => (WS.at HS0 xw).2.2.2.2.2.2.2.2.1
        have k9 := fun xw => (WS.at HS0 xw).2.2.2.2.2.2.2.2.2
        refine wp_region_treeE (S := S0) [18, 19, 20] ZK ?hS (fun hSc hcl => ?_)
        case hS =>
         rw [HS0.out]
         exact ⟨ZI, ZI, ZI, ZI, ZI, BL, ZJ, ZJ, ZJ, ZJ⟩
        have hne0 : Nonempty (WS S0) := ⟨⟨_, hSc⟩⟩
        have hneT : Nonempty (WS (fun _ => True)) := match hne0 with | ⟨x⟩ => ⟨⟨x.w, trivial⟩⟩
        refine wpTreeE_run [(0, 0), (1, 0), (2, 0), (3, 0), (4, 0), (5, 0), (8, 0), (9, 0), (10, 0), (11, 0), (12, 0), (13, 0), (14, 0)] 8 rfl ZK (fun _ _ _ _ _ h => h) hSc hcl ?_
        all_goals
         (try simp only [List.map_cons, List.map_nil, List.getD_cons_succ, List.getD_cons_zero])
         repeat
          first
          | ((with_reducible refine wpSch3_lk ?_ ?_); exact rfl; dsimp only; go_big_quiet_step (fail); (try with_reducible refine wpQuiet_nil ?_); (try dsimp only))
          | ((with_reducible refine wpSch3_fr ?_ ?_); exact rfl; dsimp only; go_big_quiet_step (fail); (try with_reducible refine wpQuiet_nil ?_); (try dsimp only))
          | ((with_reducible refine wpSch3_at ?_ ?_ (fun K hK => ?_))
             exact rfl
             exact rfl
             dsimp only
             first
             | ((first | refine wp_two (B := w.heap.size + 3) (v1 := .slice B2 pn.length d2) (xs := pn) (x := ((numP F f : Nat) : Int)) _ _ rfl rfl rfl rfl hT ?_ ?_ ?_ ?_ | refine wp_two (B := w.heap.size + 3) (v1 := .slice B2 pn.length d2) (xs := pn) (x := ((numP F f : Nat) : Int)) _ _ rfl rfl rfl rfl hT.swap ?_ ?_ ?_ ?_ | refine wp_two (B := w.heap.size + 3) (v1 := .slice B2 pn.length d2) (xs := pn) (x := ((numP F f : Nat) : Int)) _ _ rfl rfl rfl rfl (hT.alloc _) ?_ ?_ ?_ ?_ | refine wp_two (B := w.heap.size + 3) (v1 := .slice B2 pn.length d2) (xs := pn) (x := ((numP F f : Nat) : Int)) _ _ rfl rfl rfl rfl (hT.alloc _).swap ?_ ?_ ?_ ?_ | refine wp_two (B := w.heap.size + 3) (v1 := .slice B2 pn.length d2) (xs := pn) (x := ((numP F f : Nat) : Int)) _ _ rfl rfl rfl rfl ((hT.alloc _).alloc _) ?_ ?_ ?_ ?_ | refine wp_two (B := w.heap.size + 3) (v1 := .slice B2 pn.length d2) (xs := pn) (x := ((numP F f : Nat) : Int)) _ _ rfl rfl rfl rfl ((hT.alloc _).alloc _).swap ?_ ?_ ?_ ?_); (focus first | assumption | (go_keep; done) | (go_simp; done) | (refine keepN hG9 ?_ (fun e => by have := hls2 _ e; omega); go_simp; done)); (focus omega); (focus first | omega | (simp; omega)); intro A9 c9 w9 hT hG9 hb9; have hc9 := fun (b o : Nat) (h : b < w.heap.size + 3) => hb9.cell (p := ⟨b, o, none⟩) h; have hz9 := hb9.size; (try simp at hz9); simp only [Act.put, List.setIfInBounds_toArray, List.set_cons_zero, List.set_cons_succ])
             | ((first | refine wp_two (B := w.heap.size + 3) (v1 := .slice B1 pa.length d1) (xs := pa) (x := av) _ _ rfl rfl rfl rfl hT ?_ ?_ ?_ ?_ | refine wp_two (B := w.heap.size + 3) (v1 := .slice B1 pa.length d1) (xs := pa) (x := av) _ _ rfl rfl rfl rfl hT.swap ?_ ?_ ?_ ?_ | refine wp_two (B := w.heap.size + 3) (v1 := .slice B1 pa.length d1) (xs := pa) (x := av) _ _ rfl rfl rfl rfl (hT.alloc _) ?_ ?_ ?_ ?_ | refine wp_two (B := w.heap.size + 3) (v1 := .slice B1 pa.length d1) (xs := pa) (x := av) _ _ rfl rfl rfl rfl (hT.alloc _).swap ?_ ?_ ?_ ?_ | refine wp_two (B := w.heap.size + 3) (v1 := .slice B1 pa.length d1) (xs := pa) (x := av) _ _ rfl rfl rfl rfl ((hT.alloc _).alloc _) ?_ ?_ ?_ ?_ | refine wp_two (B := w.heap.size + 3) (v1 := .slice B1 pa.length d1) (xs := pa) (x := av) _ _ rfl rfl rfl rfl ((hT.alloc _).alloc _).swap ?_ ?_ ?_ ?_); (focus first | assumption | (go_keep; done) | (go_simp; done) | (refine keepN hG9 ?_ (fun e => by have := hls2 _ e; omega); go_simp; done)); (focus omega); (focus first | omega | (simp; omega)); intro A9 c9 w9 hT hG9 hb9; have hc9 := fun (b o : Nat) (h : b < w.heap.size + 3) => hb9.cell (p := ⟨b, o, none⟩) h; have hz9 := hb9.size; (try simp at hz9); simp only [Act.put, List.setIfInBounds_toArray, List.set_cons_zero, List.set_cons_succ])
             | (go_simp)
             refine hK.out _ _ ?hS (fun hSc => ?_)
             case hS =>
              first
              | exact hSc
              | (rw [HS0.out] at hSc ⊢; obtain ⟨p0, p1, p2, p3, p4, p5, p6, p7, p8, p9⟩ := hSc; exact ⟨ZC0, ZC1, ZC2, ZC3, ZC4, (by first | exact p5.trans (hb9.mono (by have := p5.size; first | omega | (simp at this ⊢; omega))) | exact BL), ZT6, ZT7, ZT8, ZT9⟩)
              | (rw [HS0.out] at hSc ⊢; obtain ⟨p0, p1, p2, p3, p4, p5, p6, p7, p8, p9⟩ := hSc; exact ⟨ZC, ZC, ZC, ZC, ZC, BL, ZT, ZT, ZT, ZT⟩)
             clear hK K)
         (try (refine wpSch3_nil ?_; intro hSc hcl))
        refine wpTreeE_fork 6 15 7 rfl ZK hSc hcl ?_ ?_
        all_goals
         (try simp only [List.getD_cons_succ, List.getD_cons_zero])
         repeat
          first
          | ((with_reducible refine wpSch3_lk ?_ ?_); exact rfl; dsimp only; go_big_quiet_step (fail); (try with_reducible refine wpQuiet_nil ?_); (try dsimp only))
          | ((with_reducible refine wpSch3_fr ?_ ?_); exact rfl; dsimp only; go_big_quiet_step (fail); (try with_reducible refine wpQuiet_nil ?_); (try dsimp only))
          | ((with_reducible refine wpSch3_at ?_ ?_ (fun K hK => ?_))
             exact rfl
             exact rfl
             dsimp only
             first
             | ((first | refine wp_two (B := w.heap.size + 3) (v1 := .slice B2 pn.length d2) (xs := pn) (x := ((numP F f : Nat) : Int)) _ _ rfl rfl rfl rfl hT ?_ ?_ ?_ ?_ | refine wp_two (B := w.heap.size + 3) (v1 := .slice B2 pn.length d2) (xs := pn) (x := ((numP F f : Nat) : Int)) _ _ rfl rfl rfl rfl hT.swap ?_ ?_ ?_ ?_ | refine wp_two (B := w.heap.size + 3) (v1 := .slice B2 pn.length d2) (xs := pn) (x := ((numP F f : Nat) : Int)) _ _ rfl rfl rfl rfl (hT.alloc _) ?_ ?_ ?_ ?_ | refine wp_two (B := w.heap.size + 3) (v1 := .slice B2 pn.length d2) (xs := pn) (x := ((numP F f : Nat) : Int)) _ _ rfl rfl rfl rfl (hT.alloc _).swap ?_ ?_ ?_ ?_ | refine wp_two (B := w.heap.size + 3) (v1 := .slice B2 pn.length d2) (xs := pn) (x := ((numP F f : Nat) : Int)) _ _ rfl rfl rfl rfl ((hT.alloc _).alloc _) ?_ ?_ ?_ ?_ | refine wp_two (B := w.heap.size + 3) (v1 := .slice B2 pn.length d2) (xs := pn) (x := ((numP F f : Nat) : Int)) _ _ rfl rfl rfl rfl ((hT.alloc _).alloc _).swap ?_ ?_ ?_ ?_); (focus first | assumption | (go_keep; done) | (go_simp; done) | (refine keepN hG9 ?_ (fun e => by have := hls2 _ e; omega); go_simp; done)); (focus omega); (focus first | omega | (simp; omega)); intro A9 c9 w9 hT hG9 hb9; have hc9 := fun (b o : Nat) (h : b < w.heap.size + 3) => hb9.cell (p := ⟨b, o, none⟩) h; have hz9 := hb9.size; (try simp at hz9); simp only [Act.put, List.setIfInBounds_toArray, List.set_cons_zero, List.set_cons_succ])
             | ((first | refine wp_two (B := w.heap.size + 3) (v1 := .slice B1 pa.length d1) (xs := pa) (x := av) _ _ rfl rfl rfl rfl hT ?_ ?_ ?_ ?_ | refine wp_two (B := w.heap.size + 3) (v1 := .slice B1 pa.length d1) (xs := pa) (x := av) _ _ rfl rfl rfl rfl hT.swap ?_ ?_ ?_ ?_ | refine wp_two (B := w.heap.size + 3) (v1 := .slice B1 pa.length d1) (xs := pa) (x := av) _ _ rfl rfl rfl rfl (hT.alloc _) ?_ ?_ ?_ ?_ | refine wp_two (B := w.heap.size + 3) (v1 := .slice B1 pa.length d1) (xs := pa) (x := av) _ _ rfl rfl rfl rfl (hT.alloc _).swap ?_ ?_ ?_ ?_ | refine wp_two (B := w.heap.size + 3) (v1 := .slice B1 pa.length d1) (xs := pa) (x := av) _ _ rfl rfl rfl rfl ((hT.alloc _).alloc _) ?_ ?_ ?_ ?_ | refine wp_two (B := w.heap.size + 3) (v1 := .slice B1 pa.length d1) (xs := pa) (x := av) _ _ rfl rfl rfl rfl ((hT.alloc _).alloc _).swap ?_ ?_ ?_ ?_); (focus first | assumption | (go_keep; done) | (go_simp; done) | (refine keepN hG9 ?_ (fun e => by have := hls2 _ e; omega); go_simp; done)); (focus omega); (focus first | omega | (simp; omega)); intro A9 c9 w9 hT hG9 hb9; have hc9 := fun (b o : Nat) (h : b < w.heap.size + 3) => hb9.cell (p := ⟨b, o, none⟩) h; have hz9 := hb9.size; (try simp at hz9); simp only [Act.put, List.setIfInBounds_toArray, List.set_cons_zero, List.set_cons_succ])
             | (go_simp)
             refine hK.out _ _ ?hS (fun hSc => ?_)
             case hS =>
              first
              | exact hSc
              | (rw [HS0.out] at hSc ⊢; obtain ⟨p0, p1, p2, p3, p4, p5, p6, p7, p8, p9⟩ := hSc; exact ⟨ZC0, ZC1, ZC2, ZC3, ZC4, (by first | exact p5.trans (hb9.mono (by have := p5.size; first | omega | (simp at this ⊢; omega))) | exact BL), ZT6, ZT7, ZT8, ZT9⟩)
              | (rw [HS0.out] at hSc ⊢; obtain ⟨p0, p1, p2, p3, p4, p5, p6, p7, p8, p9⟩ := hSc; exact ⟨ZC, ZC, ZC, ZC, ZC, BL, ZT, ZT, ZT, ZT⟩)
             clear hK K)
         (try (refine wpSch3_nil ?_; intro hSc hcl))
        refine wpTreeE_fork 7 15 6 rfl ZK hSc hcl ?_ ?_
        rotate_left 2
        refine wpTreeE_run [(6, 1), (7, 1), (17, 0), (16, 1)] 3 rfl ZK (fun _ _ _ _ _ h => h) hSc hcl ?_
        rotate_left
        all_goals
         (try simp only [List.map_cons, List.map_nil, List.getD_cons_succ, List.getD_cons_zero])
         repeat
          first
          | ((with_reducible refine wpSch3_lk ?_ ?_); exact rfl; dsimp only; go_big_quiet_step (fail); (try with_reducible refine wpQuiet_nil ?_); (try dsimp only))
          | ((with_reducible refine wpSch3_fr ?_ ?_); exact rfl; dsimp only; go_big_quiet_step (fail); (try with_reducible refine wpQuiet_nil ?_); (try dsimp only))
          | ((with_reducible refine wpSch3_at ?_ ?_ (fun K hK => ?_))
             exact rfl
             exact rfl
             dsimp only
             first
             | ((first | refine wp_two (B := w.heap.size + 3) (v1 := .slice B2 pn.length d2) (xs := pn) (x := ((numP F f : Nat) : Int)) _ _ rfl rfl rfl rfl hT ?_ ?_ ?_ ?_ | refine wp_two (B := w.heap.size + 3) (v1 := .slice B2 pn.length d2) (xs := pn) (x := ((numP F f : Nat) : Int)) _ _ rfl rfl rfl rfl hT.swap ?_ ?_ ?_ ?_ | refine wp_two (B := w.heap.size + 3) (v1 := .slice B2 pn.length d2) (xs := pn) (x := ((numP F f : Nat) : Int)) _ _ rfl rfl rfl rfl (hT.alloc _) ?_ ?_ ?_ ?_ | refine wp_two (B := w.heap.size + 3) (v1 := .slice B2 pn.length d2) (xs := pn) (x := ((numP F f : Nat) : Int)) _ _ rfl rfl rfl rfl (hT.alloc _).swap ?_ ?_ ?_ ?_ | refine wp_two (B := w.heap.size + 3) (v1 := .slice B2 pn.length d2) (xs := pn) (x := ((numP F f : Nat) : Int)) _ _ rfl rfl rfl rfl ((hT.alloc _).alloc _) ?_ ?_ ?_ ?_ | refine wp_two (B := w.heap.size + 3) (v1 := .slice B2 pn.length d2) (xs := pn) (x := ((numP F f : Nat) : Int)) _ _ rfl rfl rfl rfl ((hT.alloc _).alloc _).swap ?_ ?_ ?_ ?_); (focus first | assumption | (go_keep; done) | (go_simp; done) | (refine keepN hG9 ?_ (fun e => by have := hls2 _ e; omega); go_simp; done)); (focus omega); (focus first | omega | (simp; omega)); intro A9 c9 w9 hT hG9 hb9; have hc9 := fun (b o : Nat) (h : b < w.heap.size + 3) => hb9.cell (p := ⟨b, o, none⟩) h; have hz9 := hb9.size; (try simp at hz9); simp only [Act.put, List.setIfInBounds_toArray, List.set_cons_zero, List.set_cons_succ])
             | ((first | refine wp_two (B := w.heap.size + 3) (v1 := .slice B1 pa.length d1) (xs := pa) (x := av) _ _ rfl rfl rfl rfl hT ?_ ?_ ?_ ?_ | refine wp_two (B := w.heap.size + 3) (v1 := .slice B1 pa.length d1) (xs := pa) (x := av) _ _ rfl rfl rfl rfl hT.swap ?_ ?_ ?_ ?_ | refine wp_two (B := w.heap.size + 3) (v1 := .slice B1 pa.length d1) (xs := pa) (x := av) _ _ rfl rfl rfl rfl (hT.alloc _) ?_ ?_ ?_ ?_ | refine wp_two (B := w.heap.size + 3) (v1 := .slice B1 pa.length d1) (xs := pa) (x := av) _ _ rfl rfl rfl rfl (hT.alloc _).swap ?_ ?_ ?_ ?_ | refine wp_two (B := w.heap.size + 3) (v1 := .slice B1 pa.length d1) (xs := pa) (x := av) _ _ rfl rfl rfl rfl ((hT.alloc _).alloc _) ?_ ?_ ?_ ?_ | refine wp_two (B := w.heap.size + 3) (v1 := .slice B1 pa.length d1) (xs := pa) (x := av) _ _ rfl rfl rfl rfl ((hT.alloc _).alloc _).swap ?_ ?_ ?_ ?_); (focus first | assumption | (go_keep; done) | (go_simp; done) | (refine keepN hG9 ?_ (fun e => by have := hls2 _ e; omega); go_simp; done)); (focus omega); (focus first | omega | (simp; omega)); intro A9 c9 w9 hT hG9 hb9; have hc9 := fun (b o : Nat) (h : b < w.heap.size + 3) => hb9.cell (p := ⟨b, o, none⟩) h; have hz9 := hb9.size; (try simp at hz9); simp only [Act.put, List.setIfInBounds_toArray, List.set_cons_zero, List.set_cons_succ])
             | (go_simp)
             refine hK.out _ _ ?hS (fun hSc => ?_)
             case hS =>
              first
              | exact hSc
              | (rw [HS0.out] at hSc ⊢; obtain ⟨p0, p1, p2, p3, p4, p5, p6, p7, p8, p9⟩ := hSc; exact ⟨ZC0, ZC1, ZC2, ZC3, ZC4, (by first | exact p5.trans (hb9.mono (by have := p5.size; first | omega | (simp at this ⊢; omega))) | exact BL), ZT6, ZT7, ZT8, ZT9⟩)
              | (rw [HS0.out] at hSc ⊢; obtain ⟨p0, p1, p2, p3, p4, p5, p6, p7, p8, p9⟩ := hSc; exact ⟨ZC, ZC, ZC, ZC, ZC, BL, ZT, ZT, ZT, ZT⟩)
             clear hK K)
         (try (refine wpSch3_nil ?_; intro hSc hcl))
        refine wpTreeE_run [(17, 0), (15, 1), (16, 1)] 3 rfl ZK (fun _ _ _ _ _ h => h) hSc hcl ?_
        rotate_left
        refine wpTreeE_run [(7, 1), (17, 0), (16, 1)] 3 rfl ZK (fun _ _ _ _ _ h => h) hSc hcl ?_
        rotate_left
        rotate_left
        all_goals
         (try simp only [List.map_cons, List.map_nil, List.getD_cons_succ, List.getD_cons_zero])
         repeat
          first
          | ((with_reducible refine wpSch3_lk ?_ ?_); exact rfl; dsimp only; go_big_quiet_step (fail); (try with_reducible refine wpQuiet_nil ?_); (try dsimp only))
          | ((with_reducible refine wpSch3_fr ?_ ?_); exact rfl; dsimp only; go_big_quiet_step (fail); (try with_reducible refine wpQuiet_nil ?_); (try dsimp only))
          | ((with_reducible refine wpSch3_at ?_ ?_ (fun K hK => ?_))
             exact rfl
             exact rfl
             dsimp only
             first
             | ((first | refine wp_two (B := w.heap.size + 3) (v1 := .slice B2 pn.length d2) (xs := pn) (x := ((numP F f : Nat) : Int)) _ _ rfl rfl rfl rfl hT ?_ ?_ ?_ ?_ | refine wp_two (B := w.heap.size + 3) (v1 := .slice B2 pn.length d2) (xs := pn) (x := ((numP F f : Nat) : Int)) _ _ rfl rfl rfl rfl hT.swap ?_ ?_ ?_ ?_ | refine wp_two (B := w.heap.size + 3) (v1 := .slice B2 pn.length d2) (xs := pn) (x := ((numP F f : Nat) : Int)) _ _ rfl rfl rfl rfl (hT.alloc _) ?_ ?_ ?_ ?_ | refine wp_two (B := w.heap.size + 3) (v1 := .slice B2 pn.length d2) (xs := pn) (x := ((numP F f : Nat) : Int)) _ _ rfl rfl rfl rfl (hT.alloc _).swap ?_ ?_ ?_ ?_ | refine wp_two (B := w.heap.size + 3) (v1 := .slice B2 pn.length d2) (xs := pn) (x := ((numP F f : Nat) : Int)) _ _ rfl rfl rfl rfl ((hT.alloc _).alloc _) ?_ ?_ ?_ ?_ | refine wp_two (B := w.heap.size + 3) (v1 := .slice B2 pn.length d2) (xs := pn) (x := ((numP F f : Nat) : Int)) _ _ rfl rfl rfl rfl ((hT.alloc _).alloc _).swap ?_ ?_ ?_ ?_); (focus first | assumption | (go_keep; done) | (go_simp; done) | (refine keepN hG9 ?_ (fun e => by have := hls2 _ e; omega); go_simp; done)); (focus omega); (focus first | omega | (simp; omega)); intro A9 c9 w9 hT hG9 hb9; have hc9 := fun (b o : Nat) (h : b < w.heap.size + 3) => hb9.cell (p := ⟨b, o, none⟩) h; have hz9 := hb9.size; (try simp at hz9); simp only [Act.put, List.setIfInBounds_toArray, List.set_cons_zero, List.set_cons_succ])
             | ((first | refine wp_two (B := w.heap.size + 3) (v1 := .slice B1 pa.length d1) (xs := pa) (x := av) _ _ rfl rfl rfl rfl hT ?_ ?_ ?_ ?_ | refine wp_two (B := w.heap.size + 3) (v1 := .slice B1 pa.length d1) (xs := pa) (x := av) _ _ rfl rfl rfl rfl hT.swap ?_ ?_ ?_ ?_ | refine wp_two (B := w.heap.size + 3) (v1 := .slice B1 pa.length d1) (xs := pa) (x := av) _ _ rfl rfl rfl rfl (hT.alloc _) ?_ ?_ ?_ ?_ | refine wp_two (B := w.heap.size + 3) (v1 := .slice B1 pa.length d1) (xs := pa) (x := av) _ _ rfl rfl rfl rfl (hT.alloc _).swap ?_ ?_ ?_ ?_ | refine wp_two (B := w.heap.size + 3) (v1 := .slice B1 pa.length d1) (xs := pa) (x := av) _ _ rfl rfl rfl rfl ((hT.alloc _).alloc _) ?_ ?_ ?_ ?_ | refine wp_two (B := w.heap.size + 3) (v1 := .slice B1 pa.length d1) (xs := pa) (x := av) _ _ rfl rfl rfl rfl ((hT.alloc _).alloc _).swap ?_ ?_ ?_ ?_); (focus first | assumption | (go_keep; done) | (go_simp; done) | (refine keepN hG9 ?_ (fun e => by have := hls2 _ e; omega); go_simp; done)); (focus omega); (focus first | omega | (simp; omega)); intro A9 c9 w9 hT hG9 hb9; have hc9 := fun (b o : Nat) (h : b < w.heap.size + 3) => hb9.cell (p := ⟨b, o, none⟩) h; have hz9 := hb9.size; (try simp at hz9); simp only [Act.put, List.setIfInBounds_toArray, List.set_cons_zero, List.set_cons_succ])
             | (go_simp)
             refine hK.out _ _ ?hS (fun hSc => ?_)
             case hS =>
              first
              | exact hSc
              | (rw [HS0.out] at hSc ⊢; obtain ⟨p0, p1, p2, p3, p4, p5, p6, p7, p8, p9⟩ := hSc; exact ⟨ZC0, ZC1, ZC2, ZC3, ZC4, (by first | exact p5.trans (hb9.mono (by have := p5.size; first | omega | (simp at this ⊢; omega))) | exact BL), ZT6, ZT7, ZT8, ZT9⟩)
              | (rw [HS0.out] at hSc ⊢; obtain ⟨p0, p1, p2, p3, p4, p5, p6, p7, p8, p9⟩ := hSc; exact ⟨ZC, ZC, ZC, ZC, ZC, BL, ZT, ZT, ZT, ZT⟩)
             clear hK K)
         (try (refine wpSch3_nil ?_; intro hSc hcl))
        all_goals
         refine wpTreeE_end [18, 19, 20] rfl ZK ?_
         simp only [List.map_cons, List.map_nil, List.getD_cons_succ, List.getD_cons_zero]
         rw [HS0.out] at hSc
         obtain ⟨p0, p1, p2, p3, p4, p5, p6, p7, p8, p9⟩ := hSc
         clear hne0 hneT hcl HS0 k0 k1 k2 k3 k4 k5 k6 k7 k8 k9
         have y9 : BoxAt w9 (w.heap.size + 2) _ _ := hx.below p5 ZO
         have h9 : Below (w.heap.size + 3) wr w9 := p5
         have f1 : w9.frozen? ⟨w.heap.size + 2, 1, none⟩ = false := y9.frozen 1
         have f2 : w9.frozen? ⟨w.heap.size + 2, 2, none⟩ = false := y9.frozen 2
         have e1 := y9.cell 1
         have e2 := y9.cell 2
         have l9 := y9.lt
         simp at e1 e2
         clear p0 p1 p2 p3 p4 p5 p6 p7 p8 p9 hG9 hb9 hc9 hz9
         go_wp2_with fail
         go_roundw
         (case rel => refine ⟨k + 1, ?_, ?_, ?_, ?_, ZN, ZO, ?_, ?_, ?_⟩; rotate_left 4; (· rw [HLN.out, HLA.out, EN'.out, EA.out]; first | exact (hT.set (a := ⟨w.heap.size + 2, 2, none⟩) ZS _).set (a := ⟨w.heap.size + 2, 1, none⟩) ZS _ | exact (hT.swap.set (a := ⟨w.heap.size + 2, 2, none⟩) ZS _).set (a := ⟨w.heap.size + 2, 1, none⟩) ZS _); (· rw [HLN.out, HLA.out]; exact y9.put21); (· exact ((hb.trans (h9.mono ZO)).setCell ZX _).setCell ZX _))
         (case measure => simp [intOf]; omega)
      · have hkp : keepF F i (f : Int) = false := by rw [hk2]; simp [hge]
        have EA := Lib.hid (HA0.out hkp)
        have EN' := Lib.hid (HN0.out hkp)
        have hge2 : ¬ 0 ≤ ith nums f := hge
        clear hct hk2 hk3 HA0 HN0 HA1 HN1 hkp
        go_wp2_with (go_at_call 90; refine hcon.mono ?_; rintro e w9 ⟨rfl, hw9⟩; subst w9)
        go_roundw
        case rel => exact ⟨k + 1, B1, B2, d1, d2, ZN, ZO, by rw [EA.out, EN'.out]; exact hT, by rw [EA.out, EN'.out]; exact hx, hb⟩
        case measure => simp [intOf]; omega
  · obtain rfl : k = x.froms.length := by omega
    have q10 := hx.cell 0
    simp at q10
    have y2 := y1.cell 0
    have y3 := y1.cell 1
    have y4 := y1.cell 2
    have f0 := y1.frozen 0
    have f1 := y1.frozen 1
    have f2 := y1.frozen 2
    have l1 := y1.lt
    simp at y2 y3 y4
    go_wp2
    have hz := y1.set3 (a := .int .i64 x.dst) (b := .slice B1 (prA F i x x.froms.length).length d1) (c := .slice B2 (prN F i x x.froms.length).length d2)
    have z0 := hz.cell 0
    have z1 := hz.cell 1
    have z2 := hz.cell 2
    simp only [List.getElem?_toArray, List.getElem?_cons_zero, List.getElem?_cons_succ] at z0 z1 z2
    have hTz := ((hT.set (a := ⟨w.heap.size + 1, 0, none⟩) ZS (.int .i64 x.dst)).set (a := ⟨w.heap.size + 1, 1, none⟩) ZS (.slice B1 (prA F i x x.froms.length).length d1)).set (a := ⟨w.heap.size + 1, 2, none⟩) ZS (.slice B2 (prN F i x x.froms.length).length d2)
    have hBz := ((hBr.setCell (p := ⟨w.heap.size + 1, 0, none⟩) ZS (.int .i64 x.dst)).setCell (p := ⟨w.heap.size + 1, 1, none⟩) ZS (.slice B1 (prA F i x x.froms.length).length d1)).setCell (p := ⟨w.heap.size + 1, 2, none⟩) ZS (.slice B2 (prN F i x x.froms.length).length d2)
    exact bodyPost_ret (v := .agg #[.int .i64 x.dst, .slice B1 (prA F i x x.froms.length).length d1, .slice B2 (prN F i x x.froms.length).length d2]) (by simp [results, Tryz.results48, go_sem, z0, z1, z2]) rfl ⟨_, _, rfl, ⟨own_rebase hTz.1 ZO, own_rebase hTz.2.1 ZO, hTz.2.2⟩, hBz⟩
end Go.Proofs.YtjdkcichkpolgaaGreatDoor
