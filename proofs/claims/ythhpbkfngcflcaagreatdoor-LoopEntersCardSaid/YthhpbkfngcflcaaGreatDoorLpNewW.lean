/- The walk of loop.New of a typed program. -/
import Derived.Test.YthhpbkfngcflcaaGreatDoorLpMm
import Derived.Test.YthhpbkfngcflcaaGreatDoorLpPl
import Derived.BigQuiet
namespace Go.Proofs.YthhpbkfngcflcaaGreatDoor
open Go.RowKit
open Go.Maps
open Go.ChangeMaps (setBlock)
set_option maxRecDepth 100000
theorem rows_move {w w' : World} {A : Option Addr} {xss : List (List Int)} (h : Rd w.heap.size A xss 1 (RowC w w.heap.size)) (hb : Below w.heap.size w w') : Rd w'.heap.size A xss 1 (RowC w' w'.heap.size) :=
 h.keep hb.size fun _ _ _ hl hx => RowC.keep hx hl (Kept.of_below hb) hb.size
def RetNest (F : PFunc) (w : World) (e : Ending) (w' : World) : Prop := ∃ nb mb ve vs es clk, e = .returned (.tuple #[.pointer (some ⟨nb, 0, none⟩), .int .i64 0]) ∧ NestO w' w.heap.size F F.blocks.length F.blocks.length (endsAt F) nb mb (redB F) ve vs es clk ∧ Below w.heap.size w w'
def PreTh (F : PFunc) (w : World) (v6 v7 : Value) : Prop := ∃ Ap cp gt, v6 = .slice Ap F.blocks.length cp ∧ v7 = .slice (some ⟨gt, 0, none⟩) F.blocks.length F.blocks.length ∧ Rd w.heap.size Ap (predsOf F) 1 (RowC w w.heap.size) ∧ gt < w.heap.size ∧ ∀ i, i < F.blocks.length → w.cell? ⟨gt, i, none⟩ = some (.bool (decide (i ∈ OR F)))
theorem PreTh.below {F : PFunc} {w w' : World} {v6 v7 : Value} (h : PreTh F w v6 v7) (hb : Below w.heap.size w w') : PreTh F w' v6 v7 := by
 obtain ⟨Ap, cp, gt, h6, h7, hr, hg, hc⟩ := h
 exact ⟨Ap, cp, gt, h6, h7, rows_move hr hb, Nat.lt_of_lt_of_le hg hb.size, fun i hi => (hb.cell (p := ⟨gt, i, none⟩) hg).trans (hc i hi)⟩
def plRow (n : Nat) (O : List Nat) (k : Nat) : List Nat := (atRow n O k).map (· - 1)
theorem plRow_len {n : Nat} {O : List Nat} {k : Nat} : (plRow n O k).length = n := by simp [plRow, atRow_len]
theorem plRow_zero {n : Nat} {O : List Nat} : plRow n O 0 = List.replicate n 0 := by simp [plRow, atRow]
theorem plRow_step {n : Nat} {O : List Nat} {k : Nat} : plRow n O (k + 1) = (plRow n O k).set (O.getD k 0) k := by simp [plRow, atRow, List.map_set]
theorem plRow_at {n b : Nat} {O : List Nat} (hb : b < n) : (plRow n O O.length).getD b 0 = pz n O b := by
 have hl : b < (atRow n O O.length).length := by rw [atRow_len]; exact hb
 unfold plRow pz pl
 simp [List.getD, hl]
theorem plRow_cell {n b k : Nat} {O : List Nat} (hb : b < n) : ((plRow n O k).map fun x => Value.int .i64 ((x : Nat) : Int))[b]? = some (.int .i64 (((plRow n O k).getD b 0 : Nat) : Int)) := by
 have h : b < (plRow n O k).length := by rw [plRow_len]; exact hb
 rw [List.getElem?_map, List.getElem?_eq_getElem h, List.getD, List.getElem?_eq_getElem h]
 rfl
section
variable {w : World} {base m n nb mb clk : Nat} {F : PFunc} {ro : Nat → List Int} {rd : Bool} {ve : Value} {vs : List Value} {es : Array MapEntry}
theorem NestO.congr (h : NestO w base F m n ro nb mb rd ve vs es clk) {ro' : Nat → List Int} (hr : ∀ i, i < m → ro' i = ro i) : NestO w base F m n ro' nb mb rd ve vs es clk :=
 ⟨h.box, h.ends, fun i x hx => by
   have hi : i < m := by have h1 := (List.getElem?_eq_some_iff.1 hx).1; have h2 := h.ends.1; omega
   rw [hr i hi]
   exact h.rows i x hx, h.obj, h.ents⟩
theorem NestO.red (h : NestO w base F m n ro nb mb rd ve vs es clk) (b : Bool) : NestO (w.setCell ⟨nb, 2, none⟩ (.bool b)) base F m n ro nb mb b ve vs es clk := by
 have hk : KeepIB w (w.setCell ⟨nb, 2, none⟩ (.bool b)) := KeepIB.setBox h.box ZD
 exact ⟨h.box.set 2 _, ownsRow_setCell_other h.ends (own_box_ne h.ends h.box ZD) _, fun i x hx => own_ib (h.rows i x hx) (.inl rfl) hk, (Below.heap_setCell _ _ _ _ (box_map_ne h.box h.obj)).trans h.obj, h.ents.ib hk⟩
theorem NestO.mono (h : NestO w base F m n ro nb mb rd ve vs es clk) {B : Nat} (hB : B ≤ base) : NestO w B F m n ro nb mb rd ve vs es clk :=
 ⟨h.box, own_base h.ends hB, fun i x hx => own_base (h.rows i x hx) hB, h.obj, h.ents.keys, fun e he x hx => by
   obtain ⟨vl, g, h0, h1, h2⟩ := h.ents.vals e he x hx
   exact ⟨vl, g, h0, own_base h1 hB, own_base h2 hB⟩, h.ents.nod, h.ents.born⟩
theorem NestO.drew (h : NestO w base F m n ro nb mb rd ve vs es clk) (k : Nat) : NestO (w.drewN k) base F m n ro nb mb rd ve vs es clk := h.below (bdrewM (Below.refl _ _) k)
theorem NestO.init (w : World) (F : PFunc) : NestO ((w.alloc (.map #[] 0)).alloc (.cells #[.map (some w.heap.size), .slice none 0 0, .bool true] 110)) w.heap.size F 0 0 (endsAt F) (w.heap.size + 1) w.heap.size true (.slice none 0 0) [] #[] 0 := by
 have hb := BoxAt.new (w.alloc (.map #[] 0)) #[.map (some w.heap.size), .slice none 0 0, .bool true] 110
 simp only [World.size_alloc] at hb
 refine ⟨hb, World.ownsRow_nil _ _ _ _, fun i x hx => by simp at hx, ?_, ⟨by simp [headsL], fun e he => by simp at he, ZS, fun e he => by simp at he⟩⟩
 exact (heap_alloc_old _ _ ZS).trans (heap_alloc_new w _)
end
noncomputable def latK (F : PFunc) (h j : Nat) : List Nat := ((PR F h).take j).filter fun p => tabB F h p
theorem latK_zero {F : PFunc} {h : Nat} : latK F h 0 = [] := rfl
theorem latK_end {F : PFunc} {h : Nat} : latK F h (PR F h).length = latL F h := by rw [latK, List.take_length]; rfl
theorem latK_yes {F : PFunc} {h j p : Nat} (hp : (PR F h)[j]? = some p) (ht : tabB F h p = true) : latK F h (j + 1) = latK F h j ++ [p] := by
 unfold latK
 rw [List.take_add_one, hp]
 simp [ht]
theorem latK_no {F : PFunc} {h j p : Nat} (hp : (PR F h)[j]? = some p) (ht : tabB F h p = false) : latK F h (j + 1) = latK F h j := by
 unfold latK
 rw [List.take_add_one, hp]
 simp [ht]
theorem latK_le {F : PFunc} {h j : Nat} : (latK F h j).length ≤ j := Nat.le_trans (List.length_filter_le _ _) (by rw [List.length_take]; omega)
set_option maxHeartbeats 16000000 in
theorem loopNew_calls {W w : World} {fv : Value} {F : PFunc} (hU : Uni W) (hF : FnV W W.heap.size fv F) (hW : Below W.heap.size W w) (hS : Small F) (hT : typedP F = true) :
 Calls Tryz.prog 20 #[fv] w (RetNest F w) := by
 have hWs := hW.size
 obtain ⟨n1, n2⟩ := shaped_count (typed_shaped hT)
 have hne := fun (w' : World) (h : Below W.heap.size W w') => newYes_calls hU hF h hS hT
 have hpr := fun (w' : World) (h : Below W.heap.size W w') => predsYes_calls hU hF h hS hT
 have hre := fun (w' : World) (h : Below W.heap.size W w') => reachYes_calls hU hF h hS hT
 have HU := Lib.hid hU
 have HF := Lib.hid hF
 have HSM := Lib.hid hS
 have HTA := Lib.hid (fun i (hi : i < F.blocks.length) => show (marksL F.blocks.length (postO F).reverse).getD i false = decide (i ∈ OR F) by rw [Bool.eq_iff_iff, there_at hi, decide_eq_true_eq])
 have HT := Lib.hid hT
 have HPL := Lib.hid (predsF_len (F := F) F.blocks.length)
 have HML := Lib.hid (marksL_len (n := F.blocks.length) (l := (postO F).reverse))
 obtain ⟨A0, c0, A1, c1, A2, c2, rfl, l0, l1, l2, -, -, -, r0, r1, r2⟩ := id hF.open_
 unfold Len at *
 have hb0 := (Below.refl w.heap.size w).alloc (Nat.le_refl _) (.cells #[.slice A0 F.vars.length c0, .slice A1 F.params.length c1, .slice A2 F.blocks.length c2] 26)
 clear hT hU hS
 go_enter Tryz.func20, Tryz.ntmps20
 go_wp2_with fail
 refine (hne _ BL).mono ?_
 rintro e w3 ⟨v, rfl, ⟨tb, gn, gl, gk, gf, L, V, rfl, hD⟩, hb3⟩
 have hX3 : Below (w.heap.size + 1) (w.alloc (.cells #[.slice A0 F.vars.length c0, .slice A1 F.params.length c1, .slice A2 F.blocks.length c2] 26)) w3 := by simpa using hb3
 have hB3 := hb0.trans (hX3.mono (Nat.le_succ _))
 have hW3 : Below W.heap.size W w3 := hW.trans (hB3.mono hWs)
 obtain ⟨q, q0, q1, q2⟩ := box3 hX3
 clear hb3 hne
 go_upto_region 4 with fail
 go_cut [6, 7] (fun s6 s7 wx => PreTh F wx s6 s7 ∧ Below w3.heap.size w3 wx)
 case first => as_aux_lemma =>
  obtain ⟨S0, hS0⟩ : ∃ S0 : World → Prop, S0 = fun w' => w'.cell? ⟨w.heap.size, 0, none⟩ = some (.slice A0 F.vars.length c0) ∧ w'.cell? ⟨w.heap.size, 1, none⟩ = some (.slice A1 F.params.length c1) ∧ w'.cell? ⟨w.heap.size, 2, none⟩ = some (.slice A2 F.blocks.length c2) ∧ Below w3.heap.size w3 w' ∧ w.heap.size < w'.heap.size := ⟨_, rfl⟩
  have HS0 := Lib.hid hS0
  clear hS0
  have k0 := fun xw => (WS.at HS0 xw).1
  have k1 := fun xw => (WS.at HS0 xw).2.1
  have k2 := fun xw => (WS.at HS0 xw).2.2.1
  have k3 := fun xw => (WS.at HS0 xw).2.2.2.1
  have k4 := fun xw => (WS.at HS0 xw).2.2.2.2
  refine wp_region_tree (S := S0) ZK ?hS (fun hSc => ?_)
  case hS =>
   rw [HS0.out]
   exact ⟨ZI, ZI, ZI, BL, ZJ⟩
  have hne0 : Nonempty (WS S0) := ⟨⟨_, hSc⟩⟩
  refine wpTree_run [(0, false), (2, false), (1, true), (3, true), (4, false), (5, false)] 0 rfl ZK (fun _ _ _ _ _ h => h) hSc ?_
  all_goals
   (try simp only [List.map_cons, List.map_nil, List.getD_cons_succ, List.getD_cons_zero])
   repeat
    first
    | ((with_reducible refine wpSchR_lk ?_ ?_); exact rfl; dsimp only; go_big_quiet_step (fail); (try with_reducible refine wpQuiet_nil ?_); (try dsimp only))
    | ((with_reducible refine wpSchR_at ?_ ?_ (fun K hK => ?_))
       exact rfl
       exact rfl
       dsimp only
       go_simp
       (try go_wp2_with (first | (go_at_call 46; refine (hpr _ (hW3.trans (Below.mono BL hW3.size))).mono ?_; rintro e wp ⟨Ap, cp, rfl, lp, kp, rp, hbp⟩; have hb9 := hbp; obtain ⟨hc9, hf9⟩ := bcell hb9; have hz9 := hb9.size; (try simp at hz9)) | (go_at_call 57; refine (hre _ (hW3.trans (Below.mono BL hW3.size))).mono ?_; rintro e wt ⟨gt, rfl, hot, hbt⟩; have hb9 := hbt; obtain ⟨hc9, hf9⟩ := bcell hb9; have hz9 := hb9.size; (try simp at hz9))))
       refine hK.out _ _ ?hS (fun hSc => ?_)
       case hS =>
        first
        | exact hSc
        | (rw [HS0.out] at hSc ⊢; obtain ⟨p0, p1, p2, p3, p4⟩ := hSc; exact ⟨ZC0, ZC1, ZC2, (by first | exact p3.trans (hb9.mono (by have := p3.size; first | omega | (simp at this ⊢; omega))) | exact BL), (by first | exact Nat.lt_of_lt_of_le p4 hb9.size | exact ZT)⟩)
       clear hK K)
   (try (refine wpSchR_nil ?_; intro hSc))
  all_goals
   refine wpTree_end ZK ?_
   rw [HS0.out] at hSc
   obtain ⟨p0, p1, p2, p3, p4⟩ := hSc
   clear hne0 HS0 k0 k1 k2 k3 k4
   go_wp2_with fail
   go_meet
   rw [HML.out] at hot ⊢
   refine ⟨⟨Ap, cp, gt, by rw [show (predsOf F).length = F.blocks.length from HPL.out], rfl, ?_, ?_, ?_⟩, ZA⟩
   · first | exact rp | exact rows_move rp BL
   · first | exact (hot.lt gt rfl).2 | exact Nat.lt_of_lt_of_le (hot.lt gt rfl).2 hbp.size
   · exact fun i hi => by have h1 := own_bool hot hi; rw [HTA.out i hi] at h1; first | exact h1 | exact (hbp.cell (p := ⟨gt, i, none⟩) (hot.lt gt rfl).2).trans h1
 case rest => as_aux_lemma =>
  obtain ⟨hPT, hb4⟩ := hcut
  obtain ⟨wA, rfl⟩ : ∃ wA : World, wA = wc := ⟨_, rfl⟩
  have hPT' := hPT
  obtain ⟨Ap, cp, gt, rfl, rfl, -, -, -⟩ := hPT'
  have hmm := @run_makeMap Tryz.prog
  have hXc := hX3.trans (hb4.mono (by have := hX3.size; simpa using this))
  have hBc := hb0.trans (hXc.mono (Nat.le_succ _))
  clear q q0 q1 q2
  obtain ⟨q, q0, q1, q2⟩ := box3 hXc
  have qq := Nat.lt_succ_of_lt q
  have HDc := Lib.hid (hD.keep (Kept.of_below hb4) hb4.size)
  have HPT := Lib.hid hPT
  have HIN := Lib.hid (NestO.init wA F)
  have HG := Lib.hid (gr_of HT.out)
  clear hD hPT
  go_wp2
  clear q0 q1 q2 q qq
  go_loopw [39] (fun x wr => ∃ (k : Nat) (ve : Value) (vs : List Value) (es : Array MapEntry) (clk : Nat), x = .int .i64 k ∧ k ≤ F.blocks.length ∧ NestO wr wA.heap.size F k k (endsAt F) (wA.heap.size + 1) wA.heap.size true ve vs es clk ∧ Below wA.heap.size wA wr) (fun x _ => F.blocks.length - (intOf x).toNat)
  case atStart => exact ⟨0, _, _, _, _, rfl, Nat.zero_le _, HIN.out, BL⟩
  case round => as_aux_lemma =>
   clear HIN
   obtain ⟨k, ve, vs, es, clk, rfl, hk, hN, hb⟩ := hrel
   have hXr := hXc.trans (hb.mono (by have := hXc.size; simpa using this))
   have hBr := hBc.trans (hb.mono hBc.size)
   have hWr : Below W.heap.size W wr := hW.trans (hBr.mono hWs)
   obtain ⟨q, q0, q1, q2⟩ := box3 hXr
   by_cases hlt : k < F.blocks.length
   · have hkn : (k : Int) < (F.blocks.length : Int) := by omega
     obtain ⟨Ae, ce, hve⟩ := own_form hN.ends
     subst hve
     obtain ⟨-, -, gt', -, hv7, -, hgtc, hth⟩ := HPT.out
     have hgg : gt = gt' := by simpa using hv7
     subst hgg
     replace hth := hth k hlt
     obtain ⟨th, hth0⟩ : ∃ th, decide (k ∈ OR F) = th := ⟨_, rfl⟩
     rw [hth0] at hth
     have HTHI := Lib.hid hth0
     clear hth0
     have hHX := Lib.hid hXr
     have hHB := Lib.hid hb
     have hwc : wA.heap.size ≤ wr.heap.size := hb.size
     have x1 := hN.box.cell 1
     have xl := hN.box.lt
     have xf := hN.box.frozen 1
     replace x1 : wr.cell? ⟨wA.heap.size + 1, 1, none⟩ = some (.slice Ae k ce) := x1
     have hN1 := hN.congr (ro' := fun i => if i = k then [] else endsAt F i) (fun i hi => if_neg ZO)
     have HN1 := Lib.hid hN1
     have hEO := hN.ends
     have HB := Lib.hid hb
     clear hv7 hN hN1 hb
     go_upto_if 54 with (
      at_builtin; refine wpList_append1F _ rfl _ _ 91 rfl wA.heap.size 23 24 Tryz.underlying91 Tryz.info23 rfl _ _ _ rfl hEO _ rfl (.slice none 0 0) (by rfl) rfl ZO ZD hwc ?_; intro v5 w5 hown5 hg5 hfr5
      obtain ⟨g5, c5, rfl, hg5B, hg5l, hm5, -⟩ := own_succ hown5
      obtain ⟨hbx5, hN5⟩ := HN1.out.more ZS hown5 hg5
      have y1 := hbx5.lt
      have y2 := hbx5.frozen 1
      have y3 := hbx5.cell 1
      have hgs := hg5.size
      simp at hgs
      have HB5 := Lib.hid (grown_below hEO hg5 HB.out (Nat.le_refl _) hwc)
      have y5 := Lib.hid hN5
      have y6 := (HB5.out.cell (p := ⟨gt, k, none⟩) hgtc).trans hth
      have y7 : gt < w5.heap.size := by omega
      have y8 : ¬ (wA.heap.size + 1 = gt) := by omega
      have y9 : ¬ (gt = wA.heap.size + 1) := by omega
      clear hown5 hg5 hfr5 hN5 hEO x1 xf)
     go_cut [66] (fun _ wx => ∃ ve vs, NestO wx wA.heap.size F (k + 1) k (endsAt F) (wA.heap.size + 1) wA.heap.size true ve vs es clk ∧ Below wA.heap.size wA wx)
     case first => as_aux_lemma =>
      obtain ⟨W6, hW6⟩ : ∃ W6 : World, W6 = (w5.setCell ⟨wA.heap.size + 1, 1, none⟩ (.slice (some ⟨g5, 0, none⟩) (k + 1) c5)) := ⟨_, rfl⟩
      rw [← hW6] at y5
      have HB6 := Lib.hid (show Below wA.heap.size wA W6 by rw [hW6]; exact HB5.out.setCell ZS _)
      have y10 := (HB6.out.cell (p := ⟨gt, k, none⟩) hgtc).trans hth
      have hBw6 := hBc.trans (HB6.out.mono hBc.size)
      have hW6' : Below W.heap.size W W6 := hW.trans (hBw6.mono hWs)
      obtain ⟨p, p0, p1, p2⟩ := box3 (hXc.trans (HB6.out.mono (by have := hXc.size; simpa using this)))
      have x61 := y5.out.box.cell 1
      have x6l := y5.out.box.lt
      replace x61 : W6.cell? ⟨wA.heap.size + 1, 1, none⟩ = some (.slice (some ⟨g5, 0, none⟩) (k + 1) c5) := x61
      obtain ⟨bb, off, A3, c3, A4, c4, rfl, hbb, -, -, -, -, hy3, hy4, hy5, hy6, -⟩ := r2.blk hW6' hlt
      rw [← hW6]
      clear y1 y2 y3 y6 y7 hbx5 hW6 q0 q1 q2 q hth HN1
      cases th
      case false =>
       as_aux_lemma =>
       have HE := Lib.hid (show endsAt F k = [] by rw [endsAt, if_neg (of_decide_eq_false HTHI.out)])
       go_wp2
       go_meet
       exact ⟨_, _, y5.out.congr (fun i hi => by
        by_cases e : i = k
        · rw [e, if_pos rfl, HE.out]
        · rw [if_neg e]), HB6.out⟩
      case true =>
       as_aux_lemma =>
       have HE := Lib.hid (show endsAt F k = endsOf (F.blk k).term by rw [endsAt, if_pos (of_decide_eq_true HTHI.out), EN_ints HT.out hlt])
       go_wp2_with fail
       obtain ⟨S0, hS0⟩ : ∃ S0 : World → Prop, S0 = fun w' => w'.cell? ⟨wA.heap.size + 1, 1, none⟩ = some (.slice (some ⟨g5, 0, none⟩) (k + 1) c5) ∧ w'.cell? ⟨w.heap.size, 2, none⟩ = some (.slice (some ⟨bb, off, none⟩) F.blocks.length c2) ∧ w'.cell? ⟨bb, off + k * 7 + 3, none⟩ = some (.int .i64 (F.blk k).term.kind) ∧ w'.cell? ⟨bb, off + k * 7 + 4, none⟩ = some (.int .i64 (F.blk k).term.var) ∧ w'.cell? ⟨bb, off + k * 7 + 5, none⟩ = some (.int .i64 (F.blk k).term.t0) ∧ w'.cell? ⟨bb, off + k * 7 + 6, none⟩ = some (.int .i64 (F.blk k).term.t1) ∧ Below W6.heap.size W6 w' ∧ wA.heap.size + 1 < w'.heap.size ∧ w.heap.size < w'.heap.size ∧ bb < w'.heap.size := ⟨_, rfl⟩
       have HS0 := Lib.hid hS0
       clear hS0
       have k0 := fun xw => (WS.at HS0 xw).1
       have k1 := fun xw => (WS.at HS0 xw).2.1
       have k2 := fun xw => (WS.at HS0 xw).2.2.1
       have k3 := fun xw => (WS.at HS0 xw).2.2.2.1
       have k4 := fun xw => (WS.at HS0 xw).2.2.2.2.1
       have k5 := fun xw => (WS.at HS0 xw).2.2.2.2.2.1
       have k6 := fun xw => (WS.at HS0 xw).2.2.2.2.2.2.1
       have k7 := fun xw => (WS.at HS0 xw).2.2.2.2.2.2.2.1
       have k8 := fun xw => (WS.at HS0 xw).2.2.2.2.2.2.2.2.1
       have k9 := fun xw => (WS.at HS0 xw).2.2.2.2.2.2.2.2.2
       refine wp_region_treeE (S := S0) [13] ZK ?hS (fun hSc hcl => ?_)
       case hS =>
        rw [HS0.out]
        exact ⟨ZI, ZI, ZI, ZI, ZI, ZI, BL, ZJ, ZJ, ZJ⟩
       have hne0 : Nonempty (WS S0) := ⟨⟨_, hSc⟩⟩
       have hneT : Nonempty (WS (fun _ => True)) := match hne0 with | ⟨x⟩ => ⟨⟨x.w, trivial⟩⟩
       refine wpTreeE_run [(0, 0), (1, 0), (2, 0), (3, 0), (4, 0), (5, 0), (6, 0), (7, 0), (8, 0), (9, 0), (10, 0), (11, 1), (12, 0)] 1 rfl ZK (fun _ _ _ _ _ h => h) hSc hcl ?_
       all_goals
        (try simp only [List.map_cons, List.map_nil, List.getD_cons_succ, List.getD_cons_zero])
        repeat
         first
         | ((with_reducible refine wpSch3_lk ?_ ?_); exact rfl; dsimp only; go_big_quiet_step (fail); (try with_reducible refine wpQuiet_nil ?_); (try dsimp only))
         | ((with_reducible refine wpSch3_fr ?_ ?_); exact rfl; dsimp only; go_big_quiet_step (fail); (try with_reducible refine wpQuiet_nil ?_); (try dsimp only))
         | ((with_reducible refine wpSch3_at ?_ ?_ (fun K hK => ?_))
            exact rfl
            exact rfl
            dsimp only
            go_simp
            (try go_wp2_with (go_at_call 58; refine (endsO_calls (F.blk k).term).mono ?_; rintro e w9 ⟨A9, c9, rfl, ho9, hb9⟩; obtain ⟨hc9, hf9⟩ := bcell hb9; have hz9 := hb9.size; (try simp at hz9)))
            refine hK.out _ _ ?hS (fun hSc => ?_)
            case hS =>
             first
             | exact hSc
             | (rw [HS0.out] at hSc ⊢; obtain ⟨p0, p1, p2, p3, p4, p5, p6, p7, p8, p9⟩ := hSc; exact ⟨ZC0, ZC1, ZC2, ZC3, ZC4, ZC5, ZL6, ZT7, ZT8, ZT9⟩)
            clear hK K)
        (try (refine wpSch3_nil ?_; intro hSc hcl))
       all_goals
        refine wpTreeE_end [13] rfl ZK ?_
        simp only [List.map_cons, List.map_nil, List.getD_cons_succ, List.getD_cons_zero]
        rw [HS0.out] at hSc
        obtain ⟨p0, p1, p2, p3, p4, p5, p6, p7, p8, p9⟩ := hSc
        clear hne0 hneT hcl HS0 k0 k1 k2 k3 k4 k5 k6 k7 k8 k9
        have hN9 := y5.out.below p6
        have hvl : vs.length = k := by have := hN9.ends.1; simp at this; omega
        have hc99 : w9.cell? ⟨g5, k, none⟩ = some (.slice none 0 0) := by rw [hN9.ends.cellAt k ZO, ← hvl]; simp
        have hf99 := hN9.ends.frozenAt k
        have hl99 := (hN9.ends.lt _ rfl).2
        have HL9 := Lib.hid (hN9.lay (ro' := endsAt F) (Nat.lt_succ_self k) rfl (by rw [HE.out]; exact own_base ho9 (by have := HB6.out.size; simpa using this)) (fun i hi => (if_neg hi).symm))
        clear hN9 hvl
        go_wp2_with fail
        go_meet
        exact ⟨_, _, HL9.out, (HB6.out.trans (p6.mono HB6.out.size)).setCell hg5B _⟩
     case rest => as_aux_lemma =>
      obtain ⟨ve6, vs6, hN6, hb6⟩ := hcut
      obtain ⟨wB, rfl⟩ : ∃ wB : World, wB = wc := ⟨_, rfl⟩
      obtain ⟨Ap2, cp2, gt2, e6, e7, hrow, hgt2, hth2⟩ := HPT.out
      have e8 : Ap = Ap2 ∧ gt = gt2 := by simp only [Value.slice.injEq, Option.some.injEq, Addr.mk.injEq, and_true, true_and] at e6 e7; exact ⟨e6.1, e7⟩
      obtain ⟨rfl, rfl⟩ := e8
      have HRW := Lib.hid hrow
      obtain ⟨bp, op, Aq, cq, rfl, hbp, hcp, lq, kq, rq⟩ := RowRd hrow hb6 (i := k) (by rw [show (predsOf F).length = F.blocks.length from HPL.out]; exact hlt)
      rw [PR_row HT.out hlt] at hcp lq kq rq
      have hil : (ints (PR F k)).length = (PR F k).length := by simp [ints]
      rw [hil] at hcp lq kq
      unfold Len at lq
      have hpn := PR_le (F := F) (b := k)
      have HTR := Lib.hid (fun (w' : World) (h : Below wA.heap.size wA w') => HDc.out.keep (Kept.of_below h) h.size)
      have HTH2 := Lib.hid hth2
      have HN6 := Lib.hid hN6
      have hkn : (k : Int) < (F.blocks.length : Int) := by omega
      have HIL := Lib.hid hil
      clear e6 e7 hrow hth2 hN6 hth hHX hHB HN1 HB xl hwc hil
      go_wp2
      clear hcp
      go_loopw [10, 73] (fun v10 x wr => ∃ j : Nat, x = .int .i64 j ∧ j ≤ (PR F k).length ∧ wr.ownsRow wB.heap.size 3 1 v10 (latK F k j).length ((ints (latK F k j)).map (Value.int .i64)) ∧ Below wB.heap.size wB wr) (fun _ x _ => (PR F k).length - (intOf x).toNat)
      case atStart => exact ⟨0, rfl, Nat.zero_le _, World.ownsRow_nil _ _ _ _, Below.refl _ _⟩
      case round => as_aux_lemma =>
       obtain ⟨j, rfl, hj, ho, hbj⟩ := hrel
       obtain ⟨Av, cv, rfl⟩ := own_form ho
       have hbA := hb6.trans (hbj.mono hb6.size)
       have hlk := latK_le (F := F) (h := k) (j := j)
       by_cases hjl : j < (PR F k).length
       · obtain ⟨b9, o9, rfl, hb9l, hc9k⟩ := rq.int hbA (i := j) (by rw [HIL.out]; exact hjl)
         obtain ⟨p, hp⟩ : ∃ p, (PR F k)[j]? = some p := ⟨_, List.getElem?_eq_getElem hjl⟩
         have hpi : ith (ints (PR F k)) j = (p : Int) := by simp [ith, ints, List.getD, hp]
         rw [hpi] at hc9k
         have hov := overQ_calls HG.out (HTR.out wr hbA) (k : Int) (p : Int)
         rw [overL_tab (HTR.out wr hbA).near] at hov
         obtain ⟨T, hT'⟩ : ∃ T, tabB F k p = T := ⟨_, rfl⟩
         rw [hT'] at hov
         have HTP := Lib.hid hT'
         have HPJ := Lib.hid hp
         have hBj := hbj.size
         clear hT' hp hpi
         cases T
         · as_aux_lemma =>
           have HS := Lib.hid (latK_no HPJ.out HTP.out)
           go_wp2_with fail
           refine hov.mono ?_
           rintro e w7 ⟨rfl, m, rfl⟩
           go_wp2
           go_roundw
           case rel => exact ⟨j + 1, ZN, ZO, by rw [HS.out]; exact ho, bdrewM hbj _⟩
           case measure => simp [intOf]; omega
         · as_aux_lemma =>
           have HS := Lib.hid (latK_yes HPJ.out HTP.out)
           go_wp2_with fail
           refine hov.mono ?_
           rintro e w7 ⟨rfl, m, rfl⟩
           have ho7 : (wr.drewN m).ownsRow wB.heap.size 3 1 (.slice Av (latK F k j).length cv) (latK F k j).length ((ints (latK F k j)).map (Value.int .i64)) := ho
           go_wp2_with (at_builtin; refine wpList_append1F _ rfl _ _ 23 rfl wB.heap.size 3 8 Tryz.underlying23 Tryz.info3 rfl _ _ _ rfl ho7 _ rfl (.int .i64 (p : Int)) (by rfl) rfl ZO ZD hBj ?_; intro v' w8 hown8 hg8 hfr8; obtain ⟨A8, c8, hv8⟩ := own_form hown8; subst hv8)
           go_roundw
           case rel =>
            refine ⟨j + 1, ZN, ZO, ?_, grown_below ho7 hg8 (bdrewM hbj _) (Nat.le_refl _) hBj⟩
            rw [HS.out]
            simpa [ints] using hown8
           case measure => simp [intOf]; omega
       · obtain rfl : j = (PR F k).length := by omega
         rw [latK_end] at ho hlk ⊢
         have hnr := HN6.out.below hbj
         by_cases hh : 0 < (latL F k).length
         · have hh' : 0 < ((latL F k).length : Int) := by omega
           have HHD := Lib.hid hh
           have HND := Lib.hid hnr
           have HLO := Lib.hid (own_base ho hb6.size)
           have HBD := Lib.hid hbA
           have hmemL : ∀ x ∈ latL F k, x < F.blocks.length := fun x hx => ((mem_PR HT.out).1 (List.mem_filter.1 hx).1).1
           have HRD := Lib.hid (fun (w' : World) (h : Below wr.heap.size wr w') => round_calls (cl := cv) (cp := cp) (ct := F.blocks.length) HT.out hlt hmemL ZO (Rd.of_own ho).2.2 (rows_move HRW.out hbA) (Nat.lt_of_lt_of_le hgt2 hbA.size) (fun i hi => (hbA.cell (p := ⟨gt, i, none⟩) hgt2).trans (HTH2.out i hi)) h)
           obtain ⟨wD, rfl⟩ : ∃ wD : World, wD = wr := ⟨_, rfl⟩
           have x0 := hnr.box.cell 0
           have xl := hnr.box.lt
           replace x0 : wD.cell? ⟨wA.heap.size + 1, 0, none⟩ = some (.map (some wA.heap.size)) := x0
           clear hh hnr ho hmemL
           as_aux_lemma =>
           go_wp2_with fail
           obtain ⟨S0, hS0⟩ : ∃ S0 : World → Prop, S0 = fun w' => w'.cell? ⟨wA.heap.size + 1, 0, none⟩ = some (.map (some wA.heap.size)) ∧ Below wD.heap.size wD w' ∧ wA.heap.size + 1 < w'.heap.size := ⟨_, rfl⟩
           have HS0 := Lib.hid hS0
           clear hS0
           have k0 := fun xw => (WS.at HS0 xw).1
           have k1 := fun xw => (WS.at HS0 xw).2.1
           have k2 := fun xw => (WS.at HS0 xw).2.2
           refine wp_region_treeE (S := S0) [10] ZK ?hS (fun hSc hcl => ?_)
           case hS =>
            rw [HS0.out]
            exact ⟨ZI, BL, ZJ⟩
           have hne0 : Nonempty (WS S0) := ⟨⟨_, hSc⟩⟩
           have hneT : Nonempty (WS (fun _ => True)) := match hne0 with | ⟨x⟩ => ⟨⟨x.w, trivial⟩⟩
           refine wpTreeE_run [(0, 0), (1, 0), (2, 0), (3, 0), (4, 0), (5, 0), (6, 0), (7, 0), (8, 0), (9, 1)] 1 rfl ZK (fun _ _ _ _ _ h => h) hSc hcl ?_
           all_goals
            (try simp only [List.map_cons, List.map_nil, List.getD_cons_succ, List.getD_cons_zero])
            repeat
             first
             | ((with_reducible refine wpSch3_lk ?_ ?_); exact rfl; dsimp only; go_big_quiet_step (fail); (try with_reducible refine wpQuiet_nil ?_); (try dsimp only))
             | ((with_reducible refine wpSch3_fr ?_ ?_); exact rfl; dsimp only; go_big_quiet_step (fail); (try with_reducible refine wpQuiet_nil ?_); (try dsimp only))
             | ((with_reducible refine wpSch3_at ?_ ?_ (fun K hK => ?_))
                exact rfl
                exact rfl
                dsimp only
                go_simp
                (try go_wp2_with (go_at_call 59; refine (HRD.out _ BL).mono ?_; rintro e w9 ⟨g9, rfl, ho9, hb9⟩; obtain ⟨hc9, hf9⟩ := bcell hb9; have hz9 := hb9.size; (try simp at hz9)))
                refine hK.out _ _ ?hS (fun hSc => ?_)
                case hS =>
                 first
                 | exact hSc
                 | (rw [HS0.out] at hSc ⊢; obtain ⟨p0, p1, p2⟩ := hSc; exact ⟨ZC0, ZL1, ZT2⟩)
                clear hK K)
            (try (refine wpSch3_nil ?_; intro hSc hcl))
           all_goals
            refine wpTreeE_end [10] rfl ZK ?_
            simp only [List.map_cons, List.map_nil, List.getD_cons_succ, List.getD_cons_zero]
            rw [HS0.out] at hSc
            obtain ⟨p0, p1, p2⟩ := hSc
            clear hne0 hneT hcl HS0 k0 k1 k2
            have hN9 := HND.out.below p1
            have hR9 := Lib.hid (show RingO w9 wA.heap.size F k _ from ⟨_, _, rfl, own_below HLO.out p1, own_base ho9 ZX⟩)
            have hrun := fun val => run_mapPut (val := val) w9 (int_keyed Tryz.underlying3) Tryz.underlying108 hN9.obj (key_int k ZO) (hN9.ents.int_keys ZO) (hN9.ents.new_key (Nat.le_refl _))
            have HP9 := Lib.hid (hN9.put HHD.out hR9.out)
            have HB9 := Lib.hid (HBD.out.trans (p1.mono HBD.out.size))
            clear hN9 hR9
            go_wp2_with (at_mapUpdate; refine wpList_mapPut _ rfl _ _ _ 108 rfl rfl rfl rfl (hrun _) ?_)
            go_roundw
            (case rel => exact ⟨k + 1, _, _, _, _, ZN, ZO, HP9.out, below_setBlock HB9.out (Nat.le_refl _) _⟩)
            (case measure => simp [intOf]; omega)
         · have hh' : ¬ 0 < ((latL F k).length : Int) := by omega
           have HNS := Lib.hid (hnr.skip hh)
           clear hnr hh
           go_wp2
           go_roundw
           case rel => exact ⟨k + 1, _, _, _, _, ZN, ZO, HNS.out, hbA⟩
           case measure => simp [intOf]; omega
   · obtain rfl : k = F.blocks.length := by omega
     obtain ⟨ib, hib, hz0, hz1, hz2⟩ := info_parts Tryz.info3
     have hmk : ∀ w : World, (Instr.makeSlice 23 (.int .i64 (F.blocks.length : Int)) (.int .i64 (F.blocks.length : Int))).run Tryz.prog w = .ok (.slice (some ⟨w.heap.size, 0, none⟩) F.blocks.length F.blocks.length) (w.alloc (.cells (madeCells (Value.int .i64 0).cells (F.blocks.length * ib.size)) 3)) := fun w => by
      have hr := run_make (P := Tryz.prog) w 23 3 ib (.int .i64 0) Tryz.underlying23 hib hz0 .i64 .i64 F.blocks.length F.blocks.length ZO ZO (by rw [hz2]; omega) ZO
      simp only [Int.toNat_natCast] at hr
      exact hr
     have hod := fun (w' : World) (h : Below W.heap.size W w') => orderYN_calls HU.out HF.out h HSM.out HT.out
     have HO0 : 0 < (OR F).length := by obtain ⟨r, hr⟩ := HG.out.hd; rw [hr]; simp
     have HNE := Lib.hid hN
     have HBE := Lib.hid hb
     have hBE := hb.size
     have HHX := Lib.hid hXr
     obtain ⟨wE, rfl⟩ : ∃ wE : World, wE = wr := ⟨_, rfl⟩
     have hm1 : (wE.alloc (.cells (madeCells #[.int .i64 0] F.blocks.length) 3)).ownsRow wE.heap.size 3 1 (.slice (some ⟨wE.heap.size, 0, none⟩) F.blocks.length F.blocks.length) F.blocks.length ((plRow F.blocks.length (OR F) 0).map fun x => Value.int .i64 ((x : Nat) : Int)) := by
      have := World.ownsRow_lit (base := wE.heap.size) (e := 3) (size := 1) wE (madeCells #[.int .i64 0] F.blocks.length) F.blocks.length (Nat.le_refl _) (by unfold maxLen; omega) (by rw [← Array.length_toList, toList_madeCells_one]; simp)
      simpa [toList_madeCells_one, plRow_zero] using this
     have HM1 := Lib.hid hm1
     clear hN hb hm1
     go_wp2_with fail
     refine (hod _ BL).mono ?_
     rintro e w9 ⟨⟨A9, c9, rfl, l9, k9, r9, hb9⟩, hn9⟩
     have hil : (ints (OR F)).length = (OR F).length := by simp [ints]
     obtain ⟨bo, oo, rfl, hbo, hOc⟩ := r9.first (by show 0 < (ints (OR F)).length; rw [hil]; exact HO0)
     have hn9' := hn9 _ _ _ rfl _ _ rfl
     replace hOc : ∀ i, i < (OR F).length → w9.cell? ⟨bo, oo + i, none⟩ = some (.int .i64 (((OR F).getD i 0 : Nat) : Int)) := fun i hi => by
      have e : ith (ints (OR F)) i = (((OR F).getD i 0 : Nat) : Int) := by simp [ith, ints, List.getD, hi]
      rw [hOc i (by show i < (ints (OR F)).length; rw [hil]; exact hi)]
      exact congrArg (fun z => some (Value.int .i64 z)) e
     have HOC := Lib.hid hOc
     have HOM := Lib.hid (fun i (hi : i < (OR F).length) => HG.out.lt _ (show (OR F).getD i 0 ∈ OR F by rw [getD_get hi]; exact List.getElem_mem hi))
     have hol : (ints (postO F).reverse).length = (OR F).length := hil
     rw [hol] at k9 l9 ⊢
     unfold Len at l9
     clear hOc r9 hil hn9 HO0 hod hmk
     go_wp2_with fail
     go_loopw [108] (fun x wr => ∃ k : Nat, x = .int .i64 k ∧ k ≤ (OR F).length ∧ wr.ownsRow wE.heap.size 3 1 (.slice (some ⟨wE.heap.size, 0, none⟩) F.blocks.length F.blocks.length) F.blocks.length ((plRow F.blocks.length (OR F) k).map fun x => Value.int .i64 ((x : Nat) : Int)) ∧ Below wE.heap.size wE wr ∧ bo < wr.heap.size ∧ ∀ i, i < (OR F).length → wr.cell? ⟨bo, oo + i, none⟩ = some (.int .i64 (((OR F).getD i 0 : Nat) : Int))) (fun x _ => (OR F).length - (intOf x).toNat)
     case atStart => exact ⟨0, rfl, Nat.zero_le _, own_below HM1.out hb9, ((Below.refl wE.heap.size wE).alloc (Nat.le_refl _) _).trans (hb9.mono ZS), hbo, HOC.out⟩
     case round => as_aux_lemma =>
      obtain ⟨k, rfl, hk, hP, hbP, hbo', hOc'⟩ := hrel
      have hPl : wE.heap.size < wr.heap.size := (hP.lt _ rfl).2
      have hne : wE.heap.size ≠ bo := by simp at hn9'; omega
      by_cases hlt : k < (OR F).length
      · have hc := hOc' k hlt
        have hbn := HOM.out k hlt
        have hfz := hP.frozenAt ((OR F).getD k 0)
        have hca : wr.cell? ⟨wE.heap.size, (OR F).getD k 0, none⟩ = some (.int .i64 (((plRow F.blocks.length (OR F) k).getD ((OR F).getD k 0) 0 : Nat) : Int)) := by
         rw [hP.cellAt _ ZO]
         exact plRow_cell hbn
        have hst := (hP.stored ((OR F).getD k 0) (.int .i64 ((k : Nat) : Int))).1
        rw [show ((plRow F.blocks.length (OR F) k).map fun x => Value.int .i64 ((x : Nat) : Int)).set ((OR F).getD k 0) (.int .i64 ((k : Nat) : Int)) = (plRow F.blocks.length (OR F) (k + 1)).map fun x => Value.int .i64 ((x : Nat) : Int) by rw [plRow_step, List.map_set]] at hst
        have HS := Lib.hid hst
        have HOK := Lib.hid hOc'
        have HBP := Lib.hid hbP
        clear hst hOc' hbP hP
        generalize (OR F).getD k 0 = b at *
        go_wp2
        go_roundw
        case rel => exact ⟨k + 1, ZN, ZO, HS.out, HBP.out.setCell ZS _, by simpa using hbo', fun i hi => by rw [World.cell?_setCell_far _ _ _ _ (by simpa using hne)]; exact HOK.out i hi⟩
        case measure => simp [intOf]; omega
      · obtain rfl : k = (OR F).length := by omega
        obtain ⟨ge, cape, rfl, -, hgec⟩ := own_pos HNE.out.ends n1
        have hPI := fun i (hi : i < F.blocks.length) => show wr.cell? ⟨wE.heap.size, i, none⟩ = some (.int .i64 ((pz F.blocks.length (OR F) i : Nat) : Int)) by
         rw [hP.cellAt i ZO, plRow_cell hi, plRow_at hi]
        have HKE := Lib.hid (show bo < wr.heap.size ∧ wE.heap.size < wr.heap.size ∧ bo ≠ wA.heap.size + 1 ∧ wE.heap.size ≠ wA.heap.size + 1 ∧ _ ∧ _ from ⟨hbo', hPl, by simp at hn9'; have := HNE.out.box.lt; omega, by have := HNE.out.box.lt; omega, hOc', hPI⟩)
        have HNP := Lib.hid (HNE.out.below hbP)
        have HBA := Lib.hid (HBE.out.trans (hbP.mono hBE))
        have HTR := Lib.hid (fun (w' : World) (h : Below wA.heap.size wA w') => HDc.out.keep (Kept.of_below h) h.size)
        obtain ⟨wP, rfl⟩ : ∃ wP : World, wP = wr := ⟨_, rfl⟩
        clear hP hbP hOc' hbo' hPl hne hn9' hPI
        go_wp2_with fail
        go_loopw [120] (fun x wr => ∃ (k : Nat) (rd : Bool), x = .int .i64 k ∧ k ≤ (OR F).length ∧ Hid (rd = ((OR F).take k).all fun b => (EN F b).all (redE F b)) ∧ NestO wr wA.heap.size F F.blocks.length F.blocks.length (endsAt F) (wA.heap.size + 1) wA.heap.size rd (.slice (some ⟨ge, 0, none⟩) F.blocks.length cape) vs es clk ∧ Below wA.heap.size wA wr ∧
         Hid (bo < wr.heap.size ∧ wE.heap.size < wr.heap.size ∧ bo ≠ wA.heap.size + 1 ∧ wE.heap.size ≠ wA.heap.size + 1 ∧ (∀ i, i < (OR F).length → wr.cell? ⟨bo, oo + i, none⟩ = some (.int .i64 (((OR F).getD i 0 : Nat) : Int))) ∧ ∀ i, i < F.blocks.length → wr.cell? ⟨wE.heap.size, i, none⟩ = some (.int .i64 ((pz F.blocks.length (OR F) i : Nat) : Int)))) (fun x _ => (OR F).length - (intOf x).toNat)
        case atStart => exact ⟨0, true, rfl, Nat.zero_le _, rfl, HNP.out, HBA.out, HKE.out⟩
        case round => as_aux_lemma =>
         clear HNP HBA HKE
         obtain ⟨k, rd, rfl, hk, HRD, hN, hb, HKK⟩ := hrel
         by_cases hlt : k < (OR F).length
         · obtain ⟨hbo', hpl', hne1, hne2, hOc, hPc⟩ := HKK.out
           have hc := hOc k hlt
           obtain ⟨b, hbb⟩ : ∃ b, (OR F).getD k 0 = b := ⟨_, rfl⟩
           have hbO : b ∈ OR F := by rw [← hbb, getD_get hlt]; exact List.getElem_mem hlt
           have hbn := HG.out.lt b hbO
           rw [hbb] at hc
           obtain ⟨x, hx⟩ : ∃ x, vs[b]? = some x := ⟨_, List.getElem?_eq_getElem (by have := hN.ends.1; omega)⟩
           have hrow := hN.rows b x hx
           have heb : endsAt F b = ints (EN F b) := by rw [endsAt, if_pos hbO]
           have hil : (ints (EN F b)).length = (EN F b).length := by simp [ints]
           rw [heb, hil] at hrow
           obtain ⟨Av, cv, rfl⟩ := own_form hrow
           have hce := hN.ends.cellAt b ZO
           rw [hx] at hce
           have x1 := hN.box.cell 1
           have xl := hN.box.lt
           replace x1 : wr.cell? ⟨wA.heap.size + 1, 1, none⟩ = some (.slice (some ⟨ge, 0, none⟩) F.blocks.length cape) := x1
           have xg := (hN.ends.lt ge rfl).2
           have HBO := Lib.hid hbO
           have HBB := Lib.hid hbb
           have HXX := Lib.hid hx
           have HEB := Lib.hid heb
           have HIL := Lib.hid hil
           have HN0 := Lib.hid hN
           have HB0 := Lib.hid hb
           have HKK' := Lib.hid HKK.out
           have hen2 := EN_len2 F b
           clear hbb hbO hx heb hil hOc hPc hrow hN hb
           go_wp2_with fail
           go_loopw [132] (fun x wr => ∃ (j : Nat) (rd2 : Bool), x = .int .i64 j ∧ j ≤ (EN F b).length ∧ Hid (rd2 = (rd && ((EN F b).take j).all (redE F b))) ∧ NestO wr wA.heap.size F F.blocks.length F.blocks.length (endsAt F) (wA.heap.size + 1) wA.heap.size rd2 (.slice (some ⟨ge, 0, none⟩) F.blocks.length cape) vs es clk ∧ Below wA.heap.size wA wr ∧
            Hid (bo < wr.heap.size ∧ wE.heap.size < wr.heap.size ∧ bo ≠ wA.heap.size + 1 ∧ wE.heap.size ≠ wA.heap.size + 1 ∧ (∀ i, i < (OR F).length → wr.cell? ⟨bo, oo + i, none⟩ = some (.int .i64 (((OR F).getD i 0 : Nat) : Int))) ∧ ∀ i, i < F.blocks.length → wr.cell? ⟨wE.heap.size, i, none⟩ = some (.int .i64 ((pz F.blocks.length (OR F) i : Nat) : Int)))) (fun x _ => (EN F b).length - (intOf x).toNat)
           case atStart => exact ⟨0, rd, rfl, Nat.zero_le _, (by simp : rd = (rd && ((EN F b).take 0).all (redE F b))), HN0.out, HB0.out, HKK'.out⟩
           case round => as_aux_lemma =>
            clear HN0 HB0 HKK HKK' hbo' hpl' hc hce x1 xl xg
            obtain ⟨j, rd2, rfl, hj, HR2, hN, hb, HK2⟩ := hrel
            by_cases hjl : j < (EN F b).length
            · obtain ⟨hbo', hpl', -, -, hOc, hPc⟩ := HK2.out
              obtain ⟨c, hcc⟩ : ∃ c, (EN F b)[j]? = some c := ⟨_, List.getElem?_eq_getElem hjl⟩
              have hcE : c ∈ EN F b := List.mem_of_getElem? hcc
              have hcO := OR_step HT.out HBO.out hcE
              have hcn := HG.out.lt c hcO
              have hrow := hN.rows b _ HXX.out
              rw [HEB.out, HIL.out] at hrow
              obtain ⟨gv, capv, hev, hgvl, hgvc⟩ := own_pos hrow ZO
              cases hev
              have hcj := hrow.cellAt j ZO
              rw [show ((ints (EN F b)).map (Value.int .i64))[j]? = some (.int .i64 (c : Int)) by simp [ints, hcc]] at hcj
              have p1 := hPc c hcn
              have p2 := hPc b hbn
              have hov := fun (m : Nat) => overQ_calls HG.out (HTR.out (wr.drewN m) (bdrewM hb m)) (c : Int) (b : Int)
              have hnear := (HTR.out wr hb).near
              simp only [overL_tab hnear] at hov
              clear hnear
              have HST := Lib.hid (show ((EN F b).take (j + 1)).all (redE F b) = (((EN F b).take j).all (redE F b) && redE F b c) by rw [List.take_add_one, hcc]; simp [List.all_append])
              have hre : redE F b c = (!(decide (pz F.blocks.length (OR F) c ≤ pz F.blocks.length (OR F) b)) || tabB F c b) := rfl
              generalize pz F.blocks.length (OR F) c = px at p1 hre
              generalize pz F.blocks.length (OR F) b = py at p2 hre
              have x1 := hN.box.cell 2
              have xl := hN.box.lt
              have xf := hN.box.frozen 2
              replace x1 : wr.cell? ⟨wA.heap.size + 1, 2, none⟩ = some (.bool rd2) := x1
              have HNI := Lib.hid hN
              have HBI := Lib.hid hb
              clear hcO hrow hOc hPc hcE hcc
              by_cases hle : (px : Int) ≤ (py : Int)
              · obtain ⟨T, hT'⟩ : ∃ T, tabB F c b = T := ⟨_, rfl⟩
                rw [hT'] at hov hre
                rw [decide_eq_true (by omega : px ≤ py)] at hre
                have HRE := Lib.hid hre
                clear hre hT' hN hb
                cases T
                · as_aux_lemma =>
                  go_wp2_with fail
                  go_quiet (first | (go_at_call 15; exact Calls.quiet_of (hov _)))
                  go_wp2
                  go_roundw
                  case rel =>
                   refine ⟨j + 1, false, ZN, ZO, ?_, (HNI.out.drew _).red false, (bdrewM HBI.out _).setCell ZS _, ?_⟩
                   · show false = (rd && ((EN F b).take (j + 1)).all (redE F b))
                     rw [HST.out, HRE.out]
                     simp
                   · obtain ⟨e1, e2, e3, e4, e5, e6⟩ := HK2.out
                     exact ⟨by simpa using e1, by simpa using e2, e3, e4, fun i hi => by rw [World.cell?_setCell_far _ _ _ _ (by simpa using e3.symm)]; exact e5 i hi, fun i hi => by rw [World.cell?_setCell_far _ _ _ _ (by simpa using e4.symm)]; exact e6 i hi⟩
                  case measure => simp [intOf]; omega
                · as_aux_lemma =>
                  go_wp2_with fail
                  go_quiet (first | (go_at_call 15; exact Calls.quiet_of (hov _)))
                  go_wp2
                  go_roundw
                  case rel =>
                   refine ⟨j + 1, rd2, ZN, ZO, ?_, HNI.out.drew _, bdrewM HBI.out _, HK2.out⟩
                   show rd2 = (rd && ((EN F b).take (j + 1)).all (redE F b))
                   rw [HST.out, HRE.out, HR2.out]
                   simp
                  case measure => simp [intOf]; omega
              · rw [decide_eq_false (by omega : ¬ px ≤ py)] at hre
                have HRE := Lib.hid hre
                have hdle : decide ((px : Int) ≤ (py : Int)) = false := decide_eq_false hle
                have hdnn : decide (px ≤ py) = false := decide_eq_false ZO
                have hlt3 : (py : Int) < (px : Int) := by omega
                have hlt4 : decide ((py : Int) < (px : Int)) = true := decide_eq_true hlt3
                clear hre hN hb hle
                as_aux_lemma =>
                go_wp2_with fail
                go_quiet (first | (go_at_call 15; exact Calls.quiet_of (hov _)))
                go_wp2
                go_roundw
                case rel =>
                 refine ⟨j + 1, rd2, ZN, ZO, ?_, HNI.out.drew _, bdrewM HBI.out _, HK2.out⟩
                 show rd2 = (rd && ((EN F b).take (j + 1)).all (redE F b))
                 rw [HST.out, HRE.out, HR2.out]
                 simp
                case measure => simp [intOf]; omega
            · obtain rfl : j = (EN F b).length := by omega
              have HNI := Lib.hid hN
              have HBI := Lib.hid hb
              clear hN hb
              go_wp2
              go_roundw
              case rel =>
               refine ⟨k + 1, rd2, ZN, ZO, ?_, HNI.out, HBI.out, HK2.out⟩
               show rd2 = ((OR F).take (k + 1)).all fun b => (EN F b).all (redE F b)
               have hg : (OR F)[k]? = some b := by rw [List.getElem?_eq_getElem hlt, ← HBB.out, getD_get hlt]
               rw [List.take_add_one, hg, HR2.out, List.take_length, HRD.out]
               simp [List.all_append]
              case measure => simp [intOf]; omega
         · obtain rfl : k = (OR F).length := by omega
           have HN0 := Lib.hid hN
           have HB0 := Lib.hid hb
           clear hN hb
           go_wp2
           go_ret2
           refine ⟨wA.heap.size + 1, wA.heap.size, .slice (some ⟨ge, 0, none⟩) F.blocks.length cape, vs, es, clk, rfl, ?_, ?_⟩
           · have hrd := HRD.out
             rw [List.take_length] at hrd
             rw [show redB F = rd from hrd.symm]
             exact HN0.out.mono hBc.size
           · exact hBc.trans (HB0.out.mono hBc.size)
end Go.Proofs.YthhpbkfngcflcaaGreatDoor
