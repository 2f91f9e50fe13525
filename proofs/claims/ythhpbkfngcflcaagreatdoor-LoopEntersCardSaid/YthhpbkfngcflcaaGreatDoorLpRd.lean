/- A nest of loops in memory, read: (*Nest).of, In, Reducible, Latches, Body. The walk of (*Nest).Heads: the keys of the map, in whatever order they come, sorted. slices.SortFunc of rows of pairs of numbers, by the first and then the second. Two pairs of numbers are equal just if both are. The walk of (*Nest).Exits: the steps that leave a loop, sorted. -/
import Derived.Test.YthhpbkfngcflcaaGreatDoorLpMm
import Derived.Maps.OwnOps
import Derived.Test.YthhpbkfngcflcaaGreatDoorSlc
import Derived.Test.YthhpbkfngcflcaaGreatDoorLeaf
import Derived.Test.YthhpbkfngcflcaaGreatDoorTyped
import Derived.Test.YthhpbkfngcflcaaGreatDoorSch
import Derived.Test.YthhpbkfngcflcaaGreatDoorShelf
import Derived.Test.YthhpbkfngcflcaaGreatDoorShelfS
import Derived.Test.YthhpbkfngcflcaaGreatDoorData
import Derived.Laws.StructEq
namespace Go.Proofs.YthhpbkfngcflcaaGreatDoor
open Go.RowKit
open Go.Maps
set_option maxRecDepth 100000
noncomputable def headB (F : PFunc) (h : Int) : Bool := decide (0 ≤ h ∧ h.toNat ∈ headsL F F.blocks.length)
noncomputable def lpB (F : PFunc) (hd : Bool) (h b : Int) : Bool := hd && decide (0 ≤ b) && decide (b < (F.blocks.length : Int)) && (lpL F (latL F h.toNat) h.toNat).getD b.toNat false
def ring0 : Value := .agg #[.slice none 0 0, .slice none 0 0, .int .i64 0]
def RingZ (w : World) (base : Nat) (F : PFunc) (hd : Bool) (h : Int) (v : Value) : Prop := hd = true ∧ RingO w base F h.toNat v ∨ hd = false ∧ v = ring0
def OfC (w : World) (nv : Value) (base : Nat) (F : PFunc) (hd : Bool) (h : Int) : Prop := ∀ W, Below w.heap.size w W → Calls Tryz.prog 61 #[nv, .int .i64 h] W fun e W' => ∃ v, e = .returned (.tuple #[v, .bool hd]) ∧ RingZ W' base F hd h v ∧ Below W.heap.size W W'
section
variable {w w' : World} {base n nb mb clk : Nat} {F : PFunc} {ro : Nat → List Int} {rd : Bool} {ve : Value} {vs : List Value} {es : Array MapEntry}
theorem EntsO.found (h : EntsO w base F n es clk) {k : Int} {e : MapEntry} (he : e ∈ es.toList) (hk : e.key = .int .i64 k) : ∃ j : Nat, k = j ∧ j ∈ headsL F n ∧ RingO w base F j e.val := by
 have : e.key ∈ es.toList.map (·.key) := List.mem_map.2 ⟨e, he, rfl⟩
 rw [h.keys, List.mem_map] at this
 obtain ⟨j, hj, e'⟩ := this
 rw [hk] at e'
 simp only [Value.int.injEq, true_and] at e'
 subst e'
 exact ⟨j, rfl, hj, h.vals e he j hk⟩
theorem EntsO.has (h : EntsO w base F n es clk) {j : Nat} (hj : j ∈ headsL F n) : ∃ e ∈ es.toList, e.key = .int .i64 (j : Int) := by
 have : Value.int .i64 (j : Int) ∈ es.toList.map (·.key) := by rw [h.keys]; exact List.mem_map.2 ⟨j, hj, rfl⟩
 obtain ⟨e, he, h'⟩ := List.mem_map.1 this
 exact ⟨e, he, h'⟩
theorem zero_ring (w : World) : (zeroValue 113).run Tryz.prog w = .ok ring0 w := by kernel_rfl
theorem nof_calls (hN : NestO w base F F.blocks.length F.blocks.length ro nb mb rd ve vs es clk) (hn : F.blocks.length ≤ 64) (h : Int) (h1 : -1 ≤ h) (h2 : h ≤ 64) : OfC w (.pointer (some ⟨nb, 0, none⟩)) base F (headB F h) h := by
 intro W hW
 have hNW := hN.below hW
 have hb0 : Below W.heap.size W (W.alloc (.cells #[.slice none 0 0, .slice none 0 0, .int .i64 0] 113)) := (Below.refl _ _).alloc (Nat.le_refl _) _
 have hN1 := hNW.below hb0
 have x0 := hN1.box.cell 0
 have xl := hN1.box.lt
 replace x0 : (W.alloc (.cells #[.slice none 0 0, .slice none 0 0, .int .i64 0] 113)).cell? ⟨nb, 0, none⟩ = some (.map (some mb)) := x0
 have hkey : keyOf Tryz.prog 3 (.int .i64 h) = some (.int .i64 h) := keyOf_int_mk Tryz.underlying3 (WalkArith.wf_i64 ZO)
 have hlk := run_mapLook (z := ring0) _ (int_keyed Tryz.underlying3) Tryz.underlying108 hN1.obj (zero_ring _) hkey (hN1.ents.int_keys hn) true
 have HE := Lib.hid hNW.ents
 have HB := Lib.hid hb0
 clear hNW hN1 hW hN hb0
 rcases hlk with ⟨hrun, hno⟩ | ⟨e0, he0, hk0, hrun⟩
 · have HH := Lib.hid (show headB F h = false from decide_eq_false fun ⟨a1, a2⟩ => by
    obtain ⟨e, he, hk⟩ := HE.out.has a2
    exact hno e he (by rw [hk]; congr 1; omega))
   clear hno
   unfold ring0 at hrun
   go_enter Tryz.func61, Tryz.ntmps61
   go_wp2_with (at_lookup; refine wpList_mapLook _ rfl _ _ 108 true rfl rfl rfl hrun ?_)
   refine bodyPost_ret (v := .tuple #[.agg #[.slice none 0 0, .slice none 0 0, .int .i64 0], .bool false]) (by simp [results, Tryz.results61, go_sem]) rfl ⟨ring0, by rw [HH.out]; rfl, .inr ⟨HH.out, rfl⟩, BL⟩
 · obtain ⟨j, rfl, hj, vl, g, hv, hl, hbo⟩ := HE.out.found he0 hk0
   obtain ⟨Av, cv, rfl⟩ := own_form hl
   have HH := Lib.hid (show headB F (j : Int) = true from decide_eq_true ⟨ZO, by simpa using hj⟩)
   rw [hv] at hrun
   simp only [if_true] at hrun
   have HLL := Lib.hid hl
   have HBO := Lib.hid hbo
   clear hv hl hbo he0 hk0 hj
   generalize hm : List.count true (lpL F (latL F j) j) = m at hrun
   go_enter Tryz.func61, Tryz.ntmps61
   go_wp2_with (at_lookup; refine wpList_mapLook _ rfl _ _ 108 true rfl rfl rfl hrun ?_)
   have HM := Lib.hid hm
   clear hm
   have hbx : Below W.heap.size W ((W.alloc (.cells #[.slice Av (latL F j).length cv, .slice (some ⟨g, 0, none⟩) F.blocks.length F.blocks.length, .int .i64 (m : Int)] 113)).alloc (.cells #[.slice Av (latL F j).length cv, .slice (some ⟨g, 0, none⟩) F.blocks.length F.blocks.length, .int .i64 (m : Int)] 113)) := BL
   refine bodyPost_ret (v := .tuple #[.agg #[.slice Av (latL F j).length cv, .slice (some ⟨g, 0, none⟩) F.blocks.length F.blocks.length, .int .i64 (m : Int)], .bool true]) (by simp [results, Tryz.results61, go_sem]) rfl ⟨_, by rw [HH.out], .inl ⟨HH.out, ?_⟩, hbx⟩
   exact ⟨_, _, by rw [Int.toNat_natCast, HM.out], own_below HLL.out hbx, own_below HBO.out hbx⟩
theorem reducible_calls (hN : NestO w base F F.blocks.length F.blocks.length ro nb mb rd ve vs es clk) : Calls Tryz.prog 56 #[.pointer (some ⟨nb, 0, none⟩)] w fun e w' => e = .returned (.bool rd) ∧ w' = w := by
 have x2 := hN.box.cell 2
 have xl := hN.box.lt
 replace x2 : w.cell? ⟨nb, 2, none⟩ = some (.bool rd) := x2
 clear hN
 go_enter Tryz.func56, Tryz.ntmps56
 go_wp2
 go_ret
 exact ⟨rfl, rfl⟩
theorem reducibleNil_calls : Calls Tryz.prog 56 #[.pointer none] w fun e w' => e = .returned (.bool false) ∧ w' = w := by
 go_enter Tryz.func56, Tryz.ntmps56
 go_wp2
 go_ret
 exact ⟨rfl, rfl⟩
theorem nin_calls {nv : Value} {hd : Bool} {h b : Int} (hO : OfC w nv base F hd h) : Calls Tryz.prog 22 #[nv, .int .i64 h, .int .i64 b] w fun e w' => e = .returned (.bool (lpB F hd h b)) ∧ Below w.heap.size w w' := by
 have ho := hO w (Below.refl _ _)
 clear hO
 go_enter Tryz.func22, Tryz.ntmps22
 go_wp2_with fail
 refine ho.mono ?_
 rintro e w1 ⟨v, rfl, hz, hb1⟩
 rcases hz with ⟨rfl, vl, g, rfl, hl, hbo⟩ | ⟨rfl, rfl⟩
 · obtain ⟨Av, cv, rfl⟩ := own_form hl
   clear hl
   have hbx := hb1.alloc hb1.size (.cells #[.slice Av (latL F h.toNat).length cv, .slice (some ⟨g, 0, none⟩) F.blocks.length F.blocks.length, .int .i64 (((lpL F (latL F h.toNat) h.toNat).count true : Nat) : Int)] 113)
   generalize ((lpL F (latL F h.toNat) h.toNat).count true : Nat) = m at *
   by_cases h0 : 0 ≤ b
   · by_cases h1 : b < (F.blocks.length : Int)
     · obtain ⟨k, rfl⟩ := Int.eq_ofNat_of_zero_le h0
       have hcb := own_bool hbo (i := k) ZO
       have hgl := (hbo.lt g rfl).2
       have HF := Lib.hid (show lpB F true h (k : Int) = (lpL F (latL F h.toNat) h.toNat).getD k false by simp [lpB, h1])
       generalize (lpL F (latL F h.toNat) h.toNat).getD k false = z at *
       clear hbo
       go_wp2
       go_ret
       exact ⟨ret_bool HF.out.symm, BL⟩
     · have HF := Lib.hid (show lpB F true h b = false by simp [lpB, h1])
       clear hbo
       go_wp2
       go_ret
       exact ⟨ret_bool HF.out.symm, BL⟩
   · have HF := Lib.hid (show lpB F true h b = false by simp [lpB, h0])
     clear hbo
     go_wp2
     go_ret
     exact ⟨ret_bool HF.out.symm, BL⟩
 · have HF := Lib.hid (show lpB F false h b = false by simp [lpB])
   unfold ring0
   go_wp2
   go_ret
   exact ⟨ret_bool HF.out.symm, BL⟩
noncomputable def latchesL (F : PFunc) (hd : Bool) (h : Int) : List Nat := if hd = true then latL F h.toNat else []
noncomputable def bodyL (F : PFunc) (hd : Bool) (h : Int) (i : Nat) : List Nat := if hd = true then (List.range i).filter fun b => (lpL F (latL F h.toNat) h.toNat).getD b false else []
theorem bodyL_yes {h : Int} {i : Nat} (hb : (lpL F (latL F h.toNat) h.toNat).getD i false = true) : bodyL F true h (i + 1) = bodyL F true h i ++ [i] := by simp only [bodyL, if_true, List.range_succ, List.filter_append, List.filter_cons, List.filter_nil, hb, if_true]
theorem bodyL_no {h : Int} {i : Nat} (hb : (lpL F (latL F h.toNat) h.toNat).getD i false = false) : bodyL F true h (i + 1) = bodyL F true h i := by simp only [bodyL, if_true, List.range_succ, List.filter_append, List.filter_cons, List.filter_nil, hb, Bool.false_eq_true, if_false, List.append_nil]
theorem bodyL_le {hd : Bool} {h : Int} {i : Nat} : (bodyL F hd h i).length ≤ i := by
 unfold bodyL
 split
 · exact Nat.le_trans (List.length_filter_le _ _) ZS
 · exact ZS
theorem body_calls {nv : Value} {hd : Bool} {h : Int} (hO : OfC w nv base F hd h) (hn : F.blocks.length ≤ 64) : Calls Tryz.prog 62 #[nv, .int .i64 h] w fun e w' => ∃ v, e = .returned v ∧ w'.ownsRow w.heap.size 3 1 v (bodyL F hd h F.blocks.length).length ((ints (bodyL F hd h F.blocks.length)).map (Value.int .i64)) ∧ Below w.heap.size w w' := by
 have ho := hO w (Below.refl _ _)
 clear hO
 go_enter Tryz.func62, Tryz.ntmps62
 go_wp2_with fail
 refine ho.mono ?_
 rintro e w1 ⟨v, rfl, hz, hb1⟩
 rcases hz with ⟨rfl, vl, g, rfl, hl, hbo⟩ | ⟨rfl, rfl⟩
 · obtain ⟨Av, cv, rfl⟩ := own_form hl
   clear hl
   have HBR := Lib.hid (hbo.alloc (.cells #[.slice Av (latL F h.toNat).length cv, .slice (some ⟨g, 0, none⟩) F.blocks.length F.blocks.length, .int .i64 (((lpL F (latL F h.toNat) h.toNat).count true : Nat) : Int)] 113))
   have hbx := hb1.alloc hb1.size (.cells #[.slice Av (latL F h.toNat).length cv, .slice (some ⟨g, 0, none⟩) F.blocks.length F.blocks.length, .int .i64 (((lpL F (latL F h.toNat) h.toNat).count true : Nat) : Int)] 113)
   obtain ⟨W2, hW2⟩ : ∃ W2 : World, W2 = w1.alloc (.cells #[.slice Av (latL F h.toNat).length cv, .slice (some ⟨g, 0, none⟩) F.blocks.length F.blocks.length, .int .i64 (((lpL F (latL F h.toNat) h.toNat).count true : Nat) : Int)] 113) := ⟨_, rfl⟩
   rw [← hW2] at hbx
   have HW2 := Lib.hid hW2
   clear hbo hW2
   generalize ((lpL F (latL F h.toNat) h.toNat).count true : Nat) = m at *
   go_wp2
   go_loopw [19, 7] (fun x v7 wr => ∃ i : Nat, x = .int .i64 i ∧ i ≤ F.blocks.length ∧ wr.ownsRow W2.heap.size 3 1 v7 (bodyL F true h i).length ((ints (bodyL F true h i)).map (Value.int .i64)) ∧ Below W2.heap.size W2 wr) (fun x _ _ => F.blocks.length - (intOf x).toNat)
   case atStart => exact ⟨0, rfl, Nat.zero_le _, World.ownsRow_nil _ _ _ _, by rw [HW2.out]; exact Below.refl _ _⟩
   case round => as_aux_lemma =>
    obtain ⟨i, rfl, hi, ho, hb⟩ := hrel
    obtain ⟨Aw, cw, rfl⟩ := own_form ho
    have hBR := own_below (by rw [← HW2.out] at HBR; exact HBR.out) hb
    have hble := bodyL_le (F := F) (hd := true) (h := h) (i := i)
    have hsz := hb.size
    by_cases hlt : i < F.blocks.length
    · have hlt' : (i : Int) < (F.blocks.length : Int) := by omega
      have hcb := own_bool hBR hlt
      have hgl := (hBR.lt g rfl).2
      obtain ⟨T, hT'⟩ : ∃ T, (lpL F (latL F h.toNat) h.toNat).getD i false = T := ⟨_, rfl⟩
      rw [hT'] at hcb
      have HB := Lib.hid hb
      have HTT := Lib.hid hT'
      clear hBR hT' hb
      cases T
      · as_aux_lemma =>
        have HS := Lib.hid (bodyL_no HTT.out)
        have HO := Lib.hid ho
        clear ho
        go_wp2
        go_roundw
        case rel => exact ⟨i + 1, ZN, ZO, by rw [HS.out]; exact HO.out, HB.out⟩
        case measure => simp [intOf]; omega
      · as_aux_lemma =>
        have HS := Lib.hid (bodyL_yes HTT.out)
        go_wp2_with (at_builtin; refine wpList_append1F _ rfl _ _ 23 rfl W2.heap.size 3 8 Tryz.underlying23 Tryz.info3 rfl _ _ _ rfl ho _ rfl (.int .i64 (i : Int)) (by rfl) rfl ZO ZD hsz ?_; intro v' w8 hown8 hg8 hfr8; obtain ⟨A8, c8, hv8⟩ := own_form hown8; subst hv8)
        go_roundw
        case rel =>
         refine ⟨i + 1, ZN, ZO, ?_, grown_below ho hg8 HB.out (Nat.le_refl _) hsz⟩
         rw [HS.out]
         simpa [ints] using hown8
        case measure => simp [intOf]; omega
    · obtain rfl : i = F.blocks.length := by omega
      have HO := Lib.hid ho
      have HB := Lib.hid hb
      clear ho hb hBR
      go_wp2
      go_ret
      exact ⟨_, rfl, own_base HO.out hbx.size, hbx.trans (HB.out.mono hbx.size)⟩
 · have HF := Lib.hid (show bodyL F false h F.blocks.length = [] from if_neg ZS)
   unfold ring0
   go_wp2
   go_loopw [19, 7] (fun x v7 wr => x = .int .i64 0 ∧ v7 = .slice none 0 0 ∧ wr = w1.alloc (.cells #[.slice none 0 0, .slice none 0 0, .int .i64 0] 113)) (fun x _ _ => 0)
   case atStart => exact ⟨rfl, rfl, rfl⟩
   case round =>
    obtain ⟨rfl, rfl, rfl⟩ := hrel
    go_wp2
    go_ret
    rw [HF.out]
    exact ⟨.slice none 0 0, rfl, World.ownsRow_nil _ _ _ _, BL⟩
end
end Go.Proofs.YthhpbkfngcflcaaGreatDoor
namespace Go.Proofs.YthhpbkfngcflcaaGreatDoor
open Go.RowKit
open Go.Maps
open Go.ChangeMaps (setBlock)
set_option maxRecDepth 100000
theorem setB_other {w : World} {r k : Nat} {o : Obj} (h : k ≠ r) : (setBlock w r o).heap[k]? = w.heap[k]? := by simp [setBlock, h.symm]
theorem setB_same {w : World} {r : Nat} {o x : Obj} (h : w.heap[r]? = some x) : (setBlock w r o).heap[r]? = some o := by
 have hr := (Array.getElem?_eq_some_iff.1 h).1
 simp [setBlock, hr]
theorem wpList_rangeAt {P : Program} {w : World} {ops : Array Oper} {rest : List Oper} {o : Oper} {a : Act} {Q : Exit → Act → World → Prop} {k e mb clk : Nat} {es : Array MapEntry} (hg : o.guard = none) (m : Operand) (t : TypeId) (hop : o.op = Op.range t m) (ht : P.underlying t = some (.map k e))
 (hm : a.eval m = .map (some mb)) (hb : w.heap[mb]? = some (.map es clk)) (h : wpList P ops Q rest (a.put o.dst (.pointer (some ⟨w.heap.size, 0, none⟩))) (w.alloc (.mapIter (some mb) clk #[] clk))) : wpList P ops Q (o :: rest) a w := by
 refine wpList_plain hg fun K' hK' => ?_
 unfold Oper.wp
 simp [execOp, hop, hm, run_range_map w t k e mb es clk ht hb, Result.andThen]
 exact hK' _ _ h
def Coll (es : Array MapEntry) (seen : Array Nat) (xs : List Nat) : Prop := ∃ done : List MapEntry, (∀ e ∈ done, e ∈ es.toList) ∧ done.map (·.born) = seen.toList ∧ (done.map (·.born)).Nodup ∧ done.map (·.key) = xs.map fun (h : Nat) => Value.int .i64 (h : Int)
section
variable {w : World} {base n nb mb clk : Nat} {F : PFunc} {ro : Nat → List Int} {rd : Bool} {ve : Value} {vs : List Value} {es : Array MapEntry} {seen : Array Nat} {xs : List Nat}
theorem Coll.start : Coll es #[] [] := ⟨[], (fun _ h => by cases h), rfl, List.nodup_nil, rfl⟩
theorem Coll.step (h : Coll es seen xs) {e : MapEntry} (he : e ∈ (leftOf es seen).toList) {k : Nat} (hk : e.key = .int .i64 (k : Int)) : Coll es (seen.push e.born) (xs ++ [k]) := by
 obtain ⟨done, h1, h2, h3, h4⟩ := h
 obtain ⟨g1, g2⟩ := mem_left he
 refine ⟨done ++ [e], fun x hx => ?_, by simp [h2], ?_, by simp [h4, hk]⟩
 · rcases List.mem_append.1 hx with hx | hx
   · exact h1 x hx
   · simp only [List.mem_singleton] at hx
     subst hx
     exact g1
 · rw [List.map_append, List.nodup_append]
   refine ⟨h3, ZS, fun a ha b hb => ?_⟩
   simp only [List.map_cons, List.map_nil, List.mem_singleton] at hb
   subst hb
   intro hab
   subst hab
   rw [h2] at ha
   have : seen.contains e.born = true := by simpa using ha
   rw [g2] at this
   cases this
theorem headsL_nodup : (headsL F n).Nodup := by
 unfold headsL List.Nodup
 exact (List.Pairwise.filter _ List.pairwise_lt_range).imp fun h => by omega
theorem key_inj (h : EntsO w base F n es clk) {x e : MapEntry} (hx : x ∈ es.toList) (he : e ∈ es.toList) (hk : x.key = e.key) : x = e := by
 refine entry_eq_of_key (l := es.toList) ?_ hx he hk
 have hnd : (es.toList.map (·.key)).Nodup := by
  rw [h.keys]
  unfold List.Nodup
  rw [List.pairwise_map]
  refine List.Pairwise.imp ?_ (headsL_nodup (F := F) (n := n))
  intro a b hab e
  simp only [Value.int.injEq, true_and] at e
  exact hab ZO
 exact List.pairwise_map.1 hnd
theorem Coll.nod (h : Coll es seen xs) (hE : EntsO w base F n es clk) : xs.Nodup ∧ ∀ z ∈ xs, z ∈ headsL F n := by
 obtain ⟨done, h1, h2, h3, h4⟩ := h
 have hp : done.Pairwise fun a b => a.key ≠ b.key := (List.pairwise_map.1 h3).imp_of_mem fun ha hb hne hk => hne (by rw [key_inj hE (h1 _ ha) (h1 _ hb) hk])
 have hp2 : (done.map (·.key)).Pairwise fun a b => a ≠ b := List.pairwise_map.2 hp
 rw [h4, List.pairwise_map] at hp2
 refine ⟨hp2.imp fun h e => h (by rw [e]), fun z hz => ?_⟩
 have : Value.int .i64 (z : Int) ∈ done.map (·.key) := by rw [h4]; exact List.mem_map.2 ⟨z, hz, rfl⟩
 obtain ⟨e, he, hk⟩ := List.mem_map.1 this
 obtain ⟨j, hj, hj2, -⟩ := hE.found (h1 e he) hk
 rwa [show z = j from ZO]
theorem Coll.le (h : Coll es seen xs) (hE : EntsO w base F n es clk) : xs.length ≤ n := nodup_len n xs (h.nod hE).1 fun z hz => (mem_headsL.1 ((h.nod hE).2 z hz)).1
theorem Coll.fin (h : Coll es seen xs) (hE : EntsO w base F F.blocks.length es clk) (n1 : 1 ≤ F.blocks.length) (hall : ∀ x ∈ es.toList, seen.contains x.born = true) : sortI (ints xs) = ints (headsL F F.blocks.length) ∧ xs.length = (headsL F F.blocks.length).length := by
 obtain ⟨hnd, hm1⟩ := h.nod hE
 obtain ⟨done, h1, h2, h3, h4⟩ := h
 have hmem : ∀ z, z ∈ xs ↔ z ∈ headsL F F.blocks.length := fun z => by
  refine ⟨hm1 z, fun hz => ?_⟩
  obtain ⟨e, he, hk⟩ := hE.has hz
  have hb := hall e he
  have : e.born ∈ done.map (·.born) := by rw [h2]; simpa using hb
  obtain ⟨e', he', hb'⟩ := List.mem_map.1 this
  obtain rfl := born_inj hE.nod (h1 e' he') he hb'
  have : e'.key ∈ done.map (·.key) := List.mem_map.2 ⟨e', he', rfl⟩
  rw [h4, hk] at this
  obtain ⟨j, hj, hjk⟩ := List.mem_map.1 this
  simp only [Value.int.injEq, true_and] at hjk
  rwa [show z = j from ZO]
 have hnod : (ints xs).Nodup := by
  unfold ints List.Nodup
  rw [List.pairwise_map]
  exact hnd.imp fun h e => h (Int.ofNat.inj e)
 have hF : FrI F.blocks.length (fun _ b => b ∈ headsL F F.blocks.length) (List.replicate F.blocks.length (ints xs)) := by
  refine ⟨ZS, fun x hx => ?_, fun x hx z => ?_⟩
  · rw [show (List.replicate F.blocks.length (ints xs)).getD x [] = ints xs by simp [List.getD, hx]]
    exact hnod
  · rw [show (List.replicate F.blocks.length (ints xs)).getD x [] = ints xs by simp [List.getD, hx]]
    unfold ints
    rw [List.mem_map]
    constructor
    · rintro ⟨b, hb, rfl⟩
      exact ⟨b, rfl, (hmem b).1 hb⟩
    · rintro ⟨b, rfl, hb⟩
      exact ⟨b, (hmem b).2 hb, rfl⟩
 have hs := hF.sorted (x := 0) ZO (fun b hb => (mem_headsL.1 hb).1)
 rw [show (List.replicate F.blocks.length (ints xs)).getD 0 [] = ints xs by simp [List.getD, show 0 < F.blocks.length from ZO]] at hs
 have hfl : frontL F.blocks.length (fun _ b => b ∈ headsL F F.blocks.length) 0 = headsL F F.blocks.length := by
  unfold frontL headsL
  refine List.filter_congr fun b hb => ?_
  have : b < F.blocks.length := by simpa using hb
  rw [decide_eq_decide]
  simp [this]
 rw [hfl] at hs
 have hs' : sortI (ints xs) = ints (headsL F F.blocks.length) := hs
 refine ⟨hs', ?_⟩
 have := congrArg List.length hs'
 rw [sortI_len] at this
 simpa [ints] using this
theorem headsL_le : (headsL F n).length ≤ n := Nat.le_trans (List.length_filter_le _ _) ZS
def HeadsC (w : World) (nv : Value) (l : List Nat) : Prop := ∀ W, Below w.heap.size w W → Calls Tryz.prog 21 #[nv] W fun e W' => ∃ v, e = .returned v ∧ W'.ownsRow W.heap.size 3 1 v l.length ((ints l).map (Value.int .i64)) ∧ Below W.heap.size W W'
theorem headsNil_calls : HeadsC w (.pointer none) [] := by
 intro W hW
 clear hW
 go_enter Tryz.func21, Tryz.ntmps21
 go_wp2
 go_ret
 exact ⟨_, rfl, World.ownsRow_nil _ _ _ _, Below.refl _ _⟩
theorem heads_calls (hN : NestO w base F F.blocks.length F.blocks.length ro nb mb rd ve vs es clk) (n1 : 1 ≤ F.blocks.length) (n2 : F.blocks.length ≤ 64) : HeadsC w (.pointer (some ⟨nb, 0, none⟩)) (headsL F F.blocks.length) := by
 intro W hW
 have hNW := hN.below hW
 have x0 := hNW.box.cell 0
 have xl := hNW.box.lt
 replace x0 : W.cell? ⟨nb, 0, none⟩ = some (.map (some mb)) := x0
 have hmb := (Array.getElem?_eq_some_iff.1 hNW.obj).1
 have HE := Lib.hid hNW.ents
 have HO := Lib.hid hNW.obj
 have hobj := hNW.obj
 clear hN hNW hW
 go_enter Tryz.func21, Tryz.ntmps21
 go_wp2_with (refine wpList_rangeAt rfl _ 108 rfl Tryz.underlying108 rfl hobj ?_)
 clear x0 xl hobj
 go_frame
 go_loopw [3] (fun v3 wr => ∃ (seen : Array Nat) (xs : List Nat), wr.ownsRow (W.heap.size + 1) 3 1 v3 xs.length ((ints xs).map (Value.int .i64)) ∧ wr.heap[W.heap.size]? = some (.mapIter (some mb) clk seen clk) ∧ Hid (Coll es seen xs) ∧ Below W.heap.size W wr ∧ W.heap.size + 1 ≤ wr.heap.size) (fun _ wr => (leftOf es (wr.iterSeen W.heap.size)).size)
 case atStart => exact ⟨#[], [], World.ownsRow_nil _ _ _ _, heap_alloc_new _ _, Coll.start, BL, ZS⟩
 case round => as_aux_lemma =>
  obtain ⟨seen, xs, ho, hit, HC, hb, hsz⟩ := hrel
  obtain ⟨Av, cv, rfl⟩ := own_form ho
  have hob : wr.heap[mb]? = some (.map es clk) := (hb.block mb hmb).trans HO.out
  have hxl := HC.out.le HE.out
  have hseen : wr.iterSeen W.heap.size = seen := by unfold World.iterSeen; rw [hit]
  rw [hseen]
  have HB := Lib.hid hb
  have HIT := Lib.hid hit
  have HO3 := Lib.hid ho
  clear ho hb hseen
  rcases run_next_at (P := Tryz.prog) wr 0 W.heap.size mb clk clk seen es clk hit hob HE.out.born (Nat.le_refl _) with ⟨h0, hrun⟩ | ⟨x, hx, w1, hw1, hrun⟩
  · obtain ⟨f1, f2⟩ := HC.out.fin HE.out n1 (all_seen es seen h0)
    have F1 := Lib.hid f1
    have F2 := Lib.hid f2
    have hso := sortG_calls HO3.out ZO
    clear f1 f2 h0 hit hob HC
    go_wp2_with fail
    refine hso.mono ?_
    rintro e w9 ⟨rfl, ho9, hg9⟩
    have hb9 : Below W.heap.size W w9 := HB.out.grown hg9 HB.out.size (fun k hk => by have := (HO3.out.lt k hk).1; omega)
    clear hg9 hso hrun
    go_wp2
    go_ret
    rw [← F2.out, ← F1.out]
    exact ⟨_, rfl, own_base ho9 (Nat.le_succ _), hb9⟩
  · have hr1 : w1.heap[W.heap.size]? = some (.mapIter (some mb) clk seen clk) := by rcases hw1 with rfl | rfl <;> exact hit
    have hb1 : w1.heap[mb]? = some (.map es clk) := by rcases hw1 with rfl | rfl <;> exact hob
    have hent := run_entry_at (P := Tryz.prog) (setBlock w1 W.heap.size (.mapIter (some mb) clk (seen.push x.born) clk)) W.heap.size mb clk seen es clk x (setB_same hr1) ((setB_other ZO).trans hb1) (mem_left hx).1 HE.out.nod
    obtain ⟨j, hj⟩ : ∃ j : Nat, x.key = .int .i64 (j : Int) := by
     have : x.key ∈ es.toList.map (·.key) := List.mem_map.2 ⟨x, (mem_left hx).1, rfl⟩
     rw [HE.out.keys, List.mem_map] at this
     obtain ⟨j, -, e⟩ := this
     exact ⟨j, e.symm⟩
    have HST := Lib.hid (HC.out.step hx hj)
    have HSH := Lib.hid (left_shrinks es seen x hx)
    have HBW : Below W.heap.size W (setBlock w1 W.heap.size (.mapIter (some mb) clk (seen.push x.born) clk)) := below_setBlock (by rcases hw1 with rfl | rfl; (exact HB.out); (exact HB.out.drew)) (Nat.le_refl _) _
    have hn1 : w1.heap.size = wr.heap.size := by rcases hw1 with rfl | rfl <;> rfl
    have HOW : (setBlock w1 W.heap.size (.mapIter (some mb) clk (seen.push x.born) clk)).ownsRow (W.heap.size + 1) 3 1 (.slice Av xs.length cv) xs.length ((ints xs).map (Value.int .i64)) := own_turn HO3.out (fun k hk => by
     have := (HO3.out.lt k hk).1
     rw [setB_other ZO]
     rcases hw1 with rfl | rfl <;> rfl)
    have hszW : W.heap.size + 1 ≤ (setBlock w1 W.heap.size (.mapIter (some mb) clk (seen.push x.born) clk)).heap.size := by simpa [setBlock, hn1] using hsz
    have hitW : (setBlock w1 W.heap.size (.mapIter (some mb) clk (seen.push x.born) clk)).heap[W.heap.size]? = some (.mapIter (some mb) clk (seen.push x.born) clk) := setB_same hr1
    rw [hj] at hrun hent
    obtain ⟨W5, hW5⟩ : ∃ W5 : World, W5 = setBlock w1 W.heap.size (.mapIter (some mb) clk (seen.push x.born) clk) := ⟨_, rfl⟩
    rw [← hW5] at hrun hent HBW HOW hszW hitW
    have HIT5 := Lib.hid hitW
    have HB5 := Lib.hid HBW
    clear hW5 hr1 hb1 hit hob hx hw1 hn1 HIT HO3 hj HBW hitW
    go_wp2_with (at_builtin; refine wpList_append1F _ rfl _ _ 23 rfl (W.heap.size + 1) 3 8 Tryz.underlying23 Tryz.info3 rfl _ _ _ rfl HOW _ rfl (.int .i64 (j : Int)) (by rfl) rfl ZO ZD hszW ?_; intro v' w8 hown8 hg8 hfr8; obtain ⟨A8, c8, hv8⟩ := own_form hown8; subst hv8)
    have hit8 : w8.heap[W.heap.size]? = some (.mapIter (some mb) clk (seen.push x.born) clk) := by
     rw [hg8.block W.heap.size ZX (fun e => by have := (HOW.lt _ e.symm).1; omega), heap_alloc_old _ _ ZO]
     exact HIT5.out
    go_roundw
    case rel =>
     refine ⟨seen.push x.born, xs ++ [j], ?_, hit8, HST.out, grown_below HOW hg8 HB5.out (Nat.le_succ _) (Nat.le_of_succ_le hszW), ?_⟩
     · simpa [ints] using hown8
     · have := hg8.size
       simp at this
       omega
    case measure =>
     rw [show w8.iterSeen W.heap.size = seen.push x.born by unfold World.iterSeen; rw [hit8]]
     exact HSH.out
end
end Go.Proofs.YthhpbkfngcflcaaGreatDoor
namespace Go.Proofs.YthhpbkfngcflcaaGreatDoor
open Go.RowKit Go.Shelf Go.Lib Go.Sort
set_option maxRecDepth 100000
def encQ (x : Int × Int) : List Value := [.int .i64 x.1, .int .i64 x.2]
def orI (a b : Int) : Int := if a = 0 then b else a
def cfQ (x y : Int × Int) : Int := orI (Lib.compareInt x.1 y.1) (Lib.compareInt x.2 y.2)
theorem ltQ (x y : Int × Int) : ltOf cfQ x y = decide (x.1 < y.1 ∨ x.1 = y.1 ∧ x.2 < y.2) := by
 unfold ltOf cfQ orI Lib.compareInt
 by_cases h1 : x.1 < y.1
 · simp [h1]
 · by_cases h2 : y.1 < x.1
   · have : ¬ x.1 = y.1 := by omega
     simp [h1, h2, this]
   · have : x.1 = y.1 := by omega
     by_cases h3 : x.2 < y.2
     · simp [this, h3]
     · by_cases h4 : y.2 < x.2 <;> simp [this, h3, h4]
theorem swoQ : SWO (ltOf cfQ) where
 irrefl x := by rw [ltQ]; simp
 trans x y z h1 h2 := by rw [ltQ] at *; simp at *; omega
 ntrans x y z h1 h2 := by rw [ltQ] at *; simp at *; omega
theorem totQ (x y : Int × Int) (h1 : ltOf cfQ x y = false) (h2 : ltOf cfQ y x = false) : x = y := by
 rw [ltQ] at *
 simp at *
 exact Prod.ext ZO ZO
def GrowOf (W w' : World) : Prop := ∃ q os, w' = grow (W.drewN q) os
theorem GrowOf.refl (W : World) : GrowOf W W := ⟨0, #[], by cases W; simp [grow, World.drewN]⟩
theorem GrowOf.drew {W w : World} (h : GrowOf W w) : GrowOf W w.drew := by
 obtain ⟨q, os, rfl⟩ := h
 exact ⟨q + 1, os, rfl⟩
theorem GrowOf.alloc {W w : World} (h : GrowOf W w) (o : Obj) : GrowOf W (w.alloc o) := by
 obtain ⟨q, os, rfl⟩ := h
 exact ⟨q, _, by rw [alloc_eq_grow, grow_grow]⟩
theorem or2_calls {w : World} {b : Nat} {x y : Int} (hb : b < w.heap.size) (h0 : w.cell? ⟨b, 0, none⟩ = some (.int .i64 x)) (h1 : w.cell? ⟨b, 1, none⟩ = some (.int .i64 y)) :
 Calls Tryz.prog 65 #[.slice (some ⟨b, 0, none⟩) 2 2] w fun e w' => e = .returned (.int .i64 (orI x y)) ∧ w' = w := by
 have h0' : w.cell? ⟨b, 0 + 0, none⟩ = some (.int .i64 x) := h0
 go_enter Tryz.func65, Tryz.ntmps65
 go_wp2
 by_cases e : x = 0
 · subst e
   go_loopw [8] (fun i wr => (i = .int .i64 0 ∨ i = .int .i64 1 ∨ i = .int .i64 2 ∧ y = 0) ∧ wr = w) (fun i _ => 2 - (intOf i).toNat)
   case atStart => exact ⟨.inl rfl, rfl⟩
   case round => as_aux_lemma =>
    obtain ⟨h, rfl⟩ := hrel
    rcases h with rfl | rfl | ⟨rfl, rfl⟩
    · go_wp2
      go_roundw
      case rel => exact ⟨.inr (.inl rfl), trivial⟩
      case measure => simp [intOf]
    · by_cases ey : y = 0
      · subst ey
        go_wp2
        go_roundw
        case rel => exact ⟨.inr (.inr ⟨rfl, trivial⟩), trivial⟩
        case measure => simp [intOf]
      · have hne : (y != 0) = true := by simpa using ey
        go_wp2
        go_ret
        exact ⟨by simp [orI], rfl⟩
    · go_wp2
      go_ret
      exact ⟨by simp [orI], rfl⟩
 · have hne : (x != 0) = true := by simpa using e
   go_loopw [8] (fun i wr => i = .int .i64 0 ∧ wr = w) (fun i _ => 0)
   case atStart => exact ⟨rfl, rfl⟩
   case round => as_aux_lemma =>
    obtain ⟨rfl, rfl⟩ := hrel
    go_wp2
    go_ret
    exact ⟨by simp [orI, e], rfl⟩
def cmpQ (a b : Int) : Int := Lib.compareInt a b
theorem cmpQ_calls (a b : Int) (w : World) : Calls Tryz.prog 66 #[.int .i64 a, .int .i64 b] w fun e w' => e = .returned (.int .i64 (cmpQ a b)) ∧ w' = w := Tryz.cmp_Compare_int a b w
set_option maxHeartbeats 2000000 in
theorem exitsCmp_calls (x y : Int × Int) (wq : World) : Calls Tryz.prog 64 #[.agg #[.int .i64 x.1, .int .i64 x.2], .agg #[.int .i64 y.1, .int .i64 y.2]] wq fun e w' => e = .returned (.int .i64 (cfQ x y)) ∧ ∃ q os', w' = grow (wq.drewN q) os' := by
 obtain ⟨x1, x2⟩ := x
 obtain ⟨y1, y2⟩ := y
 rw [show cfQ (x1, x2) (y1, y2) = orI (cmpQ x1 y1) (cmpQ x2 y2) from rfl]
 dsimp only
 go_enter Tryz.func64, Tryz.ntmps64
 go_wp2_with fail
 obtain ⟨S0, hS0⟩ : ∃ S0 : World → Prop, S0 = fun w' => w'.cell? ⟨wq.heap.size, 0, none⟩ = some (.int .i64 x1) ∧ w'.cell? ⟨wq.heap.size, 1, none⟩ = some (.int .i64 x2) ∧ w'.cell? ⟨wq.heap.size + 1, 0, none⟩ = some (.int .i64 y1) ∧ w'.cell? ⟨wq.heap.size + 1, 1, none⟩ = some (.int .i64 y2) ∧ wq.heap.size + 1 < w'.heap.size ∧ GrowOf wq w' := ⟨_, rfl⟩
 have HS0 := Lib.hid hS0
 clear hS0
 have k0 := fun xw => (WS.at HS0 xw).1
 have k1 := fun xw => (WS.at HS0 xw).2.1
 have k2 := fun xw => (WS.at HS0 xw).2.2.1
 have k3 := fun xw => (WS.at HS0 xw).2.2.2.1
 have k4 := fun xw => (WS.at HS0 xw).2.2.2.2.1
 have k5 := fun xw => (WS.at HS0 xw).2.2.2.2.2
 refine wp_region_tree (S := S0) ZK ?hS (fun hSc => ?_)
 case hS =>
  rw [HS0.out]
  exact ⟨ZI, ZI, ZI, ZI, ZJ, (by (focus repeat (first | assumption | exact GrowOf.refl _ | refine GrowOf.drew ?_ | refine GrowOf.alloc ?_ _)))⟩
 have hne0 : Nonempty (WS S0) := ⟨⟨_, hSc⟩⟩
 refine wpTree_run [(0, false), (1, false), (2, false), (3, false), (5, false), (6, false), (7, false), (8, false), (4, true), (9, true), (10, true), (11, true), (12, false)] 0 rfl ZK (fun _ _ _ _ _ h => h) hSc ?_
 all_goals
  (try simp only [List.map_cons, List.map_nil, List.getD_cons_succ, List.getD_cons_zero])
  repeat
   first
   | ((with_reducible refine wpSchR_lk ?_ ?_); exact rfl; dsimp only; go_big_quiet_step (fail); (try with_reducible refine wpQuiet_nil ?_); (try dsimp only))
   | ((with_reducible refine wpSchR_at ?_ ?_ (fun K hK => ?_))
      exact rfl
      exact rfl
      dsimp only
      go_simp
      (try go_wp2_with (first | (go_at_call 66; refine (cmpQ_calls _ _ _).mono ?_; rintro e w9 ⟨rfl, rfl⟩) | (go_at_call 65; refine (or2_calls (x := cmpQ x1 y1) (y := cmpQ x2 y2) ZS (by first | assumption | (go_simp; done)) (by first | assumption | (go_simp; done))).mono ?_; rintro e w9 ⟨rfl, rfl⟩)))
      refine hK.out _ _ ?hS (fun hSc => ?_)
      case hS =>
       first
       | exact hSc
       | (rw [HS0.out] at hSc ⊢; obtain ⟨p0, p1, p2, p3, p4, p5⟩ := hSc; exact ⟨ZC0, ZC1, ZC2, ZC3, (by first | exact Nat.lt_of_lt_of_le p4 hb9.size | exact ZT), (by first | assumption | (focus repeat (first | assumption | exact GrowOf.refl _ | refine GrowOf.drew ?_ | refine GrowOf.alloc ?_ _)))⟩)
      clear hK K)
  (try (refine wpSchR_nil ?_; intro hSc))
 all_goals
  refine wpTree_end ZK ?_
  rw [HS0.out] at hSc
  obtain ⟨p0, p1, p2, p3, p4, p5⟩ := hSc
  clear hne0 HS0 k0 k1 k2 k3 k4 k5
  go_wp2_with fail
  go_ret
  exact ⟨rfl, p5⟩
theorem exitsLays (blk off size : Nat) (w : World) : CmpLays Tryz.prog 64 #[] encQ 2 cfQ blk off size w :=
 fun _ _ _ _ x y => exitsCmp_calls x y _
theorem aggQ (w : World) : (isAgg 65).run Tryz.prog w = .ok true w := by kernel_rfl
theorem sizeQ (w : World) : (Go.sizeOf 65).run Tryz.prog w = .ok 2 w := by kernel_rfl
def sortQ (l : List (Int × Int)) : List (Int × Int) := l.mergeSort fun x y => !(ltOf cfQ) y x
theorem sortQ_len (l : List (Int × Int)) : (sortQ l).length = l.length := by simp [sortQ]
theorem flatQ_get : ∀ (l : List (Int × Int)) (j : Nat), j < l.length * 2 → (l.flatMap encQ)[j]? = some ((encQ (l[j / 2]!))[j % 2]!)
 | [], j, h => by simp at h
 | x :: r, 0, h => by simp [encQ]
 | x :: r, 1, h => by simp [encQ]
 | x :: r, j + 2, h => by
  have ih := flatQ_get r j (by simp at h ⊢; omega)
  rw [List.flatMap_cons, show encQ x ++ r.flatMap encQ = .int .i64 x.1 :: .int .i64 x.2 :: r.flatMap encQ from rfl, List.getElem?_cons_succ, List.getElem?_cons_succ, ih]
  rw [show (j + 2) / 2 = j / 2 + 1 from ZO, show (j + 2) % 2 = j % 2 from ZO]
  rfl
theorem holdsQ {w : World} {base e g n cap : Nat} {l : List (Int × Int)} (h : w.ownsRow base e 2 (.slice (some ⟨g, 0, none⟩) n cap) n (l.flatMap encQ)) (hn : l.length = n) : HoldsK encQ 2 w g 0 l.toArray := by
 intro j hj
 rw [size_flatK] at hj
 have hj' : j < l.length * 2 := by simpa using hj
 rw [get_flatK _ _ _ _ hj]
 refine ⟨?_, ?_⟩
 · have := h.cellAt j ZO
   rw [Nat.zero_add, this, flatQ_get l j hj']
   simp
 · rw [Nat.zero_add]
   exact h.frozenAt j
theorem ownsQ_putRow {w : World} {base e g n cap q : Nat} {l ys : List (Int × Int)} (h : w.ownsRow base e 2 (.slice (some ⟨g, 0, none⟩) n cap) n (l.flatMap encQ)) (hy : ys.length = n) :
 (putRowK encQ 2 (Sort.ahead w q) g 0 ys.toArray).ownsRow base e 2 (.slice (some ⟨g, 0, none⟩) n cap) n (ys.flatMap encQ) := by
 have hfl : (ys.flatMap encQ).length = n * 2 := by simp [List.length_flatMap, encQ, hy, List.map_const', List.sum_replicate_nat]
 rcases h.2 with ⟨e0, _⟩ | ⟨g', cap', cur, e0, hb, hg, hn, hm, hs, ht⟩
 · cases e0
 · injection e0 with e1 _ e3
   injection e1 with e1
   injection e1 with e1
   subst e1; subst e3
   refine ⟨hfl, .inr ⟨g, cap, putCells id 0 (flatK encQ 2 ys.toArray) cur, rfl, hb, ?_, ZO, hm, by simpa [putCells] using hs, ?_⟩⟩
   · simp [putRowK, putRow, mapBlock, Sort.ahead, Array.getElem?_modify, hg, onCells]
   · apply List.ext_getElem?
     intro j
     rw [List.getElem?_take, Array.getElem?_toList]
     by_cases hj : j < n * 2
     · have hjc : j < cur.size := by omega
       have hj2 : j < ys.toArray.size * 2 := by simp; omega
       rw [if_pos hj, putCells, Array.getElem?_mapIdx, Array.getElem?_eq_getElem hjc, Option.map_some, if_pos (by rw [size_flatK]; omega), Nat.sub_zero, get_flatK _ _ _ _ hj2, flatQ_get ys j ZO]
       simp
     · rw [if_neg hj, List.getElem?_eq_none ZO]
theorem grownBy_sortedQ {w : World} {g n : Nat} {os : Array Obj} (d : Array (Int × Int)) : w.grownBy (grow (putRowK encQ 2 (Sort.ahead w n) g 0 d) os) (some g) := by
 refine ⟨rfl, rfl, rfl, by simp [putRowK], fun k hk hne => ?_⟩
 rw [heap_grow_old _ _ (by simpa [putRowK] using hk)]
 have : g ≠ k := fun e => hne (by rw [e])
 simp [putRowK, putRow, mapBlock, Sort.ahead, Array.getElem?_modify, this]
theorem sort2_calls {base n : Nat} {w : World} {v : Value} {l : List (Int × Int)} (h : w.ownsRow base 65 2 v n (l.flatMap encQ)) (hn : l.length = n) (hn2 : n ≤ 1048576) :
 Calls Tryz.prog 63 #[v, .func (.func 64) #[] #[]] w fun e w' => e = .returned (.tuple #[]) ∧ w'.ownsRow base 65 2 v n ((sortQ l).flatMap encQ) ∧ w.grownBy w' v.ownBlock := by
 rcases id h.2 with ⟨rfl, rfl⟩ | ⟨g, cap, cur, rfl, hb, hg, hnc, hm, hs, ht⟩
 · obtain rfl := List.eq_nil_of_length_eq_zero hn
   refine (AnyF.slices_SortFunc_none Tryz.laySortF none 0 _ w).mono ?_
   rintro e w' ⟨rfl, rfl⟩
   exact ⟨rfl, by simpa [sortQ] using h, World.grownBy.refl _ _⟩
 · have eg : ∀ args w, (callFunc 64 args).run Tryz.prog w = .ok (.enter 64 args) w := fun _ _ => by kernel_rfl
   have hgl : g < w.heap.size := (h.lt g rfl).2
   have hcon := AnyQ.slices_SortFunc_total Tryz.laySortF 2 aggQ sizeQ encQ (fun _ => rfl) (fun x v hv => by simp [encQ] at hv; rcases hv with rfl | rfl <;> rfl) cfQ swoQ 64 #[] g 0 cap l.toArray w eg (exitsLays g 0 l.toArray.size w) (holdsQ h hn) hgl ZX totQ
   have hsz : l.toArray.size = n := by simpa using hn
   rw [hsz] at hcon
   refine hcon.mono ?_
   rintro e w' ⟨rfl, q, os, rfl⟩
   have h9 := ownsQ_putRow (q := q) h (ys := sortQ l) (by rw [sortQ_len, hn])
   exact ⟨rfl, own_below h9 (below_grow (Below.refl _ _) (Nat.le_refl _)), grownBy_sortedQ _⟩
end Go.Proofs.YthhpbkfngcflcaaGreatDoor
namespace Go.Proofs.YthhpbkfngcflcaaGreatDoor
open Go.RowKit
theorem arrQ : (Tryz.prog).underlying 65 = some (.array 2 3) := by kernel_rfl
theorem intQ : (Tryz.prog).underlying 3 = some (.int .i64) := by kernel_rfl
theorem sizeI (w : World) : (Go.sizeOf 3).run Tryz.prog w = .ok 1 w := by kernel_rfl
theorem partQ (w : World) (a b : Int) : (part 3 #[.int .i64 a, .int .i64 b] 0).run Tryz.prog w = .ok (.int .i64 a) w ∧ (part 3 #[.int .i64 a, .int .i64 b] 1).run Tryz.prog w = .ok (.int .i64 b) w := ⟨ZK, ZK⟩
theorem eqQ (a b c d : Int) (w : World) : (Op.equalIn 10000 65 (.agg #[.int .i64 a, .int .i64 b]) (.agg #[.int .i64 c, .int .i64 d])).run Tryz.prog w = .ok (decide (a = c ∧ b = d)) w := by
 show (Op.equalIn (9998 + 1 + 1) 65 (.agg #[.int .i64 a, .int .i64 b]) (.agg #[.int .i64 c, .int .i64 d])).run Tryz.prog w = _
 generalize 9998 = k
 have h1 := fun (x y : Int) => run_equalIn_int (P := Tryz.prog) w k 3 .i64 .i64 x y intQ
 generalize k + 1 = k1 at *
 have p1 := partQ w a b
 have p2 := partQ w c d
 by_cases e1 : a = c
 · subst e1
   by_cases e2 : b = d
   · subst e2
     simp [List.range', Op.equalIn, run_underlying arrQ, h1, p1.1, p1.2, Result.andThen]
   · have e3 : (b == d) = false := by simpa using e2
     simp [List.range', Op.equalIn, run_underlying arrQ, h1, p1.1, p1.2, p2.1, p2.2, e2, Result.andThen]
 · simp [List.range', Op.equalIn, run_underlying arrQ, h1, p1.1, p2.1, e1, Result.andThen]
end Go.Proofs.YthhpbkfngcflcaaGreatDoor
namespace Go.Proofs.YthhpbkfngcflcaaGreatDoor
open Go.RowKit
set_option maxRecDepth 100000
theorem Tryz.info65 : (Tryz.prog.info? 65).map (fun i => (i.zero, i.size, i.bytes)) = some (some (.agg #[.int .i64 0, .int .i64 0]), 2, 16) := by kernel_rfl
noncomputable def outJ (F : PFunc) (hd : Bool) (h : Int) (b j : Nat) : List (Int × Int) := (((EN F b).take j).filter fun (c : Nat) => !lpB F hd h (c : Int)).map fun (c : Nat) => ((b : Int), (c : Int))
noncomputable def outL (F : PFunc) (hd : Bool) (h : Int) (l : List Nat) : List (Int × Int) := l.flatMap fun b => outJ F hd h b (EN F b).length
section
variable {F : PFunc} {hd : Bool} {h : Int} {b j c : Nat} {l : List Nat}
theorem outJ_zero : outJ F hd h b 0 = [] := rfl
theorem outJ_in (hc : (EN F b)[j]? = some c) (hl : lpB F hd h (c : Int) = true) : outJ F hd h b (j + 1) = outJ F hd h b j := by
 unfold outJ
 rw [List.take_add_one, hc]
 simp [hl]
theorem outJ_out (hc : (EN F b)[j]? = some c) (hl : lpB F hd h (c : Int) = false) : outJ F hd h b (j + 1) = outJ F hd h b j ++ [((b : Int), (c : Int))] := by
 unfold outJ
 rw [List.take_add_one, hc]
 simp [hl]
theorem outJ_le : (outJ F hd h b j).length ≤ 2 := by
 unfold outJ
 rw [List.length_map]
 refine Nat.le_trans (List.length_filter_le _ _) ?_
 rw [List.length_take]
 have := EN_len2 F b
 omega
theorem outL_snoc : outL F hd h (l ++ [b]) = outL F hd h l ++ outJ F hd h b (EN F b).length := by simp [outL]
theorem outL_le : (outL F hd h l).length ≤ 2 * l.length := by
 induction l with
 | nil => simp [outL]
 | cons x r ih =>
  have := outJ_le (F := F) (hd := hd) (h := h) (b := x) (j := (EN F x).length)
  unfold outL at *
  rw [List.flatMap_cons, List.length_append, List.length_cons]
  omega
end
def EndsC (w : World) (nv : Value) (F : PFunc) (l : List Nat) : Prop := ∃ nb ge cape, nv = .pointer (some ⟨nb, 0, none⟩) ∧ nb < w.heap.size ∧ ge < w.heap.size ∧ w.cell? ⟨nb, 1, none⟩ = some (.slice (some ⟨ge, 0, none⟩) F.blocks.length cape) ∧
 ∀ b ∈ l, b < F.blocks.length ∧ ∃ A c, w.cell? ⟨ge, b, none⟩ = some (.slice A (EN F b).length c) ∧ (EN F b).length ≤ c ∧ Rd w.heap.size A (ints (EN F b)) 1 (IntC w)
theorem EndsC.below {w w' : World} {nv : Value} {F : PFunc} {l : List Nat} (h : EndsC w nv F l) (hb : Below w.heap.size w w') : EndsC w' nv F l := by
 obtain ⟨nb, ge, cape, h1, h2, h3, h4, h5⟩ := h
 refine ⟨nb, ge, cape, h1, Nat.lt_of_lt_of_le h2 hb.size, Nat.lt_of_lt_of_le h3 hb.size, (hb.cell (p := ⟨nb, 1, none⟩) h2).trans h4, fun b hb' => ?_⟩
 obtain ⟨h6, A, c, h7, h8, h9⟩ := h5 b hb'
 exact ⟨h6, A, c, (hb.cell (p := ⟨ge, b, none⟩) h3).trans h7, h8, h9.move hb⟩
section
variable {w : World} {base nb mb clk : Nat} {F : PFunc} {rd : Bool} {ve : Value} {vs : List Value} {es : Array MapEntry}
theorem lp_OR {h : Nat} (_ht : typedP F = true) (hh : 0 < (latL F h).length) {b : Nat} (hb : (lpL F (latL F h) h).getD b false = true) : b ∈ OR F := by
 have hbn : b < F.blocks.length := by rw [← lpL_len (F := F) (ls := latL F h) (h := h)]; exact getD_true_lt hb
 rcases (lpL_at hbn).1 hb with rfl | hp
 · obtain ⟨x, hx⟩ := List.exists_mem_of_length_pos hh
   exact (tabB_iff.1 (List.mem_filter.1 hx).2).1
 · cases hp with
   | one hr => exact hr.2.1
   | more _ hr => exact hr.2.1
theorem NestO.endsC (hN : NestO w base F F.blocks.length F.blocks.length (endsAt F) nb mb rd ve vs es clk) (ht : typedP F = true) (h : Int) : EndsC w (.pointer (some ⟨nb, 0, none⟩)) F (bodyL F (headB F h) h F.blocks.length) := by
 obtain ⟨n1, n2⟩ := shaped_count (typed_shaped ht)
 obtain ⟨ge, cape, rfl, hgl, hgc⟩ := own_pos hN.ends n1
 refine ⟨nb, ge, cape, rfl, hN.box.lt, hgl, hN.box.cell 1, fun b hb => ?_⟩
 unfold bodyL at hb
 split at hb
 · rename_i hd
   obtain ⟨hb1, hb2⟩ := List.mem_filter.1 hb
   have hbn : b < F.blocks.length := by simpa using hb1
   have hh : 0 < (latL F h.toNat).length := (mem_headsL.1 (of_decide_eq_true hd).2).2
   have hO := lp_OR ht hh hb2
   obtain ⟨x, hx⟩ : ∃ x, vs[b]? = some x := ⟨_, List.getElem?_eq_getElem (by have := hN.ends.1; omega)⟩
   have hrow := hN.rows b x hx
   have heb : endsAt F b = ints (EN F b) := by rw [endsAt, if_pos hO]
   have hil : (ints (EN F b)).length = (EN F b).length := by simp [ints]
   rw [heb, hil] at hrow
   obtain ⟨Av, cv, rfl⟩ := own_form hrow
   obtain ⟨-, r2, r3⟩ := Rd.of_own hrow
   exact ⟨hbn, Av, cv, (hN.ends.cellAt b ZO).trans hx, r2, r3⟩
 · cases hb
set_option maxHeartbeats 8000000 in
theorem exits_calls {nv : Value} {hd : Bool} {h : Int} (hO : OfC w nv base F hd h) (n2 : F.blocks.length ≤ 64) (hE : hd = true → EndsC w nv F (bodyL F hd h F.blocks.length)) :
 Calls Tryz.prog 23 #[nv, .int .i64 h] w fun e w' => ∃ v, e = .returned v ∧ w'.ownsRow w.heap.size 65 2 v (outL F hd h (bodyL F hd h F.blocks.length)).length ((sortQ (outL F hd h (bodyL F hd h F.blocks.length))).flatMap encQ) ∧ Below w.heap.size w w' := by
 have hbd := body_calls hO n2
 have HIN := Lib.hid (fun (W : World) (hW : Below w.heap.size w W) (c : Int) => nin_calls (b := c) (fun W' hW' => hO W' (hW.trans (hW'.mono hW.size)) : OfC W nv base F hd h))
 have hbl := bodyL_le (F := F) (hd := hd) (h := h) (i := F.blocks.length)
 have HBH := Lib.hid (show hd = false → bodyL F hd h F.blocks.length = [] from fun e => by rw [e]; exact if_neg ZS)
 have HEC := Lib.hid hE
 clear hO hE
 generalize bodyL F hd h F.blocks.length = bl at *
 go_enter Tryz.func23, Tryz.ntmps23
 go_wp2_with fail
 refine hbd.mono ?_
 rintro e w1 ⟨v, rfl, ho1, hb1⟩
 obtain ⟨Ab, cb, rfl⟩ := own_form ho1
 have HO1 := Lib.hid ho1
 have HB1 := Lib.hid hb1
 clear ho1 hb1 hbd
 go_wp2
 go_loopw [14, 5] (fun x v5 wr => ∃ i : Nat, x = .int .i64 i ∧ i ≤ bl.length ∧ wr.ownsRow w1.heap.size 65 2 v5 (outL F hd h (bl.take i)).length ((outL F hd h (bl.take i)).flatMap encQ) ∧ Below w1.heap.size w1 wr) (fun x _ _ => bl.length - (intOf x).toNat)
 case atStart => exact ⟨0, rfl, Nat.zero_le _, World.ownsRow_nil _ _ _ _, Below.refl _ _⟩
 case round => as_aux_lemma =>
  obtain ⟨i, rfl, hi, ho, hb⟩ := hrel
  obtain ⟨Av, cv, rfl⟩ := own_form ho
  by_cases hlt : i < bl.length
  · have hhd : hd = true := by
     cases hd
     · rw [HBH.out rfl] at hlt
       simp at hlt
     · rfl
    obtain ⟨b, hbi⟩ : ∃ b, bl[i]? = some b := ⟨_, List.getElem?_eq_getElem hlt⟩
    have hbm : b ∈ bl := List.mem_of_getElem? hbi
    obtain ⟨nb', ge, cape, rfl, hnl, hgl, hc1, hrows⟩ := (HEC.out hhd).below HB1.out
    obtain ⟨hbn, Ae, ce, hce, hcl, hre⟩ := hrows b hbm
    have k1 := (hb.cell (p := ⟨nb', 1, none⟩) hnl).trans hc1
    have k2 := (hb.cell (p := ⟨ge, b, none⟩) hgl).trans hce
    have s1 := Nat.lt_of_lt_of_le hnl hb.size
    have s2 := Nat.lt_of_lt_of_le hgl hb.size
    have hbn' : (b : Int) < (F.blocks.length : Int) := by omega
    have ho1 := own_below HO1.out hb
    obtain ⟨gb, cb', hvb, hgbl, -⟩ := own_pos ho1 ZO
    cases hvb
    have hcb := ho1.cellAt i ZO
    rw [show ((ints bl).map (Value.int .i64))[i]? = some (.int .i64 (b : Int)) by simp [ints, hbi]] at hcb
    have hen := EN_len2 F b
    have HBI := Lib.hid hbi
    have HRE := Lib.hid hre
    have HO := Lib.hid ho
    have HB := Lib.hid hb
    have hlo := outL_le (F := F) (hd := hd) (h := h) (l := bl.take i)
    rw [List.length_take] at hlo
    clear hrows ho1 ho hb hbi hbm hre hc1 hce hhd
    go_wp2_with fail
    go_loopw [26, 5] (fun x v5 wr => ∃ j : Nat, x = .int .i64 j ∧ j ≤ (EN F b).length ∧ wr.ownsRow w1.heap.size 65 2 v5 ((outL F hd h (bl.take i)).length + (outJ F hd h b j).length) ((outL F hd h (bl.take i) ++ outJ F hd h b j).flatMap encQ) ∧ Below w1.heap.size w1 wr) (fun x _ _ => (EN F b).length - (intOf x).toNat)
    case atStart => exact ⟨0, rfl, Nat.zero_le _, by rw [outJ_zero, List.append_nil]; exact HO.out, HB.out⟩
    case round => as_aux_lemma =>
     clear HO HB k1 k2 s1 s2 hcb
     obtain ⟨j, rfl, hj, ho, hb⟩ := hrel
     obtain ⟨Aw, cw, rfl⟩ := own_form ho
     by_cases hjl : j < (EN F b).length
     · obtain ⟨c, hcj⟩ : ∃ c, (EN F b)[j]? = some c := ⟨_, List.getElem?_eq_getElem hjl⟩
       have hil : (ints (EN F b)).length = (EN F b).length := by simp [ints]
       obtain ⟨b9, o9, rfl, hb9l, hc9⟩ := HRE.out.int hb (i := j) (by rw [hil]; exact hjl)
       rw [show ith (ints (EN F b)) j = (c : Int) by simp [ith, ints, List.getD, hcj]] at hc9
       have hin := HIN.out wr (HB1.out.trans (hb.mono HB1.out.size)) (c : Int)
       obtain ⟨T, hT⟩ : ∃ T, lpB F hd h (c : Int) = T := ⟨_, rfl⟩
       rw [hT] at hin
       have hoj := outJ_le (F := F) (hd := hd) (h := h) (b := b) (j := j)
       have HO := Lib.hid ho
       have HB := Lib.hid hb
       have HTT := Lib.hid hT
       have HCJ := Lib.hid hcj
       clear ho hb hT hcj hil
       cases T
       · as_aux_lemma =>
         have HS := Lib.hid (outJ_out HCJ.out HTT.out)
         go_wp2_with fail
         refine hin.mono ?_
         rintro e w8 ⟨rfl, hb8⟩
         have ho8 := own_below HO.out hb8
         have hB8 := HB.out.trans (hb8.mono HB.out.size)
         have hsz := hB8.size
         go_wp2_with (at_builtin; refine wpList_append2 _ rfl _ _ 70 rfl w1.heap.size 65 16 Tryz.underlying70 Tryz.info65 rfl _ _ _ rfl ho8 _ rfl (.int .i64 (b : Int)) (.int .i64 (c : Int)) (by rfl) rfl rfl ZO ZD hsz ?_; intro v' w9 hown9 hg9; obtain ⟨A9, c9, hv9⟩ := own_form hown9; subst hv9)
         go_roundw
         case rel =>
          refine ⟨j + 1, ZN, ZO, ?_, grown_below ho8 hg9 hB8 (Nat.le_refl _) hsz⟩
          rw [HS.out, List.length_append, ← List.append_assoc, List.flatMap_append]
          exact hown9
         case measure => simp [intOf]; omega
       · as_aux_lemma =>
         have HS := Lib.hid (outJ_in HCJ.out HTT.out)
         go_wp2_with fail
         refine hin.mono ?_
         rintro e w8 ⟨rfl, hb8⟩
         go_wp2
         go_roundw
         case rel => exact ⟨j + 1, ZN, ZO, by rw [HS.out]; exact own_below HO.out hb8, HB.out.trans (hb8.mono HB.out.size)⟩
         case measure => simp [intOf]; omega
     · obtain rfl : j = (EN F b).length := by omega
       have HO := Lib.hid ho
       have HB := Lib.hid hb
       clear ho hb
       go_wp2
       go_roundw
       case rel =>
        refine ⟨i + 1, ZN, ZO, ?_, HB.out⟩
        rw [List.take_add_one, HBI.out]
        simp only [Option.toList_some]
        rw [outL_snoc, List.length_append]
        exact HO.out
       case measure => simp [intOf]; omega
  · obtain rfl : i = bl.length := by omega
    rw [List.take_length] at ho ⊢
    have hlo := outL_le (F := F) (hd := hd) (h := h) (l := bl)
    have hso := sort2_calls ho rfl ZO
    have HO := Lib.hid ho
    have HB := Lib.hid hb
    clear ho hb
    go_wp2_with fail
    refine hso.mono ?_
    rintro e w9 ⟨rfl, ho9, hg9⟩
    have hb9 : Below w1.heap.size w1 w9 := HB.out.grown hg9 HB.out.size (fun k hk => (HO.out.lt k hk).1)
    clear hg9 hso
    go_wp2
    go_ret
    exact ⟨_, rfl, own_base ho9 HB1.out.size, HB1.out.trans (hb9.mono HB1.out.size)⟩
end
section
variable {F : PFunc} {a b h n x : Nat}
noncomputable def inR (F : PFunc) (h b : Nat) : Bool := (lpL F (latL F h) h).getD b false
theorem inR_self (hh : h < F.blocks.length) : inR F h h = true := (lpL_in hh).2 (.inl rfl)
theorem bodyL_filt : bodyL F true (h : Int) n = (List.range n).filter (inR F h) := by
 unfold bodyL
 rw [if_pos rfl, Int.toNat_natCast]
 rfl
theorem headB_nat : headB F (a : Int) = true ↔ a ∈ headsL F F.blocks.length := by
 unfold headB
 rw [decide_eq_true_eq, Int.toNat_natCast]
 exact ⟨fun h => h.2, fun h => ⟨ZO, h⟩⟩
theorem lpB_nat (ha : a ∈ headsL F F.blocks.length) (hx : x < F.blocks.length) : lpB F (headB F (a : Int)) (a : Int) (x : Int) = inR F a x := by
 unfold lpB inR
 rw [headB_nat.2 ha, Int.toNat_natCast, Int.toNat_natCast]
 have : (x : Int) < (F.blocks.length : Int) := by omega
 simp [this]
theorem inR_iff (hx : x < F.blocks.length) : inR F a x = true ↔ inLp F a x := lpL_in hx
end
theorem pair_cells {w : World} {base n c i : Nat} {A : Option Addr} {l : List (Int × Int)} {x y : Int} (h : w.ownsRow base 65 2 (.slice A n c) n (l.flatMap encQ)) (hn : l.length = n) (hi : l[i]? = some (x, y)) :
 ∃ g, A = some ⟨g, 0, none⟩ ∧ g < w.heap.size ∧ w.cell? ⟨g, i * 2, none⟩ = some (.int .i64 x) ∧ w.cell? ⟨g, i * 2 + 1, none⟩ = some (.int .i64 y) := by
 have hil : i < l.length := (List.getElem?_eq_some_iff.1 hi).1
 have hb : l[i]! = (x, y) := by rw [getElem!_pos l i hil]; exact (List.getElem?_eq_some_iff.1 hi).2
 rcases id h.2 with ⟨he, h0⟩ | ⟨g, cap, cur, he, -⟩
 · exact ZO
 · cases he
   refine ⟨g, rfl, (h.lt g rfl).2, ?_, ?_⟩
   · rw [h.cellAt (i * 2) ZO, flatQ_get l (i * 2) ZO, show i * 2 / 2 = i from ZO, show i * 2 % 2 = 0 from ZO, hb]
     rfl
   · rw [h.cellAt (i * 2 + 1) ZO, flatQ_get l (i * 2 + 1) ZO, show (i * 2 + 1) / 2 = i from ZO, show (i * 2 + 1) % 2 = 1 from ZO, hb]
     rfl
end Go.Proofs.YthhpbkfngcflcaaGreatDoor
