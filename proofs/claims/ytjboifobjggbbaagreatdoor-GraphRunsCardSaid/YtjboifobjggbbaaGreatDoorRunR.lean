/- The walk of the document's Run: the outcome that it answers. -/
import Derived.Test.YtjboifobjggbbaaGreatDoorRunW
import Derived.Test.YtjboifobjggbbaaGreatDoorRunB
import Derived.Deep.MidRow
namespace Go.Proofs.YtjboifobjggbbaaGreatDoor
open Go.RowKit
set_option maxRecDepth 100000
def outV (s : RSt) (vt : Value) : Value := .agg #[.int .i64 s.ending, .int .i64 s.value, .int .i64 s.trap, vt, .int .i64 s.steps, .int .i64 (ith s.checks 0), .int .i64 (ith s.checks 1), .int .i64 (ith s.checks 2), .int .i64 (ith s.checks 3), .int .i64 (ith s.checks 4), .int .i64 (ith s.checks 5), .int .i64 (ith s.checks 6), .int .i64 (ith s.checks 7)]
theorem runR_step {F : PFunc} {k : Nat} {s : RSt} (h : s.ended = false) : runR F (k + 1) s = runR F k (stepR F s) := by rw [runR, if_neg (by rw [h]; decide)]
theorem runR_ended {F : PFunc} : ∀ {k : Nat} {s : RSt}, s.ended = true → runR F k s = s
 | 0, _, _ => rfl
 | k + 1, s, h => by rw [runR, if_pos h]
theorem heap_setCells {b k : Nat} (h : k ≠ b) : ∀ (vs : List Value) (o : Nat) (w : World), (w.setCells b o vs).heap[k]? = w.heap[k]?
 | [], _, _ => rfl
 | v :: r, o, w => by
  rw [World.setCells, heap_setCells h r]
  exact heap_set h
theorem below_setCells {B b : Nat} {a : World} (hb : B ≤ b) : ∀ (vs : List Value) (o : Nat) (w : World), Below B a w → Below B a (w.setCells b o vs)
 | [], _, _, h => h
 | v :: r, o, w, h => by
  rw [World.setCells]
  exact below_setCells hb r _ _ (h.setCell hb _)
def RetOut (F : PFunc) (n : Nat) (s : RSt) (w : World) (e : Ending) (w' : World) : Prop := ∃ vt, e = .returned (outV (runR F n s) vt) ∧ w'.ownsRow 0 2 1 vt (runR F n s).trace.length ((runR F n s).trace.map (Value.int .i64)) ∧ Below w.heap.size w w'
set_option maxHeartbeats 16000000 in
theorem run_calls {W w : World} {F : PFunc} {I : PIn} {A0 A1 A2 : Option Addr} {c0 c1 c2 fuel : Nat} {iv : Value} (hF : FnV W W.heap.size (.agg #[.slice A0 F.vars.length c0, .slice A1 F.params.length c1, .slice A2 F.blocks.length c2]) F)
 (hI : InV W W.heap.size iv I) (hW : Below W.heap.size W w) (hT : typedP F = true) (hS : Small F) (hN : NumsR F) (hIn : InNum I) (hR : RightF F I) (hp : F.params.length ≤ F.vars.length) (hvl : F.vars.length ≤ 512) (hf : fuel ≤ 501) :
 Calls Tryz.prog 23 #[.agg #[.slice A0 F.vars.length c0, .slice A1 F.params.length c1, .slice A2 F.blocks.length c2], iv, .int .i64 fuel] w (RetOut F fuel (beginR F I) w) := by
 obtain ⟨A0', c0', A1', c1', A2', c2', hfe, l0, l1, l2, -, -, -, r0, r1, r2⟩ := id hF.open_
 simp only [Value.agg.injEq, Array.mk.injEq, List.cons.injEq, Value.slice.injEq, true_and, and_true] at hfe
 obtain ⟨⟨rfl, rfl⟩, ⟨rfl, rfl⟩, rfl, rfl⟩ := hfe
 obtain ⟨B0, d0, B1, d1, rfl, m0, m1, k0, k1, q0, q1⟩ := id hI.open_
 unfold Len at *
 clear r0 r1 r2 q0 q1
 have HBG := Lib.hid (fun (w' : World) (h : Below W.heap.size W w') => begin_calls hF hI h hR hp hvl)
 have HST := Lib.hid (fun (w' : World) (h : Below W.heap.size W w') (D : Nat → Prop) (nb gi gb ga : Nat) (vr vt : Value) (vrs : List Value) (s : RSt) (hI' : RInv F s) (hr : RunO w' D (.slice A0 F.vars.length c0) (.slice A1 F.params.length c1) (.slice A2 F.blocks.length c2) nb gi gb ga F.vars.length vr vt vrs s) (hD : ∀ k, D k → k < w'.heap.size) (hDW : ∀ k, k < W.heap.size → D k) => step_calls hF hT hS hN h hI' hr hD hDW)
 have HI0 := Lib.hid (beginR_inv hT hR hIn)
 have HT := Lib.hid hT
 have HN := Lib.hid hN
 have HW := Lib.hid hW
 obtain ⟨w5, hw5⟩ : ∃ w5 : World, w5 = ((w.alloc (.cells #[.slice A0 F.vars.length c0, .slice A1 F.params.length c1, .slice A2 F.blocks.length c2] 26)).alloc (.cells #[.slice B0 I.args.length d0, .slice B1 I.rows.length d1] 38)).alloc (.cells #[.int .i64 0, .int .i64 0, .int .i64 0, .slice none 0 0, .int .i64 0, .int .i64 0, .int .i64 0, .int .i64 0, .int .i64 0, .int .i64 0, .int .i64 0, .int .i64 0, .int .i64 0] 48) := ⟨_, rfl⟩
 have hb5 : Below w.heap.size w w5 := by rw [hw5]; exact BL
 have ho5 : BoxAt w5 (w.heap.size + 1 + 1) #[.int .i64 0, .int .i64 0, .int .i64 0, .slice none 0 0, .int .i64 0, .int .i64 0, .int .i64 0, .int .i64 0, .int .i64 0, .int .i64 0, .int .i64 0, .int .i64 0, .int .i64 0] 48 := by
  rw [hw5]
  have := BoxAt.new ((w.alloc (.cells #[.slice A0 F.vars.length c0, .slice A1 F.params.length c1, .slice A2 F.blocks.length c2] 26)).alloc (.cells #[.slice B0 I.args.length d0, .slice B1 I.rows.length d1] 38)) #[.int .i64 0, .int .i64 0, .int .i64 0, .slice none 0 0, .int .i64 0, .int .i64 0, .int .i64 0, .int .i64 0, .int .i64 0, .int .i64 0, .int .i64 0, .int .i64 0, .int .i64 0] 48
  simpa using this
 have s5 : w5.heap.size = w.heap.size + 3 := by rw [hw5]; simp
 clear hF hI hT hS hN hIn hR hp hvl hW
 go_enter Tryz.func23, Tryz.ntmps23
 go_wp2_with fail
 rw [← hw5]
 refine (HBG.out _ (HW.out.trans (hb5.mono HW.out.size))).mono ?_
 rintro e w6 ⟨nb, gi, gb, ga, vr, vrs, rfl, hR6, hb6⟩
 have HR6 := Lib.hid hR6
 have Hb6 := Lib.hid hb6
 have HO5 := Lib.hid ho5
 have HB5 := Lib.hid hb5
 clear hR6 hb6 hw5 ho5 hb5 HBG
 go_wp2
 go_loopw [8] (fun x wr => ∃ (i : Nat) (s : RSt) (vr' vt' : Value) (vrs' : List Value), x = .int .i64 i ∧ i ≤ fuel ∧ RunO wr (fun k => k < w5.heap.size) (.slice A0 F.vars.length c0) (.slice A1 F.params.length c1) (.slice A2 F.blocks.length c2) nb gi gb ga F.vars.length vr' vt' vrs' s ∧ Hid (RInv F s ∧ runR F (fuel - i) s = runR F fuel (beginR F I)) ∧ Kp (fun k => k < w5.heap.size) w6 wr) (fun x _ => fuel - (intOf x).toNat)
 case atStart => exact ⟨0, beginR F I, _, _, _, rfl, Nat.zero_le _, HR6.out, ⟨HI0.out, rfl⟩, Kp.refl⟩
 case round => as_aux_lemma =>
  obtain ⟨i, s, vr', vt', vrs', rfl, hi, h4, hIV, k4⟩ := hrel
  have hBr : Below w5.heap.size w5 wr := Hb6.out.trans (Kp.to_below (B := w5.heap.size) k4 (fun k hk => hk) Hb6.out.size)
  have hWr := HB5.out.trans (hBr.mono HB5.out.size)
  have xl := h4.box.lt
  have z22 := h4.box.cell 22
  replace z22 : wr.cell? ⟨nb, 22, none⟩ = some (.bool s.ended) := z22
  by_cases hlt : i < fuel ∧ s.ended = false
  · as_aux_lemma =>
    have hik : (i : Int) < (fuel : Int) := by omega
    rw [hlt.2] at z22
    have hst := HST.out wr (HW.out.trans (hWr.mono HW.out.size)) _ nb gi gb ga vr' vt' vrs' s hIV.out.1 h4 (fun k hk => Nat.lt_of_lt_of_le hk hBr.size) (fun k hk => by have := HW.out.size; omega)
    have HI2 := Lib.hid (show RInv F (stepR F s) ∧ runR F (fuel - (i + 1)) (stepR F s) = runR F fuel (beginR F I) from ⟨hIV.out.1.step HT.out HN.out, by rw [← hIV.out.2, show fuel - i = (fuel - (i + 1)) + 1 from ZO, runR_step hlt.2]⟩)
    have HK4 := Lib.hid k4
    have hfu : i + 1 ≤ fuel := by omega
    clear hlt h4 hBr hWr hIV k4 hi
    go_wp2_with (go_at_call 61; refine hst.mono ?_; rintro e w9 ⟨rfl, vr9, vt9, vrs9, hR9, hK9⟩)
    go_roundw
    case rel => exact ⟨i + 1, stepR F s, vr9, vt9, vrs9, ZN, hfu, hR9, HI2.out, HK4.out.trans hK9⟩
    case measure => simp [intOf]; omega
  · have hfin : runR F fuel (beginR F I) = s := by
     rw [← hIV.out.2]
     cases he : s.ended
     · rw [show fuel - i = 0 by
        have : ¬ i < fuel := fun h => hlt ⟨h, he⟩
        omega]
       rfl
     · exact runR_ended he
    have HFIN := Lib.hid hfin
    have hob := HO5.out.below hBr ZO
    obtain ⟨At, ct, rfl⟩ := own_form h4.tr
    have hc : wr.rangeAt nb 9 ([.int .i64 s.ending, .int .i64 s.value, .int .i64 s.trap, .slice At s.trace.length ct, .int .i64 s.steps, .int .i64 (ith s.checks 0), .int .i64 (ith s.checks 1), .int .i64 (ith s.checks 2), .int .i64 (ith s.checks 3), .int .i64 (ith s.checks 4), .int .i64 (ith s.checks 5), .int .i64 (ith s.checks 6), .int .i64 (ith s.checks 7)] : List Value) := by
     have := World.rangeAt_of_block (w := wr) (b := nb) h4.box 9 13
     simpa [runCells] using this
    have ht : wr.there (w.heap.size + 1 + 1) 0 ([.int .i64 s.ending, .int .i64 s.value, .int .i64 s.trap, .slice At s.trace.length ct, .int .i64 s.steps, .int .i64 (ith s.checks 0), .int .i64 (ith s.checks 1), .int .i64 (ith s.checks 2), .int .i64 (ith s.checks 3), .int .i64 (ith s.checks 4), .int .i64 (ith s.checks 5), .int .i64 (ith s.checks 6), .int .i64 (ith s.checks 7)] : List Value).toArray.size := fun j hj => by
     rw [Nat.zero_add, hob.cell j]
     refine ⟨?_, hob.frozen j⟩
     have hj' : j < 13 := hj
     simp [hj']
    have HSM := Lib.hid (World.rangeAt_setCells_same wr (w.heap.size + 1 + 1) 0 [.int .i64 s.ending, .int .i64 s.value, .int .i64 s.trap, .slice At s.trace.length ct, .int .i64 s.steps, .int .i64 (ith s.checks 0), .int .i64 (ith s.checks 1), .int .i64 (ith s.checks 2), .int .i64 (ith s.checks 3), .int .i64 (ith s.checks 4), .int .i64 (ith s.checks 5), .int .i64 (ith s.checks 6), .int .i64 (ith s.checks 7)] ht)
    have hu := Tryz.underlying48
    have hin : (Tryz.prog.info? 48).map (·.size) = some ([.int .i64 s.ending, .int .i64 s.value, .int .i64 s.trap, .slice At s.trace.length ct, .int .i64 s.steps, .int .i64 (ith s.checks 0), .int .i64 (ith s.checks 1), .int .i64 (ith s.checks 2), .int .i64 (ith s.checks 3), .int .i64 (ith s.checks 4), .int .i64 (ith s.checks 5), .int .i64 (ith s.checks 6), .int .i64 (ith s.checks 7)] : List Value).length := by kernel_rfl
    have hne2 : ∀ k, (Value.slice At s.trace.length ct).ownBlock = some k → k ≠ w.heap.size + 1 + 1 := fun k hk e => h4.dt k hk (by show k < w5.heap.size; omega)
    have HRW := Lib.hid (own_turn (w' := wr.setCells (w.heap.size + 1 + 1) 0 [.int .i64 s.ending, .int .i64 s.value, .int .i64 s.trap, .slice At s.trace.length ct, .int .i64 s.steps, .int .i64 (ith s.checks 0), .int .i64 (ith s.checks 1), .int .i64 (ith s.checks 2), .int .i64 (ith s.checks 3), .int .i64 (ith s.checks 4), .int .i64 (ith s.checks 5), .int .i64 (ith s.checks 6), .int .i64 (ith s.checks 7)]) h4.tr (fun k hk => heap_setCells (hne2 k hk) _ _ _))
    have HBE := Lib.hid (below_setCells (b := w.heap.size + 1 + 1) (by omega : w.heap.size ≤ w.heap.size + 1 + 1) [.int .i64 s.ending, .int .i64 s.value, .int .i64 s.trap, .slice At s.trace.length ct, .int .i64 s.steps, .int .i64 (ith s.checks 0), .int .i64 (ith s.checks 1), .int .i64 (ith s.checks 2), .int .i64 (ith s.checks 3), .int .i64 (ith s.checks 4), .int .i64 (ith s.checks 5), .int .i64 (ith s.checks 6), .int .i64 (ith s.checks 7)] 0 wr hWr)
    have h1c : ([.int .i64 s.ending, .int .i64 s.value, .int .i64 s.trap, .slice At s.trace.length ct, .int .i64 s.steps, .int .i64 (ith s.checks 0), .int .i64 (ith s.checks 1), .int .i64 (ith s.checks 2), .int .i64 (ith s.checks 3), .int .i64 (ith s.checks 4), .int .i64 (ith s.checks 5), .int .i64 (ith s.checks 6), .int .i64 (ith s.checks 7)] : List Value).toArray.all (·.oneCell') = true := all_oneCell_toArray (by
     intro u hu
     simp only [List.mem_cons, List.not_mem_nil, or_false] at hu
     rcases hu with rfl | rfl | rfl | rfl | rfl | rfl | rfl | rfl | rfl | rfl | rfl | rfl | rfl <;> rfl)
    have hol := hob.lt
    clear hne2 hob h4 hBr k4 hWr
    by_cases hif : i < fuel
    · as_aux_lemma =>
       have hen : s.ended = true := by
        cases he : s.ended
        · exact absurd ⟨hif, he⟩ hlt
        · rfl
       rw [hen] at z22
       have hik : (i : Int) < (fuel : Int) := by omega
       clear hlt hIV hfin hen
       go_upto_region 6 with fail
       go_wp2_with (first | (refine wpList_load_mid rfl 48 _ rfl nb 9 rfl [.int .i64 s.ending, .int .i64 s.value, .int .i64 s.trap, .slice At s.trace.length ct, .int .i64 s.steps, .int .i64 (ith s.checks 0), .int .i64 (ith s.checks 1), .int .i64 (ith s.checks 2), .int .i64 (ith s.checks 3), .int .i64 (ith s.checks 4), .int .i64 (ith s.checks 5), .int .i64 (ith s.checks 6), .int .i64 (ith s.checks 7)] _ hc hu rfl hin ?_) | (refine wpList_store_mid rfl 48 _ _ rfl (w.heap.size + 1 + 1) 0 ([.int .i64 s.ending, .int .i64 s.value, .int .i64 s.trap, .slice At s.trace.length ct, .int .i64 s.steps, .int .i64 (ith s.checks 0), .int .i64 (ith s.checks 1), .int .i64 (ith s.checks 2), .int .i64 (ith s.checks 3), .int .i64 (ith s.checks 4), .int .i64 (ith s.checks 5), .int .i64 (ith s.checks 6), .int .i64 (ith s.checks 7)] : List Value).toArray rfl rfl ht hin h1c ?_))
       have z0 := HSM.out 0 _ rfl
       have z1 := HSM.out 1 _ rfl
       have z2 := HSM.out 2 _ rfl
       have z3 := HSM.out 3 _ rfl
       have z4 := HSM.out 4 _ rfl
       have z5 := HSM.out 5 _ rfl
       have z6 := HSM.out 6 _ rfl
       have z7 := HSM.out 7 _ rfl
       have z8 := HSM.out 8 _ rfl
       have z9 := HSM.out 9 _ rfl
       have z10 := HSM.out 10 _ rfl
       have z11 := HSM.out 11 _ rfl
       have z12 := HSM.out 12 _ rfl
       simp only [Nat.zero_add] at z0 z1 z2 z3 z4 z5 z6 z7 z8 z9 z10 z11 z12
       (try simp only [Exit.inBlock, Exit.then])
       refine bodyPost_ret (v := outV s (.slice At s.trace.length ct)) ?_ rfl ?_
       · obtain ⟨W9, hW9⟩ : ∃ W9 : World, W9 = wr.setCells (w.heap.size + 1 + 1) 0 ([.int .i64 s.ending, .int .i64 s.value, .int .i64 s.trap, .slice At s.trace.length ct, .int .i64 s.steps, .int .i64 (ith s.checks 0), .int .i64 (ith s.checks 1), .int .i64 (ith s.checks 2), .int .i64 (ith s.checks 3), .int .i64 (ith s.checks 4), .int .i64 (ith s.checks 5), .int .i64 (ith s.checks 6), .int .i64 (ith s.checks 7)] : List Value).toArray.toList := ⟨_, rfl⟩
         rw [← hW9]
         replace hW9 : W9 = wr.setCells (w.heap.size + 1 + 1) 0 [.int .i64 s.ending, .int .i64 s.value, .int .i64 s.trap, .slice At s.trace.length ct, .int .i64 s.steps, .int .i64 (ith s.checks 0), .int .i64 (ith s.checks 1), .int .i64 (ith s.checks 2), .int .i64 (ith s.checks 3), .int .i64 (ith s.checks 4), .int .i64 (ith s.checks 5), .int .i64 (ith s.checks 6), .int .i64 (ith s.checks 7)] := hW9
         rw [← hW9] at z0 z1 z2 z3 z4 z5 z6 z7 z8 z9 z10 z11 z12
         clear hW9 HSM ht
         simp [outV, results, Tryz.results23, go_sem, z0, z1, z2, z3, z4, z5, z6, z7, z8, z9, z10, z11, z12]
       · unfold RetOut
         rw [HFIN.out]
         exact ⟨_, rfl, HRW.out, HBE.out⟩
    · as_aux_lemma =>
       have hik : decide ((i : Int) < (fuel : Int)) = false := decide_eq_false ZO
       have hik2 : decide (i < fuel) = false := decide_eq_false hif
       clear hlt hIV hfin
       go_upto_region 6 with fail
       go_wp2_with (first | (refine wpList_load_mid rfl 48 _ rfl nb 9 rfl [.int .i64 s.ending, .int .i64 s.value, .int .i64 s.trap, .slice At s.trace.length ct, .int .i64 s.steps, .int .i64 (ith s.checks 0), .int .i64 (ith s.checks 1), .int .i64 (ith s.checks 2), .int .i64 (ith s.checks 3), .int .i64 (ith s.checks 4), .int .i64 (ith s.checks 5), .int .i64 (ith s.checks 6), .int .i64 (ith s.checks 7)] _ hc hu rfl hin ?_) | (refine wpList_store_mid rfl 48 _ _ rfl (w.heap.size + 1 + 1) 0 ([.int .i64 s.ending, .int .i64 s.value, .int .i64 s.trap, .slice At s.trace.length ct, .int .i64 s.steps, .int .i64 (ith s.checks 0), .int .i64 (ith s.checks 1), .int .i64 (ith s.checks 2), .int .i64 (ith s.checks 3), .int .i64 (ith s.checks 4), .int .i64 (ith s.checks 5), .int .i64 (ith s.checks 6), .int .i64 (ith s.checks 7)] : List Value).toArray rfl rfl ht hin h1c ?_))
       have z0 := HSM.out 0 _ rfl
       have z1 := HSM.out 1 _ rfl
       have z2 := HSM.out 2 _ rfl
       have z3 := HSM.out 3 _ rfl
       have z4 := HSM.out 4 _ rfl
       have z5 := HSM.out 5 _ rfl
       have z6 := HSM.out 6 _ rfl
       have z7 := HSM.out 7 _ rfl
       have z8 := HSM.out 8 _ rfl
       have z9 := HSM.out 9 _ rfl
       have z10 := HSM.out 10 _ rfl
       have z11 := HSM.out 11 _ rfl
       have z12 := HSM.out 12 _ rfl
       simp only [Nat.zero_add] at z0 z1 z2 z3 z4 z5 z6 z7 z8 z9 z10 z11 z12
       (try simp only [Exit.inBlock, Exit.then])
       refine bodyPost_ret (v := outV s (.slice At s.trace.length ct)) ?_ rfl ?_
       · obtain ⟨W9, hW9⟩ : ∃ W9 : World, W9 = wr.setCells (w.heap.size + 1 + 1) 0 ([.int .i64 s.ending, .int .i64 s.value, .int .i64 s.trap, .slice At s.trace.length ct, .int .i64 s.steps, .int .i64 (ith s.checks 0), .int .i64 (ith s.checks 1), .int .i64 (ith s.checks 2), .int .i64 (ith s.checks 3), .int .i64 (ith s.checks 4), .int .i64 (ith s.checks 5), .int .i64 (ith s.checks 6), .int .i64 (ith s.checks 7)] : List Value).toArray.toList := ⟨_, rfl⟩
         rw [← hW9]
         replace hW9 : W9 = wr.setCells (w.heap.size + 1 + 1) 0 [.int .i64 s.ending, .int .i64 s.value, .int .i64 s.trap, .slice At s.trace.length ct, .int .i64 s.steps, .int .i64 (ith s.checks 0), .int .i64 (ith s.checks 1), .int .i64 (ith s.checks 2), .int .i64 (ith s.checks 3), .int .i64 (ith s.checks 4), .int .i64 (ith s.checks 5), .int .i64 (ith s.checks 6), .int .i64 (ith s.checks 7)] := hW9
         rw [← hW9] at z0 z1 z2 z3 z4 z5 z6 z7 z8 z9 z10 z11 z12
         clear hW9 HSM ht
         simp [outV, results, Tryz.results23, go_sem, z0, z1, z2, z3, z4, z5, z6, z7, z8, z9, z10, z11, z12]
       · unfold RetOut
         rw [HFIN.out]
         exact ⟨_, rfl, HRW.out, HBE.out⟩
end Go.Proofs.YtjboifobjggbbaaGreatDoor
