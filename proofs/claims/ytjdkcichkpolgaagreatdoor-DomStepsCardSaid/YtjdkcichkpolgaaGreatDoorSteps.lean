/- The walk of dom's Steps: an iterator that goes into each block of the tree, through what is below it, and out of it, whatever the loop's body does to what lies outside of the tree. -/
import Derived.Test.YtjdkcichkpolgaaGreatDoorStepP
import Derived.RangeFuncFrom
import Derived.RangeFuncCalls
import Derived.RangeFuncBound
import Derived.RangeFuncLeaves
import Derived.WalkKit
import Derived.OwnWalkIn
import Derived.TacticsInMore
import Derived.LoopIn
import Derived.Shelf.RegionOpen
namespace Go.Proofs.YtjdkcichkpolgaaGreatDoor
open Go.RowKit
set_option maxRecDepth 100000
attribute [local go_sem] Oper.semAt_some
def encE (x : Nat × Bool) : Array Value := #[.int .i64 (x.1 : Int), .bool x.2]
theorem RoundIn.deep {m m' : Nat} {P : Program} {l : Nat} {f : FuncId} {tmps : Array Value} {assign body : Code} {w : World} {R : Ending → World → Prop}
 (h : RoundIn Fence.wide m P l f tmps assign body w R) : RoundIn Fence.wide m' P l f tmps assign body w R := ⟨h.1, fun c cs _ => h.2 c cs (fun d h => by cases h)⟩
theorem YieldAt.deep {m : Nat} (m' : Nat) {P : Program} {l : Nat} {args : Array Value} {W : World} {R : Ending → World → Prop} (h : YieldAt Fence.wide m P l args W R) : YieldAt Fence.wide m' P l args W R := by
 obtain ⟨fn, tmps, assign, body, hy, hR⟩ := h
 exact ⟨fn, tmps, assign, body, hy, RoundIn.deep hR⟩
def StepPost (n₀ : Nat) (J Jx : List (Nat × Bool) → World → Prop) (pre ev : List (Nat × Bool)) (W : World) (e : Ending) (W' : World) : Prop :=
 (e = .returned (.bool true) ∧ J (pre ++ ev) W' ∧ Below n₀ W W') ∨ (e = .returned (.bool false) ∧ ∃ q, q <+: ev ∧ Jx (pre ++ q) W')
set_option maxHeartbeats 4000000 in
theorem down_walk {W0 : World} {n₀ tb n gn gl gk gf : Nat} {O : List Nat} {P : Nat → List Nat} {L V : List (Option Nat)} (h : TreeD W0 n₀ tb n O P gn gl gk gf L V) (hn : n ≤ 64) (l N : Nat) (J Jx : List (Nat × Bool) → World → Prop)
 (hY : ∀ m pre x W, J pre W → pre.length < N → YieldAt Fence.wide m Tryz.prog l (encE x) W fun e W' => (e = .returned (.bool true) ∧ J (pre ++ [x]) W' ∧ Below n₀ W W') ∨ (e = .returned (.bool false) ∧ Jx (pre ++ [x]) W'))
 (E : Nat → List (Nat × Bool)) (b : Nat) (hb : b < n)
 (ih : ∀ j ∈ kidsOf n L b, ∀ nn pre W, Below n₀ W0 W → J pre W → pre.length + (E j).length ≤ N → CallsIn Fence.wide nn Tryz.prog 61 #[.pointer (some ⟨tb, 0, none⟩), .int .i64 (j : Int), .func (.yield l) #[] #[]] W (StepPost n₀ J Jx pre (E j) W))
 (nn : Nat) (pre : List (Nat × Bool)) (W : World) (hW : Below n₀ W0 W) (hJ : J pre W) (hN : pre.length + ((b, true) :: ((kidsOf n L b).flatMap E ++ [(b, false)])).length ≤ N) :
 CallsIn Fence.wide nn Tryz.prog 61 #[.pointer (some ⟨tb, 0, none⟩), .int .i64 (b : Int), .func (.yield l) #[] #[]] W (StepPost n₀ J Jx pre ((b, true) :: ((kidsOf n L b).flatMap E ++ [(b, false)])) W) := by
 have hdd : ∀ k : Nat, (Fence.wide.depth.isSome = true → 1 ≤ k) := fun k h => by cases h
 obtain ⟨bb, off, he, hbb, v, hc, A, c, rfl, hlen, hk, hr⟩ := h.rk b (ints (kidRow (L.set 0 none) b n)) (by simp [hb])
 cases he
 rw [show 0 + b * 1 = b from ZO] at hc
 have hL : ints (kidRow (L.set 0 none) b n) = ints (kidsOf n L b) := rfl
 rw [hL] at hc hr hlen hk
 have hl0 : (kidRow (L.set 0 none) b n).length ≤ n := kidRow_le n
 have hll : (ints (kidsOf n L b)).length = (kidsOf n L b).length := by simp [ints]
 have hlk : (kidsOf n L b).length ≤ n := hl0
 rw [hll] at hc hlen hk
 have ht := h.ht
 have c2 := h.c2
 generalize hks : kidsOf n L b = ks at *
 have HN := Lib.hid hN
 simp only [List.length_cons, List.length_append, List.length_nil] at hN
 clear hL hks hl0
 obtain ⟨fn, tmps, assign, body, hy, hR⟩ := hY (nn - 1) pre (b, true) W hJ ZO
 unfold encE at hy
 dsimp only at hy
 refine callsIn_of_wp Tryz.func61 rfl trivial ?_ rfl
 simp only [Tryz.ntmps61, List.size_toArray, List.length_cons, List.length_nil, Nat.reduceAdd, Nat.reduceSub, Array.replicate_succ, Array.replicate_zero, List.push_toArray, List.append_toArray, List.nil_append, List.cons_append]
 gi_wp2
 refine ⟨hdd _, ?_⟩
 refine hR.mono ?_
 clear hR hy
 rintro e W3 (⟨rfl, hJ3, hb3⟩ | ⟨rfl, hx3⟩)
 · have hB3 := hW.trans hb3
   have c23 := (hB3.cell (p := ⟨tb, 2, none⟩) ht).trans c2
   have hc3 := (hB3.cell (p := ⟨gk, b, none⟩) hbb).trans hc
   gi_wp2
   gi_loopw [21] (fun s wr => ∃ j : Nat, s = .int .i64 (j : Int) ∧ j ≤ ks.length ∧ J (pre ++ (b, true) :: (ks.take j).flatMap E) wr ∧ Below n₀ W wr) (fun s _ => ks.length - (intOf s).toNat)
   case atStart => exact ⟨0, rfl, Nat.zero_le _, by simpa using hJ3, hb3⟩
   case round =>
    clear hJ3 hb3 hB3 c23 hc3
    obtain ⟨j, rfl, hj, hJr, hbr⟩ := hrel
    have hBr := hW.trans hbr
    by_cases hjl : j < ks.length
    · obtain ⟨b9, o9, rfl, hb9, hc9⟩ := hr j _ (ith_get (by rw [hll]; exact hjl))
      unfold IntC at hc9
      rw [Nat.mul_one] at hc9
      have hkj : ith (ints ks) j = ((ks[j] : Nat) : Int) := by simp [ith, ints, hjl]
      rw [hkj] at hc9
      have hc99 := (hBr.cell (p := ⟨b9, o9 + j, none⟩) hb9).trans hc9
      have hsp : ks.flatMap E = (ks.take j).flatMap E ++ (E ks[j] ++ (ks.drop (j + 1)).flatMap E) := by
       rw [← List.flatMap_cons, ← List.flatMap_append, ← List.drop_eq_getElem_cons hjl, List.take_append_drop]
      have hspl := congrArg List.length hsp
      simp only [List.length_append] at hspl
      have hih := ih ks[j] (List.getElem_mem hjl) (nn - 1) _ wr hBr hJr (by simp only [List.length_append, List.length_cons]; omega)
      have HSP := Lib.hid hsp
      have hjI : (j : Int) < (ks.length : Int) := by omega
      generalize hkv : ks[j] = kv at *
      have HKV := Lib.hid hkv
      clear hsp hc9 hkj hkv hspl ih
      gi_wp2_with ((first | refine ⟨trivial, hdd _, ?_⟩ | refine ⟨hdd _, ?_⟩ | skip); gi_at_call 61; refine hih.mono ?_; clear hih; unfold StepPost; rintro e W4 (⟨rfl, hJ4, hb4⟩ | ⟨rfl, q, hq, hx4⟩))
      · go_roundw
        case rel =>
         refine ⟨j + 1, ZN, ZO, ?_, hbr.trans hb4⟩
         rw [List.take_add_one, List.getElem?_eq_getElem hjl, HKV.out]
         simpa using hJ4
        case measure => simp [intOf]; omega
      · go_ret
        refine .inr ⟨rfl, (b, true) :: ((ks.take j).flatMap E ++ q), ?_, by simpa using hx4⟩
        rw [HSP.out]
        obtain ⟨r, hr'⟩ := hq
        refine ⟨r ++ ((ks.drop (j + 1)).flatMap E ++ [(b, false)]), ?_⟩
        simp [← hr']
    · obtain rfl : j = ks.length := by omega
      rw [List.take_length] at hJr
      obtain ⟨fn, tmps, assign, body, hy, hR⟩ := hY (nn - 1) _ (b, false) wr hJr (by simp only [List.length_append, List.length_cons]; omega)
      unfold encE at hy
      dsimp only at hy
      gi_wp2
      refine ⟨hdd _, ?_⟩
      refine hR.mono ?_
      clear hR hy
      rintro e W4 (⟨rfl, hJ4, hb4⟩ | ⟨rfl, hx4⟩)
      · gi_wp2
        go_ret
        exact .inl ⟨rfl, by simpa using hJ4, hbr.trans hb4⟩
      · gi_wp2
        go_ret
        exact .inr ⟨rfl, _, List.prefix_refl _, by simpa using hx4⟩
 · gi_wp2
   go_ret
   exact .inr ⟨rfl, [(b, true)], ⟨_, rfl⟩, hx3⟩
theorem down_in {W0 : World} {n₀ tb n gn gl gk gf : Nat} {O : List Nat} {P : Nat → List Nat} {L V : List (Option Nat)} (g : GrOk n O P) (h : TreeD W0 n₀ tb n O P gn gl gk gf L V) (hn : n ≤ 64) (l N : Nat) (J Jx : List (Nat × Bool) → World → Prop)
 (hY : ∀ m pre x W, J pre W → pre.length < N → YieldAt Fence.wide m Tryz.prog l (encE x) W fun e W' => (e = .returned (.bool true) ∧ J (pre ++ [x]) W' ∧ Below n₀ W W') ∨ (e = .returned (.bool false) ∧ Jx (pre ++ [x]) W')) :
 ∀ (f b k : Nat), fnO V b = some k → b < n → n ≤ k + f + 1 → ∀ nn pre W, Below n₀ W0 W → J pre W → pre.length + (evT (kidsOf n L) f b).length ≤ N →
  CallsIn Fence.wide nn Tryz.prog 61 #[.pointer (some ⟨tb, 0, none⟩), .int .i64 (b : Int), .func (.yield l) #[] #[]] W (StepPost n₀ J Jx pre (evT (kidsOf n L) f b) W)
 | 0, b, k, hk, hb, hf, nn, pre, W, hW, hJ, hN => by
  have h0 : kidsOf n L b = [] := by
   refine List.eq_nil_iff_forall_not_mem.2 fun j hj => ?_
   have h1 := (kid_lv h.near h.lv hk hj).1
   have := lv_lt g h.near h.lv h1
   omega
  have := down_walk h hn l N J Jx hY (fun _ => []) b hb (fun j hj => by rw [h0] at hj; cases hj) nn pre W hW hJ (by rw [h0]; exact hN)
  rw [h0] at this
  exact this
 | f + 1, b, k, hk, hb, hf, nn, pre, W, hW, hJ, hN =>
  down_walk h hn l N J Jx hY (evT (kidsOf n L) f) b hb (fun j hj nn pre W hW hJ hN => by
   have h1 := kid_lv h.near h.lv hk hj
   exact down_in g h hn l N J Jx hY f j (k + 1) h1.1 h1.2.2 ZO nn pre W hW hJ hN) nn pre W hW hJ hN
set_option maxHeartbeats 1000000 in
theorem steps_in {W0 : World} {n₀ tb n gn gl gk gf : Nat} {O : List Nat} {P : Nat → List Nat} {L V : List (Option Nat)} (g : GrOk n O P) (h : TreeD W0 n₀ tb n O P gn gl gk gf L V) (hn : n ≤ 64) (hn1 : 1 ≤ n) (l nn Bt : Nat) (J Jx : List (Nat × Bool) → World → Prop)
 (hY : ∀ pre x W, J pre W → pre.length < (evT (kidsOf n L) n 0).length → YieldAt Fence.wide (nn - 1) Tryz.prog l (encE x) W fun e W' => (e = .returned (.bool true) ∧ J (pre ++ [x]) W' ∧ Below n₀ W W') ∨ (e = .returned (.bool false) ∧ Jx (pre ++ [x]) W'))
 (W : World) (hW : Below n₀ W0 W) (hBt : W.cell? ⟨Bt, 0, none⟩ = some (.pointer (some ⟨tb, 0, none⟩))) (h0 : J [] W) :
 CallsIn Fence.wide nn Tryz.prog 60 #[.func (.yield l) #[] #[], .pointer (some ⟨Bt, 0, none⟩)] W fun e W' => (∃ v, e = .returned v) ∧ ((∃ ys, ys = evT (kidsOf n L) n 0 ∧ J ys W') ∨ (∃ pre, pre <+: evT (kidsOf n L) n 0 ∧ Jx pre W')) := by
 have hdd : ∀ k : Nat, (Fence.wide.depth.isSome = true → 1 ≤ k) := fun k h => by cases h
 have hp := down_in g h hn l (evT (kidsOf n L) n 0).length J Jx (fun m pre x W hj hl => YieldAt.deep m (hY pre x W hj hl)) n 0 0 h.lv.zero ZO ZO (nn - 1) [] W hW h0 ZS
 generalize evT (kidsOf n L) n 0 = ev at *
 refine callsIn_of_wp Tryz.func60 rfl trivial ?_ rfl
 simp only [Tryz.ntmps60, List.size_toArray, List.length_cons, List.length_nil, Nat.reduceAdd, Nat.reduceSub, Array.replicate_succ, Array.replicate_zero, List.push_toArray, List.append_toArray, List.nil_append, List.cons_append]
 gi_wp2_with ((first | refine ⟨trivial, hdd _, ?_⟩ | refine ⟨hdd _, ?_⟩ | skip); gi_at_call 61; refine hp.mono ?_; clear hp; unfold StepPost; rintro e W1 (⟨rfl, hJ1, _⟩ | ⟨rfl, q, hq, hx⟩))
 · go_end0
   exact ⟨⟨_, rfl⟩, .inl ⟨_, rfl, by simpa using hJ1⟩⟩
 · go_end0
   exact ⟨⟨_, rfl⟩, .inr ⟨q, hq, by simpa using hx⟩⟩
theorem stepsOf_calls {w : World} {p : Option Addr} :
 Calls Tryz.prog 22 #[.pointer p] w fun e w' => e = .returned (.func (.func 60) #[] #[.pointer (some ⟨w.heap.size, 0, none⟩)]) ∧ w' = w.alloc (.cells #[.pointer p] 35) := by
 go_enter Tryz.func22, Tryz.ntmps22
 go_wp2
 go_ret
 exact ⟨rfl, rfl⟩
theorem steps_stops {w : World} {n₀ tb n gn gl gk gf : Nat} {O : List Nat} {P : Nat → List Nat} {L V : List (Option Nat)} (g : GrOk n O P) (h : TreeD w n₀ tb n O P gn gl gk gf L V) (hn0 : n₀ ≤ w.heap.size) (hn : n ≤ 64) (hn1 : 1 ≤ n) (nn Bt : Nat) (hBt : Bt < w.heap.size) (hc : w.cell? ⟨Bt, 0, none⟩ = some (.pointer (some ⟨tb, 0, none⟩))) :
 SeqStopsK Fence.wide nn Tryz.prog 60 #[.pointer (some ⟨Bt, 0, none⟩)] encE (Below n₀) (fun ys => ys = evT (kidsOf n L) n 0) (fun pre => pre <+: evT (kidsOf n L) n 0) (evT (kidsOf n L) n 0).length w := fun l J Jx W hW _ _ hY h0 =>
 steps_in g h hn hn1 l nn Bt J Jx hY W (hW.mono hn0) ((hW.cell (p := ⟨Bt, 0, none⟩) hBt).trans hc) h0
end Go.Proofs.YtjdkcichkpolgaaGreatDoor
