/- A tree of dom: a block and what is below it, in the order of a walk; the walk of Level. -/
import Derived.Test.YtjdkcichkpolgaaGreatDoorTreeVC
namespace Go.Proofs.YtjdkcichkpolgaaGreatDoor
open Go.RowKit
set_option maxRecDepth 100000
def pre (K : Nat → List Nat) : Nat → Nat → List Nat
 | 0, b => [b]
 | f + 1, b => b :: (K b).flatMap (pre K f)
theorem kidRow_nodup {L0 : List (Option Nat)} {p : Nat} : ∀ i, (kidRow L0 p i).Nodup
 | 0 => by simp [kidRow]
 | i + 1 => by
  have ih := kidRow_nodup (L0 := L0) (p := p) i
  have hi : i ∉ kidRow L0 p i := fun h => Nat.lt_irrefl _ (mem_kidRow.1 h).1
  rw [kidRow]
  split
  · rw [List.nodup_append]
    exact ⟨ih, ZS, fun a ha c hc e => hi (by rw [List.mem_singleton] at hc; subst hc; subst e; exact ha)⟩
  · exact ih
theorem pre_anc {n : Nat} {L : List (Option Nat)} : ∀ {f b x}, x ∈ pre (fun b => kidRow (L.set 0 none) b n) f b → Anc (fnO L) b x
 | 0, b, x, h => by
  rw [pre, List.mem_singleton] at h
  rw [h]; exact .refl
 | f + 1, b, x, h => by
  rw [pre, List.mem_cons, List.mem_flatMap] at h
  rcases h with rfl | ⟨k, hk, hx⟩
  · exact .refl
  · exact Anc.trans ((anc_up rfl).2 (.inr ⟨b, (mem_kidRow.1 hk).2, .refl⟩)) (pre_anc hx)
theorem pre_nodup {n : Nat} {O : List Nat} {P : Nat → List Nat} {L : List (Option Nat)} (t : NearOk n O P L) : ∀ f b, (pre (fun b => kidRow (L.set 0 none) b n) f b).Nodup
 | 0, b => by simp [pre]
 | f + 1, b => by
  rw [pre, List.nodup_cons]
  refine ⟨fun h => ?_, ?_⟩
  · obtain ⟨k, hk, hx⟩ := List.mem_flatMap.1 h
    exact anc_not t rfl (mem_kidRow.1 hk).2 (pre_anc hx)
  · unfold List.Nodup
    rw [List.pairwise_flatMap]
    refine ⟨fun k _ => pre_nodup t f k, ?_⟩
    refine (List.Pairwise.and_mem.1 (kidRow_nodup n)).imp ?_
    rintro k1 k2 ⟨h1, h2, hne⟩ x hx y hy rfl
    have a1 := pre_anc hx
    have a2 := pre_anc hy
    have key : ∀ {u v}, u ∈ kidRow (L.set 0 none) b n → v ∈ kidRow (L.set 0 none) b n → u ≠ v → ¬ Anc (fnO L) u v := fun hu hv huv ha => by
     rcases (anc_up (L := L) rfl).1 ha with e | ⟨q, hq, h⟩
     · exact huv e
     · rw [(mem_kidRow.1 hv).2] at hq
       cases hq
       exact anc_not t rfl (mem_kidRow.1 hu).2 h
    rcases Nat.le_total (pz n O k1) (pz n O k2) with hl | hl
    · exact key h1 h2 hne (t.tok.lin a1 a2 hl)
    · exact key h2 h1 hne.symm (t.tok.lin a2 a1 hl)
end Go.Proofs.YtjdkcichkpolgaaGreatDoor
namespace Go.Proofs.YtjdkcichkpolgaaGreatDoor
open Go.RowKit
set_option maxRecDepth 100000
def kidsOf (n : Nat) (L : List (Option Nat)) (b : Nat) : List Nat := kidRow (L.set 0 none) b n
theorem mem_kidsOf {n : Nat} {L : List (Option Nat)} {b k : Nat} : k ∈ kidsOf n L b ↔ k < n ∧ fnO (L.set 0 none) k = some b := mem_kidRow
theorem pre_lt {n : Nat} {L : List (Option Nat)} : ∀ {f b x : Nat}, b < n → x ∈ pre (kidsOf n L) f b → x < n
 | 0, b, x, hb, h => by
  rw [pre, List.mem_singleton] at h
  rw [h]; exact hb
 | f + 1, b, x, hb, h => by
  rw [pre, List.mem_cons, List.mem_flatMap] at h
  rcases h with rfl | ⟨k, hk, hx⟩
  · exact hb
  · exact pre_lt (mem_kidsOf.1 hk).1 hx
theorem pre_len {n : Nat} {O : List Nat} {P : Nat → List Nat} {L : List (Option Nat)} (t : NearOk n O P L) {f b : Nat} (hb : b < n) : (pre (kidsOf n L) f b).length ≤ n :=
 nodup_len n _ (pre_nodup t f b) fun _ hx => pre_lt hb hx
section
variable {n : Nat} {O : List Nat} {P : Nat → List Nat} {L V : List (Option Nat)} {b k : Nat}
open Classical in
theorem lv_lt (g : GrOk n O P) (t : NearOk n O P L) (l : LvOk (· ∈ O) (fnO L) (fnO V)) (hb : fnO V b = some k) : k < n := by
 have hO : b ∈ O := l.iff.1 (by rw [hb]; simp)
 have h1 := aboveN_eq t.tok l (fun b h => g.lt b h) k b hb
 have h2 := nodup_len n (b :: (List.range n).filter fun a => decide (a ≠ b ∧ Anc (fnO L) a b)) (by
  rw [List.nodup_cons]
  refine ⟨fun h => ?_, by unfold List.Nodup; exact List.Pairwise.filter _ List.nodup_range⟩
  have := (List.mem_filter.1 h).2
  simp at this) (fun x hx => by
  rcases List.mem_cons.1 hx with rfl | h
  · exact g.lt _ hO
  · exact List.mem_range.1 (List.mem_filter.1 h).1)
 unfold aboveN at h1
 rw [List.length_cons, h1] at h2
 omega
theorem kid_lv (t : NearOk n O P L) (l : LvOk (· ∈ O) (fnO L) (fnO V)) {j : Nat} (hb : fnO V b = some k) (hj : j ∈ kidsOf n L b) : fnO V j = some (k + 1) ∧ j ∈ O ∧ j < n := by
 have h1 := mem_kidsOf.1 hj
 have h0 : j ≠ 0 := fun e => by
  subst e
  have := h1.2
  by_cases hl : 0 < L.length
  · rw [fnO_set0 hl] at this; cases this
  · rw [t.len] at hl; omega
 have hN : fnO L j = some b := by rw [← fnO_ne h0]; exact h1.2
 obtain ⟨i, h3, h4⟩ := l.up' t.tok h0 hN
 rw [hb] at h3
 cases h3
 exact ⟨h4, (t.tok.up h0 hN).1, h1.1⟩
end
end Go.Proofs.YtjdkcichkpolgaaGreatDoor
namespace Go.Proofs.YtjdkcichkpolgaaGreatDoor
open Go.RowKit
set_option maxRecDepth 100000
section
variable {w : World} {tb n gn gl gk gf : Nat} {O : List Nat} {P : Nat → List Nat} {L V : List (Option Nat)}
theorem level_calls (g : GrOk n O P) (h : TreeD w w.heap.size tb n O P gn gl gk gf L V) (b : Nat) (hb : b < n) :
 Calls Tryz.prog 24 #[.pointer (some ⟨tb, 0, none⟩), .int .i64 (b : Int)] w fun e w' => (∃ k : Nat, (b ∈ O ∧ fnO V b = some k ∧ e = .returned (.tuple #[.int .i64 (k : Int), .bool true])) ∨ (b ∉ O ∧ k = 0 ∧ e = .returned (.tuple #[.int .i64 0, .bool false]))) ∧ w' = w := by
 have h1 := tHas_calls g h (b : Int)
 rw [inO_nat] at h1
 by_cases hO : b ∈ O
 · rw [decide_eq_true hO] at h1
   obtain ⟨k, hv⟩ : ∃ k, fnO V b = some k := by
    cases hv : fnO V b with
    | none => exact absurd hv (h.lv.iff.2 hO)
    | some k => exact ⟨k, rfl⟩
   have ht := h.ht
   have c1 := h.c1
   have hgl := h.gl_
   have hc := h.rl b hb
   rw [hv] at hc
   replace hc : w.cell? ⟨gl, b, none⟩ = some (.int .i64 (k : Int)) := hc
   have HO := Lib.hid hO
   have HV := Lib.hid hv
   clear hO hv
   go_enter Tryz.func24, Tryz.ntmps24
   go_wp2_with fail
   refine h1.mono ?_
   rintro e w1 ⟨rfl, hw1⟩
   subst w1
   go_wp2
   go_ret2
   exact ⟨⟨k, .inl ⟨HO.out, HV.out, rfl⟩⟩, rfl⟩
 · rw [decide_eq_false hO] at h1
   have HO := Lib.hid hO
   clear hO
   go_enter Tryz.func24, Tryz.ntmps24
   go_wp2_with fail
   refine h1.mono ?_
   rintro e w1 ⟨rfl, hw1⟩
   subst w1
   go_wp2
   go_ret2
   exact ⟨⟨0, .inr ⟨HO.out, rfl, rfl⟩⟩, rfl⟩
end
end Go.Proofs.YtjdkcichkpolgaaGreatDoor
