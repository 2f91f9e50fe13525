/- What a run went through (plain law of DomRuns): each block that is not seen is avoided by the way so far. No program's code in sight. -/
import Derived.Test.YthhpbkfngcflcaaGreatDoorRunS
import Derived.Test.YthhpbkfngcflcaaGreatDoorNew
namespace Go.Proofs.YthhpbkfngcflcaaGreatDoor
open Go.RowKit
set_option maxRecDepth 100000
section
variable {F : PFunc} {seen : List Bool} {a b c : Nat}
theorem runOR0 (h : typedP F = true) : 0 ∈ OR F := by
 obtain ⟨r, hr⟩ := (gr_of h).hd
 rw [hr]
 simp
theorem runORs (h : typedP F = true) (hb : b ∈ OR F) (hc : c ∈ EN F b) : c ∈ OR F :=
 (gr_of h).clo hb ((mem_PR h).2 ⟨(gr_of h).lt b hb, hc⟩)
structure VisI (F : PFunc) (seen : List Bool) (b : Nat) : Prop where
 len : seen.length = F.blocks.length
 mem : b ∈ OR F
 av : ∀ d, seen.getD d false = false → d ≠ b → Avoid (fun x y => x ∈ PR F y) d b
theorem VisI.start (h : typedP F = true) : VisI F (List.replicate F.blocks.length false) 0 := ⟨ZS, runOR0 h, fun _ _ hd => .start hd⟩
theorem getD_setV {d : Nat} (h : (seen.set b true).getD d false = false) (hb : b < seen.length) : d ≠ b ∧ seen.getD d false = false := by
 by_cases e : d = b
 · subst e
   simp [List.getD_eq_getElem?_getD, List.getElem?_set_self hb] at h
 · refine ⟨e, ?_⟩
   rwa [List.getD_eq_getElem?_getD, List.getElem?_set_ne (fun x => e x.symm), ← List.getD_eq_getElem?_getD] at h
theorem VisI.mark (h : VisI F seen b) (hb : b < F.blocks.length) : VisI F (seen.set b true) b :=
 ⟨by simpa using h.len, h.mem, fun d hd hne => h.av d (getD_setV hd (by rw [h.len]; exact hb)).2 hne⟩
theorem VisI.seenT (h : VisI F seen b) (hb : b < F.blocks.length) : (seen.set b true).getD b false = true := by
 have := h.len
 simp [List.getD_eq_getElem?_getD, List.getElem?_set_self (show b < seen.length from ZO)]
theorem VisI.step (hT : typedP F = true) (h : VisI F seen b) (hs : seen.getD b false = true) (hc : c ∈ EN F b) : VisI F seen c :=
 ⟨h.len, runORs hT h.mem hc, fun d hd hne => .step (h.av d hd (fun e => by rw [e, hs] at hd; cases hd)) ((mem_PR hT).2 ⟨(gr_of hT).lt b h.mem, hc⟩) (fun e => hne e.symm)⟩
theorem VisI.over (h : VisI F seen b) (hs : seen.getD b false = true) (ha : tabB F a b = true) : seen.getD a false = true := by
 obtain ⟨-, -, h3⟩ := tabB_iff.1 ha
 rcases h3 with rfl | h3
 · exact hs
 · cases e : seen.getD a false
   · exact absurd (h.av a e (fun e2 => by rw [e2, hs] at e; cases e)) h3
   · rfl
theorem avoid0 {P : Nat → Nat → Prop} : ¬ Avoid P 0 b := fun h => by
 induction h with
 | start h => exact h rfl
 | step _ _ _ ih => exact ih
theorem VisI.first (hT : typedP F = true) (h : VisI F seen b) : tabB F 0 b = true := tabB_iff.2 ⟨runOR0 hT, h.mem, .inr avoid0⟩
end
end Go.Proofs.YthhpbkfngcflcaaGreatDoor
