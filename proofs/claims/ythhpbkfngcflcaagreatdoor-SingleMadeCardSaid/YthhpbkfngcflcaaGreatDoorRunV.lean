/- What a run went through (plain law of DomRuns): each block that is not seen is avoided by the way so far. -/
import Derived.Test.YthhpbkfngcflcaaGreatDoorRunS
import Derived.Test.YthhpbkfngcflcaaGreatDoorNew
namespace Go.Proofs.YthhpbkfngcflcaaGreatDoor
open Go.RowKit
set_option maxRecDepth 100000
section
variable {F : PFunc} {seen : List Bool} {a b c : Nat}
theorem runOR0 (h : typedP F = true) : 0 ∈ OR F := by
 obtain ⟨r, hr⟩ := (gr_of h).hd
 rw [hr]
 simp
theorem runORs (h : typedP F = true) (hb : b ∈ OR F) (hc : c ∈ EN F b) : c ∈ OR F :=
 (gr_of h).clo hb ((mem_PR h).2 ⟨(gr_of h).lt b hb, hc⟩)
structure VisI (F : PFunc) (seen : List Bool) (b : Nat) : Prop where
 len : seen.length = F.blocks.length
 mem : b ∈ OR F
 av : ∀ d, seen.getD d false = false → d ≠ b → Avoid (fun x y => x ∈ PR F y) d b
end
end Go.Proofs.YthhpbkfngcflcaaGreatDoor
