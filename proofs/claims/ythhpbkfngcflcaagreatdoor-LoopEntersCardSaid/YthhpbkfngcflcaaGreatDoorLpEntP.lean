/- A run comes into a loop by its head alone, and leaves it by its exits alone (plain law of LoopEnters). No program's code in sight. -/
import Derived.Test.YthhpbkfngcflcaaGreatDoorLpRd
namespace Go.Proofs.YthhpbkfngcflcaaGreatDoor
open Go.RowKit
set_option maxRecDepth 100000
section
variable {F : PFunc} {b c h : Nat}
theorem ent_in (hT : typedP F = true) (hb : b ∈ OR F) (hc : c ∈ EN F b) (hbn : b < F.blocks.length) (hcn : c < F.blocks.length) (h1 : inR F h b = false) (h2 : inR F h c = true) : c = h := by
 rcases Nat.decEq c h with e | e
 · exfalso
   have h3 := lp_back ((inR_iff hcn).1 h2) e ((mem_PR hT).2 ⟨hbn, hc⟩) hb
   rw [(inR_iff hbn).2 h3] at h1
   cases h1
 · exact e
theorem ent_out (hh : h ∈ headsL F F.blocks.length) (hc : c ∈ EN F b) (hbn : b < F.blocks.length) (hcn : c < F.blocks.length) (h1 : inR F h b = true) (h2 : inR F h c = false) :
 ((b : Int), (c : Int)) ∈ sortQ (outL F (headB F (h : Int)) (h : Int) (bodyL F (headB F (h : Int)) (h : Int) F.blocks.length)) := by
 have hd : headB F (h : Int) = true := headB_nat.2 hh
 have hm : ((b : Int), (c : Int)) ∈ outL F (headB F (h : Int)) (h : Int) (bodyL F (headB F (h : Int)) (h : Int) F.blocks.length) := by
  unfold outL
  rw [List.mem_flatMap]
  refine ⟨b, ?_, ?_⟩
  · rw [hd, bodyL_filt]
    exact List.mem_filter.2 ⟨List.mem_range.2 hbn, h1⟩
  · unfold outJ
    rw [List.take_length, List.mem_map]
    refine ⟨c, List.mem_filter.2 ⟨hc, ?_⟩, rfl⟩
    rw [lpB_nat hh hcn, h2]
    rfl
 unfold sortQ
 exact (List.mergeSort_perm _ _).symm.subset hm
end
end Go.Proofs.YthhpbkfngcflcaaGreatDoor
