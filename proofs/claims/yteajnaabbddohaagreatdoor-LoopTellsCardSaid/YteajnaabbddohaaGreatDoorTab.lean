/- The two tables of operations: the program's and the reference's. -/
import Derived.Test.YteajnaabbddohaaGreatDoorData
import Derived.Great.CaseRows
import Derived.Laws.CopyOwn
namespace Go.Proofs.YteajnaabbddohaaGreatDoor
open Go.RowKit

/-- the table of operations: word, what is taken, what is made. -/
def kindTab : List (List UInt8 × List UInt8 × List UInt8) :=
  [([99, 111, 110, 115, 116], [], [105]), ([99, 111, 112, 121], [105], [105]), ([97, 100, 100], [105, 105], [105]), ([115, 117, 98], [105, 105], [105]), ([109, 117, 108], [105, 105], [105]),
   ([100, 105, 118], [105, 105], [105]), ([114, 101, 109], [105, 105], [105]), ([101, 113], [105, 105], [98]), ([108, 116], [105, 105], [98]), ([108, 101], [105, 105], [98]),
   ([110, 111, 116], [98], [98]), ([97, 110, 100], [98, 98], [98]), ([108, 101, 110], [97], [105]), ([108, 111, 97, 100], [97, 105], [105]), ([115, 116, 111, 114, 101], [97, 105, 105], []),
   ([110, 101, 119], [105], [97]), ([110, 105, 108], [], [97]), ([111, 117, 116], [105], []), ([99, 104, 107, 105, 100, 120], [97, 105], []), ([99, 104, 107, 110, 105, 108], [97], []),
   ([99, 104, 107, 100, 105, 118], [105], []), ([99, 104, 107, 97, 100, 100], [105, 105], []), ([99, 104, 107, 115, 117, 98], [105, 105], []), ([99, 104, 107, 109, 117, 108], [105, 105], []),
   ([99, 104, 107, 108, 101, 110], [105], []), ([112, 105], [105, 105], [105]), ([112, 105, 108, 101, 110], [105, 97], [105])]
def kindAt (n : Nat) : List UInt8 × List UInt8 × List UInt8 := kindTab.getD n ([], [], [])
def bytesV (l : List UInt8) : Value := .string ⟨l.toArray⟩
def kindsArr : Array Value := (kindTab.flatMap fun k => [bytesV k.1, bytesV k.2.1, bytesV k.2.2]).toArray
def kindV (n : Nat) : Value := .agg #[bytesV (kindAt n).1, bytesV (kindAt n).2.1, bytesV (kindAt n).2.2]

set_option maxRecDepth 100000 in
set_option maxHeartbeats 1000000 in
theorem kinds_calls {w : World} : Calls Tryz.prog 178 #[] w fun e w' => e = .returned (.agg kindsArr) ∧ Below w.heap.size w w' := by
  go_enter Tryz.func178, Tryz.ntmps178
  go_wp2_with (first
    | (refine wpList_buildTo rfl 219 _ rfl (some 28) rfl kindsArr (by kernel_rfl) ?_)
    | (refine wpList_store_rowTo rfl 219 _ _ rfl rfl w.heap.size kindsArr rfl rfl 219 _ (heap_alloc_new _ _) (by kernel_rfl) (by kernel_rfl) (by kernel_rfl) ?_))
  refine bodyPost_ret (v := .agg kindsArr) (results_cell_row rfl _ _ w.heap.size 219 kindsArr (0, 0) _ rfl (setRow_heap _ _ _ _ _ _ (heap_alloc_new _ _)) Tryz.underlying219 rfl (by kernel_rfl)) rfl ⟨rfl, below_setRow ((Below.refl _ _).alloc (Nat.le_refl _) _) (Nat.le_refl _) _⟩

def rowVs : List Value := kindTab.map fun k => .agg #[bytesV k.1, bytesV k.2.1, bytesV k.2.2]
set_option maxRecDepth 100000 in
set_option maxHeartbeats 1000000 in
theorem rows_calls {w : World} : Calls Tryz.prog 83 #[] w fun e w' => e = .returned (.slice (some ⟨w.heap.size, 0, none⟩) 27 27) ∧ w' = w.alloc (.cells kindsArr 130) := by
  go_enter Tryz.func83, Tryz.ntmps83
  go_wp2_with (refine Go.Great.wpList_buildRows rfl 131 130 _ 3 rowVs rfl (fun i => i + 1) w.heap.size rfl (some 28) rfl Tryz.underlying131 (by kernel_rfl) (by kernel_rfl) (by decide) (by decide) (by decide) (by kernel_rfl) (by decide) (fun i h => ?hev) ?_)
  case hev =>
    have q : i < 27 := h
    iterate 27 (refine (Nat.lt_succ_iff_lt_or_eq.1 q).elim ?_ (by rintro rfl; rfl); clear q; intro q)
    exact absurd q (Nat.not_lt_zero _)
  go_ret
  exact ⟨rfl, rfl⟩
end Go.Proofs.YteajnaabbddohaaGreatDoor
