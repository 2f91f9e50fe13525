/- What a row lists of the library's tables, and what of it the walks ask. -/
import Derived.Test.YtjijlmddalbkbaaGreatDoorRows
import Derived.Test.YtjijlmddalbkbaaGreatDoorTie
import Derived.Test.YtjijlmddalbkbaaGreatDoorRead
import Derived.PinnedBridge
import Derived.Lay
import Derived.Lib.LaidRTab
import Derived.SizedLaws
namespace Go.Proofs.YtjijlmddalbkbaaGreatDoor
open Go.RowKit Go.Lib Go.Proofs
set_option maxRecDepth 100000

theorem own : ownKnob (Tryz.prog).godebug = none := by kernel_rfl
theorem laidOut : laidOutB Tryz.prog = true := by kernel_rfl
theorem xL : RExtra Tryz.prog Tryz.lays261_ren := ⟨by kernel_rfl, by kernel_rfl, by kernel_rfl, by kernel_rfl, by kernel_rfl, by kernel_rfl, by kernel_rfl, by kernel_rfl⟩
def laidL : List (String × DataW Unit) := [("unicode.properties", Rows.laid_unicode_properties), ("unicode.Letter", Rows.laid_unicode_Letter)]
theorem props_eq : (Rows.laid_unicode_properties : DataW Unit) = Lib.tabData .u8 Lib.propertiesTab := by kernel_rfl
theorem uni_of_laid {W : World} (h : laidMet Tryz.prog laidL W) : Uni W := by
  refine ⟨?_, ?_⟩
  · refine Lib.tabIs_of_head (g := 0) (t := 173) (e := 5) (n := 256) (rest := [("unicode.Letter", Rows.laid_unicode_Letter)]) (by kernel_rfl) (by kernel_rfl) Tryz.underlying173 Tryz.underlying5 (by kernel_rfl) (by kernel_rfl) ?_
    rw [← props_eq]
    exact h
  · exact rvar_of_reads (P := Tryz.prog) (ρ := Tryz.lays261_ren) Tryz.lays261 xL (by kernel_rfl) (by kernel_rfl) (by
      have := Lib.laidMet.reads h (n := "unicode.Letter") (d := Rows.laid_unicode_Letter) (.tail _ (.head _))
      rw [show Rows.laid_unicode_Letter = rtabData letterT from Pinned.letter_eq] at this
      exact this)
theorem laid_met (os : Os) (args : Array Value) : laidMet Tryz.prog laidL ((World.laidAll Tryz.prog os laidL).forCall (fun _ _ => 0) ⟨#[], args, []⟩).memory := laidMet_laidAll args (by kernel_rfl) (by kernel_rfl)
end Go.Proofs.YtjijlmddalbkbaaGreatDoor
