/- What a row lists of the library's tables, and what of it the walks ask. -/
import Derived.Test.YtenedeaiepjedaaDoorRows
import Derived.Test.YtenedeaiepjedaaDoorTie
import Derived.Test.YtenedeaiepjedaaDoorRead
import Derived.PinnedBridge
import Derived.Lay
import Derived.Lib.LaidRTab
import Derived.SizedLaws
namespace Go.Proofs.YtenedeaiepjedaaDoor
open Go.RowKit Go.Lib Go.Proofs
set_option maxRecDepth 100000

theorem own : ownKnob (Tryd.prog).godebug = none := by kernel_rfl
theorem laidOut : laidOutB Tryd.prog = true := by kernel_rfl
theorem xL : RExtra Tryd.prog Tryd.lays261_ren := ⟨by kernel_rfl, by kernel_rfl, by kernel_rfl, by kernel_rfl, by kernel_rfl, by kernel_rfl, by kernel_rfl, by kernel_rfl⟩
def laidL : List (String × DataW Unit) := [("unicode.properties", Rows.laid_unicode_properties), ("unicode.Letter", Rows.laid_unicode_Letter)]
theorem props_eq : (Rows.laid_unicode_properties : DataW Unit) = Lib.tabData .u8 Lib.propertiesTab := by kernel_rfl
theorem uni_of_laid {W : World} (h : laidMet Tryd.prog laidL W) : Uni W := by
  refine ⟨?_, ?_⟩
  · refine Lib.tabIs_of_head (g := 0) (t := 125) (e := 5) (n := 256) (rest := [("unicode.Letter", Rows.laid_unicode_Letter)]) (by kernel_rfl) (by kernel_rfl) Tryd.underlying125 Tryd.underlying5 (by kernel_rfl) (by kernel_rfl) ?_
    rw [← props_eq]
    exact h
  · exact rvar_of_reads (P := Tryd.prog) (ρ := Tryd.lays261_ren) Tryd.lays261 xL (by kernel_rfl) (by kernel_rfl) (by
      have := Lib.laidMet.reads h (n := "unicode.Letter") (d := Rows.laid_unicode_Letter) (.tail _ (.head _))
      rw [show Rows.laid_unicode_Letter = rtabData letterT from Pinned.letter_eq] at this
      exact this)
theorem laid_met (os : Os) (args : Array Value) : laidMet Tryd.prog laidL ((World.laidAll Tryd.prog os laidL).forCall (fun _ _ => 0) ⟨#[], args, []⟩).memory := laidMet_laidAll args (by kernel_rfl) (by kernel_rfl)
end Go.Proofs.YtenedeaiepjedaaDoor
