/-
  DERIVED. GIVEN WITH THE SEED: THE CARDS: each row of YteajnaabbddohaaGreatDoorRows.lean that lists a variable, with what it lists TIED to the program's text (the seventh form; the later family's looks); each row that meets fmt, with fmt's text TOLD by the authors' own Lean function (tested against real Go, not proved from fmt's source: count such statements apart). THE CARD IS WHAT COUNTS. Prove the row's statement (the work); the ties are given (YteajnaabbddohaaGreatDoorTie.lean); close each card by the builder's one call (the guide's Derived/Test/ToyasCard.lean, 'card_holds'). Laid BY PROGRAM, IN A SANDBOX (cutbox-door.mjs). By AI agents, Wed Nov 11 2026. No macro, syntax, notation, axiom, sorry.
-/
import Derived.Test.YteajnaabbddohaaGreatDoorRows
import GoSem.ClaimSeven
namespace Go.Proofs.YteajnaabbddohaaGreatDoor
namespace Rows

/-- THE TIED CARD OF 'checkreinlaw12.LoopReduces'. -/
def loopReducesCard : Claim7 := { stood := { row := loopReducesRow, standIns := [], harness := (true, "3b3695097a2be40df3336eeb8c37388cbd7230946e990806db7db533bc509e8d"), looks := false }, kinds := [], alts := [], laidByText := true, laidKinds := [.data, .pinned], laidTests := true, laidLooks := .later }
def LoopReducesCardSaid : Prop := Claim7.holds Tryz.pinned (.plain (OpenSpec.ofChange loopReducesSpec)) loopReducesCard

/-- THE TIED CARD OF 'checkreinlaw12.LoopNests'. -/
def loopNestsCard : Claim7 := { stood := { row := loopNestsRow, standIns := [], harness := (true, "3b3695097a2be40df3336eeb8c37388cbd7230946e990806db7db533bc509e8d"), looks := false }, kinds := [], alts := [], laidByText := true, laidKinds := [.data, .pinned], laidTests := true, laidLooks := .later }
def LoopNestsCardSaid : Prop := Claim7.holds Tryz.pinned (.plain (OpenSpec.ofChange loopNestsSpec)) loopNestsCard

/-- THE TIED CARD OF 'checkreinlaw12.LoopEnters'. -/
def loopEntersCard : Claim7 := { stood := { row := loopEntersRow, standIns := [], harness := (true, "3b3695097a2be40df3336eeb8c37388cbd7230946e990806db7db533bc509e8d"), looks := false }, kinds := [], alts := [], laidByText := true, laidKinds := [.data, .pinned], laidTests := true, laidLooks := .later }
def LoopEntersCardSaid : Prop := Claim7.holds Tryz.pinned (.plain (OpenSpec.ofChange loopEntersSpec)) loopEntersCard

/-- THE TIED CARD OF 'checkreinlaw12.LoopTells'. -/
def loopTellsCard : Claim7 := { stood := { row := loopTellsRow, standIns := [], harness := (true, "3b3695097a2be40df3336eeb8c37388cbd7230946e990806db7db533bc509e8d"), looks := false }, kinds := [], alts := [], laidByText := true, laidKinds := [.data, .pinned], laidTests := true, laidLooks := .later }
def LoopTellsCardSaid : Prop := Claim7.holds Tryz.pinned (.plain (OpenSpec.ofChange loopTellsSpec)) loopTellsCard

/-- THE TIED CARD OF 'checkreinlaw12.LoopDeep'. -/
def loopDeepCard : Claim7 := { stood := { row := loopDeepRow, standIns := [], harness := (true, "3b3695097a2be40df3336eeb8c37388cbd7230946e990806db7db533bc509e8d"), looks := false }, kinds := [], alts := [], laidByText := true, laidKinds := [.data, .pinned], laidTests := true, laidLooks := .later }
def LoopDeepCardSaid : Prop := Claim7.holds Tryz.pinned (.plain (OpenSpec.ofChange loopDeepSpec)) loopDeepCard

/-- THE TIED CARD OF 'checkreinlaw11.DomRuns'. -/
def domRunsCard : Claim7 := { stood := { row := domRunsRow, standIns := [], harness := (true, "3b3695097a2be40df3336eeb8c37388cbd7230946e990806db7db533bc509e8d"), looks := false }, kinds := [], alts := [], laidByText := true, laidKinds := [.data, .pinned], laidTests := true, laidLooks := .later }
def DomRunsCardSaid : Prop := Claim7.holds Tryz.pinned (.plain (OpenSpec.ofChange domRunsSpec)) domRunsCard

/-- THE TIED CARD OF 'checkreinlaw16.SingleMade'. -/
def singleMadeCard : Claim7 := { stood := { row := singleMadeRow, standIns := [], harness := (true, "3b3695097a2be40df3336eeb8c37388cbd7230946e990806db7db533bc509e8d"), looks := false }, kinds := [], alts := [], laidByText := true, laidKinds := [.data, .pinned], laidTests := true, laidLooks := .later }
def SingleMadeCardSaid : Prop := Claim7.holds Tryz.pinned (.plain (OpenSpec.ofChange singleMadeSpec)) singleMadeCard

/-- THE SECOND FORM's CARD OF 'checkreinlaw12.LoopReduces'. -/
def loopReducesUptoCard : Claim7 := { stood := { row := loopReducesUptoRow, standIns := [], harness := (true, "3b3695097a2be40df3336eeb8c37388cbd7230946e990806db7db533bc509e8d"), looks := false }, kinds := [], alts := [], laidByText := true, laidKinds := [.data, .pinned], laidTests := true, laidLooks := .later }
def LoopReducesUptoCardSaid : Prop := Claim7.holds Tryz.pinned (.plain (OpenSpec.upto loopReducesSpec)) loopReducesUptoCard

/-- THE SECOND FORM's CARD OF 'checkreinlaw12.LoopNests'. -/
def loopNestsUptoCard : Claim7 := { stood := { row := loopNestsUptoRow, standIns := [], harness := (true, "3b3695097a2be40df3336eeb8c37388cbd7230946e990806db7db533bc509e8d"), looks := false }, kinds := [], alts := [], laidByText := true, laidKinds := [.data, .pinned], laidTests := true, laidLooks := .later }
def LoopNestsUptoCardSaid : Prop := Claim7.holds Tryz.pinned (.plain (OpenSpec.upto loopNestsSpec)) loopNestsUptoCard

/-- THE SECOND FORM's CARD OF 'checkreinlaw12.LoopEnters'. -/
def loopEntersUptoCard : Claim7 := { stood := { row := loopEntersUptoRow, standIns := [], harness := (true, "3b3695097a2be40df3336eeb8c37388cbd7230946e990806db7db533bc509e8d"), looks := false }, kinds := [], alts := [], laidByText := true, laidKinds := [.data, .pinned], laidTests := true, laidLooks := .later }
def LoopEntersUptoCardSaid : Prop := Claim7.holds Tryz.pinned (.plain (OpenSpec.upto loopEntersSpec)) loopEntersUptoCard

/-- THE SECOND FORM's CARD OF 'checkreinlaw12.LoopTells'. -/
def loopTellsUptoCard : Claim7 := { stood := { row := loopTellsUptoRow, standIns := [], harness := (true, "3b3695097a2be40df3336eeb8c37388cbd7230946e990806db7db533bc509e8d"), looks := false }, kinds := [], alts := [], laidByText := true, laidKinds := [.data, .pinned], laidTests := true, laidLooks := .later }
def LoopTellsUptoCardSaid : Prop := Claim7.holds Tryz.pinned (.plain (OpenSpec.upto loopTellsSpec)) loopTellsUptoCard

/-- THE SECOND FORM's CARD OF 'checkreinlaw12.LoopDeep'. -/
def loopDeepUptoCard : Claim7 := { stood := { row := loopDeepUptoRow, standIns := [], harness := (true, "3b3695097a2be40df3336eeb8c37388cbd7230946e990806db7db533bc509e8d"), looks := false }, kinds := [], alts := [], laidByText := true, laidKinds := [.data, .pinned], laidTests := true, laidLooks := .later }
def LoopDeepUptoCardSaid : Prop := Claim7.holds Tryz.pinned (.plain (OpenSpec.upto loopDeepSpec)) loopDeepUptoCard

/-- THE SECOND FORM's CARD OF 'checkreinlaw11.DomRuns'. -/
def domRunsUptoCard : Claim7 := { stood := { row := domRunsUptoRow, standIns := [], harness := (true, "3b3695097a2be40df3336eeb8c37388cbd7230946e990806db7db533bc509e8d"), looks := false }, kinds := [], alts := [], laidByText := true, laidKinds := [.data, .pinned], laidTests := true, laidLooks := .later }
def DomRunsUptoCardSaid : Prop := Claim7.holds Tryz.pinned (.plain (OpenSpec.upto domRunsSpec)) domRunsUptoCard

/-- THE SECOND FORM's CARD OF 'checkreinlaw16.SingleMade'. -/
def singleMadeUptoCard : Claim7 := { stood := { row := singleMadeUptoRow, standIns := [], harness := (true, "3b3695097a2be40df3336eeb8c37388cbd7230946e990806db7db533bc509e8d"), looks := false }, kinds := [], alts := [], laidByText := true, laidKinds := [.data, .pinned], laidTests := true, laidLooks := .later }
def SingleMadeUptoCardSaid : Prop := Claim7.holds Tryz.pinned (.plain (OpenSpec.upto singleMadeSpec)) singleMadeUptoCard
end Rows
end Go.Proofs.YteajnaabbddohaaGreatDoor
