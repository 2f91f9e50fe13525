/-
  DERIVED. GIVEN WITH THE SEED: THE CARDS: each row of YtjboifobjggbbaaGreatDoorRows.lean that lists a variable, with what it lists TIED to the program's text (the seventh form; the later family's looks); each row that meets fmt, with fmt's text TOLD by the authors' own Lean function (tested against real Go, not proved from fmt's source: count such statements apart). THE CARD IS WHAT COUNTS. Prove the row's statement (the work); the ties are given (YtjboifobjggbbaaGreatDoorTie.lean); close each card by the builder's one call (the guide's Derived/Test/ToyasCard.lean, 'card_holds'). Laid BY PROGRAM, IN A SANDBOX (cutbox-door.mjs). By AI agents, Wed Nov 11 2026. No macro, syntax, notation, axiom, sorry.
-/
import Derived.Test.YtjboifobjggbbaaGreatDoorRows
import GoSem.ClaimSeven
namespace Go.Proofs.YtjboifobjggbbaaGreatDoor
namespace Rows

/-- THE TIED CARD OF 'checkreinlaw10.GraphPrunes'. -/
def graphPrunesCard : Claim7 := { stood := { row := graphPrunesRow, standIns := [], harness := (true, "23d6a9c11beed8fcfe47406f231cde2d69c5a300eb3c4447d074e4df54312f0c"), looks := false }, kinds := [], alts := [], laidByText := true, laidKinds := [.data, .pinned], laidTests := true, laidLooks := .later }
def GraphPrunesCardSaid : Prop := Claim7.holds Tryz.pinned (.plain (OpenSpec.ofChange graphPrunesSpec)) graphPrunesCard

/-- THE TIED CARD OF 'checkreinlaw10.GraphRuns'. -/
def graphRunsCard : Claim7 := { stood := { row := graphRunsRow, standIns := [], harness := (true, "23d6a9c11beed8fcfe47406f231cde2d69c5a300eb3c4447d074e4df54312f0c"), looks := false }, kinds := [], alts := [], laidByText := true, laidKinds := [.data, .pinned], laidTests := true, laidLooks := .later }
def GraphRunsCardSaid : Prop := Claim7.holds Tryz.pinned (.plain (OpenSpec.ofChange graphRunsSpec)) graphRunsCard

/-- THE TIED CARD OF 'checkreinlaw11.DomSteps'. -/
def domStepsCard : Claim7 := { stood := { row := domStepsRow, standIns := [], harness := (true, "23d6a9c11beed8fcfe47406f231cde2d69c5a300eb3c4447d074e4df54312f0c"), looks := false }, kinds := [], alts := [], laidByText := true, laidKinds := [.data, .pinned], laidTests := true, laidLooks := .later }
def DomStepsCardSaid : Prop := Claim7.holds Tryz.pinned (.plain (OpenSpec.ofChange domStepsSpec)) domStepsCard

/-- THE TIED CARD OF 'checkreinlaw13.EdgeTells'. -/
def edgeTellsCard : Claim7 := { stood := { row := edgeTellsRow, standIns := [], harness := (true, "23d6a9c11beed8fcfe47406f231cde2d69c5a300eb3c4447d074e4df54312f0c"), looks := false }, kinds := [], alts := [], laidByText := true, laidKinds := [.data, .data, .data, .data, .pinned], laidTests := true, laidLooks := .later }
def EdgeTellsCardSaid : Prop := Claim7.holds Tryz.pinned (.plain (OpenSpec.ofChange edgeTellsSpec)) edgeTellsCard

/-- THE TIED CARD OF 'checkreinlaw13.EdgeSplits'. -/
def edgeSplitsCard : Claim7 := { stood := { row := edgeSplitsRow, standIns := [], harness := (true, "23d6a9c11beed8fcfe47406f231cde2d69c5a300eb3c4447d074e4df54312f0c"), looks := false }, kinds := [], alts := [], laidByText := true, laidKinds := [.data, .data, .data, .data, .pinned], laidTests := true, laidLooks := .later }
def EdgeSplitsCardSaid : Prop := Claim7.holds Tryz.pinned (.plain (OpenSpec.ofChange edgeSplitsSpec)) edgeSplitsCard

/-- THE TIED CARD OF 'checkreinlaw33.TidyTells'. -/
def tidyTellsCard : Claim7 := { stood := { row := tidyTellsRow, standIns := [], harness := (true, "23d6a9c11beed8fcfe47406f231cde2d69c5a300eb3c4447d074e4df54312f0c"), looks := false }, kinds := [], alts := [], laidByText := true, laidKinds := [.data, .pinned], laidTests := true, laidLooks := .later }
def TidyTellsCardSaid : Prop := Claim7.holds Tryz.pinned (.plain (OpenSpec.ofChange tidyTellsSpec)) tidyTellsCard

/-- THE SECOND FORM's CARD OF 'checkreinlaw10.GraphPrunes'. -/
def graphPrunesUptoCard : Claim7 := { stood := { row := graphPrunesUptoRow, standIns := [], harness := (true, "23d6a9c11beed8fcfe47406f231cde2d69c5a300eb3c4447d074e4df54312f0c"), looks := false }, kinds := [], alts := [], laidByText := true, laidKinds := [.data, .pinned], laidTests := true, laidLooks := .later }
def GraphPrunesUptoCardSaid : Prop := Claim7.holds Tryz.pinned (.plain (OpenSpec.upto graphPrunesSpec)) graphPrunesUptoCard

/-- THE SECOND FORM's CARD OF 'checkreinlaw10.GraphRuns'. -/
def graphRunsUptoCard : Claim7 := { stood := { row := graphRunsUptoRow, standIns := [], harness := (true, "23d6a9c11beed8fcfe47406f231cde2d69c5a300eb3c4447d074e4df54312f0c"), looks := false }, kinds := [], alts := [], laidByText := true, laidKinds := [.data, .pinned], laidTests := true, laidLooks := .later }
def GraphRunsUptoCardSaid : Prop := Claim7.holds Tryz.pinned (.plain (OpenSpec.upto graphRunsSpec)) graphRunsUptoCard

/-- THE SECOND FORM's CARD OF 'checkreinlaw11.DomSteps'. -/
def domStepsUptoCard : Claim7 := { stood := { row := domStepsUptoRow, standIns := [], harness := (true, "23d6a9c11beed8fcfe47406f231cde2d69c5a300eb3c4447d074e4df54312f0c"), looks := false }, kinds := [], alts := [], laidByText := true, laidKinds := [.data, .pinned], laidTests := true, laidLooks := .later }
def DomStepsUptoCardSaid : Prop := Claim7.holds Tryz.pinned (.plain (OpenSpec.upto domStepsSpec)) domStepsUptoCard

/-- THE SECOND FORM's CARD OF 'checkreinlaw13.EdgeTells'. -/
def edgeTellsUptoCard : Claim7 := { stood := { row := edgeTellsUptoRow, standIns := [], harness := (true, "23d6a9c11beed8fcfe47406f231cde2d69c5a300eb3c4447d074e4df54312f0c"), looks := false }, kinds := [], alts := [], laidByText := true, laidKinds := [.data, .data, .data, .data, .pinned], laidTests := true, laidLooks := .later }
def EdgeTellsUptoCardSaid : Prop := Claim7.holds Tryz.pinned (.plain (OpenSpec.upto edgeTellsSpec)) edgeTellsUptoCard

/-- THE SECOND FORM's CARD OF 'checkreinlaw13.EdgeSplits'. -/
def edgeSplitsUptoCard : Claim7 := { stood := { row := edgeSplitsUptoRow, standIns := [], harness := (true, "23d6a9c11beed8fcfe47406f231cde2d69c5a300eb3c4447d074e4df54312f0c"), looks := false }, kinds := [], alts := [], laidByText := true, laidKinds := [.data, .data, .data, .data, .pinned], laidTests := true, laidLooks := .later }
def EdgeSplitsUptoCardSaid : Prop := Claim7.holds Tryz.pinned (.plain (OpenSpec.upto edgeSplitsSpec)) edgeSplitsUptoCard

/-- THE SECOND FORM's CARD OF 'checkreinlaw33.TidyTells'. -/
def tidyTellsUptoCard : Claim7 := { stood := { row := tidyTellsUptoRow, standIns := [], harness := (true, "23d6a9c11beed8fcfe47406f231cde2d69c5a300eb3c4447d074e4df54312f0c"), looks := false }, kinds := [], alts := [], laidByText := true, laidKinds := [.data, .pinned], laidTests := true, laidLooks := .later }
def TidyTellsUptoCardSaid : Prop := Claim7.holds Tryz.pinned (.plain (OpenSpec.upto tidyTellsSpec)) tidyTellsUptoCard
end Rows
end Go.Proofs.YtjboifobjggbbaaGreatDoor
