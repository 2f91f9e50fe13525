/-
  DERIVED. GIVEN WITH THE SEED: THE CARDS: each row of YtjijlmddalbkbaaGreatDoorRows.lean that lists a variable, with what it lists TIED to the program's text (the seventh form; the later family's looks); each row that meets fmt, with fmt's text TOLD by the authors' own Lean function (tested against real Go, not proved from fmt's source: count such statements apart). THE CARD IS WHAT COUNTS. Prove the row's statement (the work); the ties are given (YtjijlmddalbkbaaGreatDoorTie.lean); close each card by the builder's one call (the guide's Derived/Test/ToyasCard.lean, 'card_holds'). Laid BY PROGRAM, IN A SANDBOX (cutbox-door.mjs). By AI agents, Wed Nov 11 2026. No macro, syntax, notation, axiom, sorry.
-/
import Derived.Test.YtjijlmddalbkbaaGreatDoorRows
import GoSem.ClaimSeven
namespace Go.Proofs.YtjijlmddalbkbaaGreatDoor
namespace Rows

/-- THE TIED CARD OF 'checkreinlaw10.GraphPrunes'. -/
def graphPrunesCard : Claim7 := { stood := { row := graphPrunesRow, standIns := [], harness := (true, "7d1b1e9cf08b91c57618a8d88d0c5a9de600171765773137ad89581fd06f1ff3"), looks := false }, kinds := [], alts := [], laidByText := true, laidKinds := [.data, .pinned], laidTests := true, laidLooks := .later }
def GraphPrunesCardSaid : Prop := Claim7.holds Tryz.pinned (.plain (OpenSpec.ofChange graphPrunesSpec)) graphPrunesCard

/-- THE TIED CARD OF 'checkreinlaw10.GraphRuns'. -/
def graphRunsCard : Claim7 := { stood := { row := graphRunsRow, standIns := [], harness := (true, "7d1b1e9cf08b91c57618a8d88d0c5a9de600171765773137ad89581fd06f1ff3"), looks := false }, kinds := [], alts := [], laidByText := true, laidKinds := [.data, .pinned], laidTests := true, laidLooks := .later }
def GraphRunsCardSaid : Prop := Claim7.holds Tryz.pinned (.plain (OpenSpec.ofChange graphRunsSpec)) graphRunsCard

/-- THE TIED CARD OF 'checkreinlaw11.DomFronts'. -/
def domFrontsCard : Claim7 := { stood := { row := domFrontsRow, standIns := [], harness := (true, "7d1b1e9cf08b91c57618a8d88d0c5a9de600171765773137ad89581fd06f1ff3"), looks := false }, kinds := [], alts := [], laidByText := true, laidKinds := [.data, .pinned], laidTests := true, laidLooks := .later }
def DomFrontsCardSaid : Prop := Claim7.holds Tryz.pinned (.plain (OpenSpec.ofChange domFrontsSpec)) domFrontsCard

/-- THE TIED CARD OF 'checkreinlaw11.DomRuns'. -/
def domRunsCard : Claim7 := { stood := { row := domRunsRow, standIns := [], harness := (true, "7d1b1e9cf08b91c57618a8d88d0c5a9de600171765773137ad89581fd06f1ff3"), looks := false }, kinds := [], alts := [], laidByText := true, laidKinds := [.data, .pinned], laidTests := true, laidLooks := .later }
def DomRunsCardSaid : Prop := Claim7.holds Tryz.pinned (.plain (OpenSpec.ofChange domRunsSpec)) domRunsCard

/-- THE TIED CARD OF 'checkreinlaw11.DomOver'. -/
def domOverCard : Claim7 := { stood := { row := domOverRow, standIns := [], harness := (true, "7d1b1e9cf08b91c57618a8d88d0c5a9de600171765773137ad89581fd06f1ff3"), looks := false }, kinds := [], alts := [], laidByText := true, laidKinds := [.data, .pinned], laidTests := true, laidLooks := .later }
def DomOverCardSaid : Prop := Claim7.holds Tryz.pinned (.plain (OpenSpec.ofChange domOverSpec)) domOverCard

/-- THE TIED CARD OF 'checkreinlaw11.DomSteps'. -/
def domStepsCard : Claim7 := { stood := { row := domStepsRow, standIns := [], harness := (true, "7d1b1e9cf08b91c57618a8d88d0c5a9de600171765773137ad89581fd06f1ff3"), looks := false }, kinds := [], alts := [], laidByText := true, laidKinds := [.data, .pinned], laidTests := true, laidLooks := .later }
def DomStepsCardSaid : Prop := Claim7.holds Tryz.pinned (.plain (OpenSpec.ofChange domStepsSpec)) domStepsCard

/-- THE TIED CARD OF 'checkreinlaw11.DomTree'. -/
def domTreeCard : Claim7 := { stood := { row := domTreeRow, standIns := [], harness := (true, "7d1b1e9cf08b91c57618a8d88d0c5a9de600171765773137ad89581fd06f1ff3"), looks := false }, kinds := [], alts := [], laidByText := true, laidKinds := [.data, .pinned], laidTests := true, laidLooks := .later }
def DomTreeCardSaid : Prop := Claim7.holds Tryz.pinned (.plain (OpenSpec.ofChange domTreeSpec)) domTreeCard

/-- THE SECOND FORM's CARD OF 'checkreinlaw10.GraphPrunes'. -/
def graphPrunesUptoCard : Claim7 := { stood := { row := graphPrunesUptoRow, standIns := [], harness := (true, "7d1b1e9cf08b91c57618a8d88d0c5a9de600171765773137ad89581fd06f1ff3"), looks := false }, kinds := [], alts := [], laidByText := true, laidKinds := [.data, .pinned], laidTests := true, laidLooks := .later }
def GraphPrunesUptoCardSaid : Prop := Claim7.holds Tryz.pinned (.plain (OpenSpec.upto graphPrunesSpec)) graphPrunesUptoCard

/-- THE SECOND FORM's CARD OF 'checkreinlaw10.GraphRuns'. -/
def graphRunsUptoCard : Claim7 := { stood := { row := graphRunsUptoRow, standIns := [], harness := (true, "7d1b1e9cf08b91c57618a8d88d0c5a9de600171765773137ad89581fd06f1ff3"), looks := false }, kinds := [], alts := [], laidByText := true, laidKinds := [.data, .pinned], laidTests := true, laidLooks := .later }
def GraphRunsUptoCardSaid : Prop := Claim7.holds Tryz.pinned (.plain (OpenSpec.upto graphRunsSpec)) graphRunsUptoCard

/-- THE SECOND FORM's CARD OF 'checkreinlaw11.DomFronts'. -/
def domFrontsUptoCard : Claim7 := { stood := { row := domFrontsUptoRow, standIns := [], harness := (true, "7d1b1e9cf08b91c57618a8d88d0c5a9de600171765773137ad89581fd06f1ff3"), looks := false }, kinds := [], alts := [], laidByText := true, laidKinds := [.data, .pinned], laidTests := true, laidLooks := .later }
def DomFrontsUptoCardSaid : Prop := Claim7.holds Tryz.pinned (.plain (OpenSpec.upto domFrontsSpec)) domFrontsUptoCard

/-- THE SECOND FORM's CARD OF 'checkreinlaw11.DomRuns'. -/
def domRunsUptoCard : Claim7 := { stood := { row := domRunsUptoRow, standIns := [], harness := (true, "7d1b1e9cf08b91c57618a8d88d0c5a9de600171765773137ad89581fd06f1ff3"), looks := false }, kinds := [], alts := [], laidByText := true, laidKinds := [.data, .pinned], laidTests := true, laidLooks := .later }
def DomRunsUptoCardSaid : Prop := Claim7.holds Tryz.pinned (.plain (OpenSpec.upto domRunsSpec)) domRunsUptoCard

/-- THE SECOND FORM's CARD OF 'checkreinlaw11.DomOver'. -/
def domOverUptoCard : Claim7 := { stood := { row := domOverUptoRow, standIns := [], harness := (true, "7d1b1e9cf08b91c57618a8d88d0c5a9de600171765773137ad89581fd06f1ff3"), looks := false }, kinds := [], alts := [], laidByText := true, laidKinds := [.data, .pinned], laidTests := true, laidLooks := .later }
def DomOverUptoCardSaid : Prop := Claim7.holds Tryz.pinned (.plain (OpenSpec.upto domOverSpec)) domOverUptoCard

/-- THE SECOND FORM's CARD OF 'checkreinlaw11.DomSteps'. -/
def domStepsUptoCard : Claim7 := { stood := { row := domStepsUptoRow, standIns := [], harness := (true, "7d1b1e9cf08b91c57618a8d88d0c5a9de600171765773137ad89581fd06f1ff3"), looks := false }, kinds := [], alts := [], laidByText := true, laidKinds := [.data, .pinned], laidTests := true, laidLooks := .later }
def DomStepsUptoCardSaid : Prop := Claim7.holds Tryz.pinned (.plain (OpenSpec.upto domStepsSpec)) domStepsUptoCard

/-- THE SECOND FORM's CARD OF 'checkreinlaw11.DomTree'. -/
def domTreeUptoCard : Claim7 := { stood := { row := domTreeUptoRow, standIns := [], harness := (true, "7d1b1e9cf08b91c57618a8d88d0c5a9de600171765773137ad89581fd06f1ff3"), looks := false }, kinds := [], alts := [], laidByText := true, laidKinds := [.data, .pinned], laidTests := true, laidLooks := .later }
def DomTreeUptoCardSaid : Prop := Claim7.holds Tryz.pinned (.plain (OpenSpec.upto domTreeSpec)) domTreeUptoCard
end Rows
end Go.Proofs.YtjijlmddalbkbaaGreatDoor
