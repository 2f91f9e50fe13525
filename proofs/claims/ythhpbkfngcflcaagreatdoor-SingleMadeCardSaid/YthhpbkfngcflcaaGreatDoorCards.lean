/-
  DERIVED. GIVEN WITH THE SEED: THE CARDS: each row of YthhpbkfngcflcaaGreatDoorRows.lean that lists a variable, with what it lists TIED to the program's text (the seventh form; the later family's looks); each row that meets fmt, with fmt's text TOLD by the authors' own Lean function (tested against real Go, not proved from fmt's source: count such statements apart). THE CARD IS WHAT COUNTS. Prove the row's statement (the work); the ties are given (YthhpbkfngcflcaaGreatDoorTie.lean); close each card by the builder's one call (the guide's Derived/Test/ToyasCard.lean, 'card_holds'). Laid BY PROGRAM, IN A SANDBOX (cutbox-door.mjs). By AI agents, Wed Nov 11 2026. No macro, syntax, notation, axiom, sorry.
-/
import Derived.Test.YthhpbkfngcflcaaGreatDoorRows
import GoSem.ClaimSeven
namespace Go.Proofs.YthhpbkfngcflcaaGreatDoor
namespace Rows

/-- THE TIED CARD OF 'checkreinlaw11.DomRuns'. -/
def domRunsCard : Claim7 := { stood := { row := domRunsRow, standIns := [], harness := (true, "6830f8dec294ebeae4073f70af917a91fce38eb4b8bc9f58f2047a3007a0c1b4"), looks := false }, kinds := [], alts := [], laidByText := true, laidKinds := [.data, .pinned], laidTests := true, laidLooks := .later }
def DomRunsCardSaid : Prop := Claim7.holds Tryz.pinned (.plain (OpenSpec.ofChange domRunsSpec)) domRunsCard

/-- THE TIED CARD OF 'checkreinlaw11.DomSteps'. -/
def domStepsCard : Claim7 := { stood := { row := domStepsRow, standIns := [], harness := (true, "6830f8dec294ebeae4073f70af917a91fce38eb4b8bc9f58f2047a3007a0c1b4"), looks := false }, kinds := [], alts := [], laidByText := true, laidKinds := [.data, .pinned], laidTests := true, laidLooks := .later }
def DomStepsCardSaid : Prop := Claim7.holds Tryz.pinned (.plain (OpenSpec.ofChange domStepsSpec)) domStepsCard

/-- THE TIED CARD OF 'checkreinlaw12.LoopEnters'. -/
def loopEntersCard : Claim7 := { stood := { row := loopEntersRow, standIns := [], harness := (true, "6830f8dec294ebeae4073f70af917a91fce38eb4b8bc9f58f2047a3007a0c1b4"), looks := false }, kinds := [], alts := [], laidByText := true, laidKinds := [.data, .pinned], laidTests := true, laidLooks := .later }
def LoopEntersCardSaid : Prop := Claim7.holds Tryz.pinned (.plain (OpenSpec.ofChange loopEntersSpec)) loopEntersCard

/-- THE TIED CARD OF 'checkreinlaw16.SingleMade'. -/
def singleMadeCard : Claim7 := { stood := { row := singleMadeRow, standIns := [], harness := (true, "6830f8dec294ebeae4073f70af917a91fce38eb4b8bc9f58f2047a3007a0c1b4"), looks := false }, kinds := [], alts := [], laidByText := true, laidKinds := [.data, .pinned], laidTests := true, laidLooks := .later }
def SingleMadeCardSaid : Prop := Claim7.holds Tryz.pinned (.plain (OpenSpec.ofChange singleMadeSpec)) singleMadeCard

/-- THE TIED CARD OF 'checkreinlaw10.GraphPrunes'. -/
def graphPrunesCard : Claim7 := { stood := { row := graphPrunesRow, standIns := [], harness := (true, "6830f8dec294ebeae4073f70af917a91fce38eb4b8bc9f58f2047a3007a0c1b4"), looks := false }, kinds := [], alts := [], laidByText := true, laidKinds := [.data, .pinned], laidTests := true, laidLooks := .later }
def GraphPrunesCardSaid : Prop := Claim7.holds Tryz.pinned (.plain (OpenSpec.ofChange graphPrunesSpec)) graphPrunesCard

/-- THE TIED CARD OF 'checkreinlaw10.GraphRuns'. -/
def graphRunsCard : Claim7 := { stood := { row := graphRunsRow, standIns := [], harness := (true, "6830f8dec294ebeae4073f70af917a91fce38eb4b8bc9f58f2047a3007a0c1b4"), looks := false }, kinds := [], alts := [], laidByText := true, laidKinds := [.data, .pinned], laidTests := true, laidLooks := .later }
def GraphRunsCardSaid : Prop := Claim7.holds Tryz.pinned (.plain (OpenSpec.ofChange graphRunsSpec)) graphRunsCard

/-- THE SECOND FORM's CARD OF 'checkreinlaw11.DomRuns'. -/
def domRunsUptoCard : Claim7 := { stood := { row := domRunsUptoRow, standIns := [], harness := (true, "6830f8dec294ebeae4073f70af917a91fce38eb4b8bc9f58f2047a3007a0c1b4"), looks := false }, kinds := [], alts := [], laidByText := true, laidKinds := [.data, .pinned], laidTests := true, laidLooks := .later }
def DomRunsUptoCardSaid : Prop := Claim7.holds Tryz.pinned (.plain (OpenSpec.upto domRunsSpec)) domRunsUptoCard

/-- THE SECOND FORM's CARD OF 'checkreinlaw11.DomSteps'. -/
def domStepsUptoCard : Claim7 := { stood := { row := domStepsUptoRow, standIns := [], harness := (true, "6830f8dec294ebeae4073f70af917a91fce38eb4b8bc9f58f2047a3007a0c1b4"), looks := false }, kinds := [], alts := [], laidByText := true, laidKinds := [.data, .pinned], laidTests := true, laidLooks := .later }
def DomStepsUptoCardSaid : Prop := Claim7.holds Tryz.pinned (.plain (OpenSpec.upto domStepsSpec)) domStepsUptoCard

/-- THE SECOND FORM's CARD OF 'checkreinlaw12.LoopEnters'. -/
def loopEntersUptoCard : Claim7 := { stood := { row := loopEntersUptoRow, standIns := [], harness := (true, "6830f8dec294ebeae4073f70af917a91fce38eb4b8bc9f58f2047a3007a0c1b4"), looks := false }, kinds := [], alts := [], laidByText := true, laidKinds := [.data, .pinned], laidTests := true, laidLooks := .later }
def LoopEntersUptoCardSaid : Prop := Claim7.holds Tryz.pinned (.plain (OpenSpec.upto loopEntersSpec)) loopEntersUptoCard

/-- THE SECOND FORM's CARD OF 'checkreinlaw16.SingleMade'. -/
def singleMadeUptoCard : Claim7 := { stood := { row := singleMadeUptoRow, standIns := [], harness := (true, "6830f8dec294ebeae4073f70af917a91fce38eb4b8bc9f58f2047a3007a0c1b4"), looks := false }, kinds := [], alts := [], laidByText := true, laidKinds := [.data, .pinned], laidTests := true, laidLooks := .later }
def SingleMadeUptoCardSaid : Prop := Claim7.holds Tryz.pinned (.plain (OpenSpec.upto singleMadeSpec)) singleMadeUptoCard

/-- THE SECOND FORM's CARD OF 'checkreinlaw10.GraphPrunes'. -/
def graphPrunesUptoCard : Claim7 := { stood := { row := graphPrunesUptoRow, standIns := [], harness := (true, "6830f8dec294ebeae4073f70af917a91fce38eb4b8bc9f58f2047a3007a0c1b4"), looks := false }, kinds := [], alts := [], laidByText := true, laidKinds := [.data, .pinned], laidTests := true, laidLooks := .later }
def GraphPrunesUptoCardSaid : Prop := Claim7.holds Tryz.pinned (.plain (OpenSpec.upto graphPrunesSpec)) graphPrunesUptoCard

/-- THE SECOND FORM's CARD OF 'checkreinlaw10.GraphRuns'. -/
def graphRunsUptoCard : Claim7 := { stood := { row := graphRunsUptoRow, standIns := [], harness := (true, "6830f8dec294ebeae4073f70af917a91fce38eb4b8bc9f58f2047a3007a0c1b4"), looks := false }, kinds := [], alts := [], laidByText := true, laidKinds := [.data, .pinned], laidTests := true, laidLooks := .later }
def GraphRunsUptoCardSaid : Prop := Claim7.holds Tryz.pinned (.plain (OpenSpec.upto graphRunsSpec)) graphRunsUptoCard
end Rows
end Go.Proofs.YthhpbkfngcflcaaGreatDoor
