/-
  DERIVED. GIVEN WITH THE SEED: THE CARDS: each row of YtjdkcichkpolgaaGreatDoorRows.lean that lists a variable, with what it lists TIED to the program's text (the seventh form; the later family's looks); each row that meets fmt, with fmt's text TOLD by the authors' own Lean function (tested against real Go, not proved from fmt's source: count such statements apart). THE CARD IS WHAT COUNTS. Prove the row's statement (the work); the ties are given (YtjdkcichkpolgaaGreatDoorTie.lean); close each card by the builder's one call (the guide's Derived/Test/ToyasCard.lean, 'card_holds'). Laid BY PROGRAM, IN A SANDBOX (cutbox-door.mjs). By AI agents, Wed Nov 11 2026. No macro, syntax, notation, axiom, sorry.
-/
import Derived.Test.YtjdkcichkpolgaaGreatDoorRows
import GoSem.ClaimSeven
namespace Go.Proofs.YtjdkcichkpolgaaGreatDoor
namespace Rows

/-- THE TIED CARD OF 'checkreinlaw10.GraphPrunes'. -/
def graphPrunesCard : Claim7 := { stood := { row := graphPrunesRow, standIns := [], harness := (true, "ba7e4b8db254d7a1ae5dbcbb2982ea0bb41ce61d8ee28db9e085a2847f9b80c6"), looks := false }, kinds := [], alts := [], laidByText := true, laidKinds := [.data, .pinned], laidTests := true, laidLooks := .later }
def GraphPrunesCardSaid : Prop := Claim7.holds Tryz.pinned (.plain (OpenSpec.ofChange graphPrunesSpec)) graphPrunesCard

/-- THE TIED CARD OF 'checkreinlaw11.DomSteps'. -/
def domStepsCard : Claim7 := { stood := { row := domStepsRow, standIns := [], harness := (true, "ba7e4b8db254d7a1ae5dbcbb2982ea0bb41ce61d8ee28db9e085a2847f9b80c6"), looks := false }, kinds := [], alts := [], laidByText := true, laidKinds := [.data, .pinned], laidTests := true, laidLooks := .later }
def DomStepsCardSaid : Prop := Claim7.holds Tryz.pinned (.plain (OpenSpec.ofChange domStepsSpec)) domStepsCard

/-- THE TIED CARD OF 'checkreinlaw33.TidyTells'. -/
def tidyTellsCard : Claim7 := { stood := { row := tidyTellsRow, standIns := [], harness := (true, "ba7e4b8db254d7a1ae5dbcbb2982ea0bb41ce61d8ee28db9e085a2847f9b80c6"), looks := false }, kinds := [], alts := [], laidByText := true, laidKinds := [.data, .pinned], laidTests := true, laidLooks := .later }
def TidyTellsCardSaid : Prop := Claim7.holds Tryz.pinned (.plain (OpenSpec.ofChange tidyTellsSpec)) tidyTellsCard

/-- THE TIED CARD OF 'checkreinlaw33.TidyNone'. -/
def tidyNoneCard : Claim7 := { stood := { row := tidyNoneRow, standIns := [], harness := (true, "ba7e4b8db254d7a1ae5dbcbb2982ea0bb41ce61d8ee28db9e085a2847f9b80c6"), looks := false }, kinds := [], alts := [], laidByText := true, laidKinds := [.data, .pinned], laidTests := true, laidLooks := .later }
def TidyNoneCardSaid : Prop := Claim7.holds Tryz.pinned (.plain (OpenSpec.ofChange tidyNoneSpec)) tidyNoneCard

/-- THE TIED CARD OF 'checkreinlaw32.DeadNone'. -/
def deadNoneCard : Claim7 := { stood := { row := deadNoneRow, standIns := [], harness := (true, "ba7e4b8db254d7a1ae5dbcbb2982ea0bb41ce61d8ee28db9e085a2847f9b80c6"), looks := false }, kinds := [], alts := [], laidByText := true, laidKinds := [.data, .pinned], laidTests := true, laidLooks := .later }
def DeadNoneCardSaid : Prop := Claim7.holds Tryz.pinned (.plain (OpenSpec.ofChange deadNoneSpec)) deadNoneCard

/-- THE TIED CARD OF 'checkreinlaw32.DeadTells'. -/
def deadTellsCard : Claim7 := { stood := { row := deadTellsRow, standIns := [], harness := (true, "ba7e4b8db254d7a1ae5dbcbb2982ea0bb41ce61d8ee28db9e085a2847f9b80c6"), looks := false }, kinds := [], alts := [], laidByText := true, laidKinds := [.data, .pinned], laidTests := true, laidLooks := .later }
def DeadTellsCardSaid : Prop := Claim7.holds Tryz.pinned (.plain (OpenSpec.ofChange deadTellsSpec)) deadTellsCard

/-- THE TIED CARD OF 'checkreinlaw34.MergeWindows'. -/
def mergeWindowsCard : Claim7 := { stood := { row := mergeWindowsRow, standIns := [], harness := (true, "ba7e4b8db254d7a1ae5dbcbb2982ea0bb41ce61d8ee28db9e085a2847f9b80c6"), looks := false }, kinds := [], alts := [], laidByText := true, laidKinds := [.data, .pinned], laidTests := true, laidLooks := .later }
def MergeWindowsCardSaid : Prop := Claim7.holds Tryz.pinned (.plain (OpenSpec.ofChange mergeWindowsSpec)) mergeWindowsCard

/-- THE SECOND FORM's CARD OF 'checkreinlaw10.GraphPrunes'. -/
def graphPrunesUptoCard : Claim7 := { stood := { row := graphPrunesUptoRow, standIns := [], harness := (true, "ba7e4b8db254d7a1ae5dbcbb2982ea0bb41ce61d8ee28db9e085a2847f9b80c6"), looks := false }, kinds := [], alts := [], laidByText := true, laidKinds := [.data, .pinned], laidTests := true, laidLooks := .later }
def GraphPrunesUptoCardSaid : Prop := Claim7.holds Tryz.pinned (.plain (OpenSpec.upto graphPrunesSpec)) graphPrunesUptoCard

/-- THE SECOND FORM's CARD OF 'checkreinlaw11.DomSteps'. -/
def domStepsUptoCard : Claim7 := { stood := { row := domStepsUptoRow, standIns := [], harness := (true, "ba7e4b8db254d7a1ae5dbcbb2982ea0bb41ce61d8ee28db9e085a2847f9b80c6"), looks := false }, kinds := [], alts := [], laidByText := true, laidKinds := [.data, .pinned], laidTests := true, laidLooks := .later }
def DomStepsUptoCardSaid : Prop := Claim7.holds Tryz.pinned (.plain (OpenSpec.upto domStepsSpec)) domStepsUptoCard

/-- THE SECOND FORM's CARD OF 'checkreinlaw33.TidyTells'. -/
def tidyTellsUptoCard : Claim7 := { stood := { row := tidyTellsUptoRow, standIns := [], harness := (true, "ba7e4b8db254d7a1ae5dbcbb2982ea0bb41ce61d8ee28db9e085a2847f9b80c6"), looks := false }, kinds := [], alts := [], laidByText := true, laidKinds := [.data, .pinned], laidTests := true, laidLooks := .later }
def TidyTellsUptoCardSaid : Prop := Claim7.holds Tryz.pinned (.plain (OpenSpec.upto tidyTellsSpec)) tidyTellsUptoCard

/-- THE SECOND FORM's CARD OF 'checkreinlaw33.TidyNone'. -/
def tidyNoneUptoCard : Claim7 := { stood := { row := tidyNoneUptoRow, standIns := [], harness := (true, "ba7e4b8db254d7a1ae5dbcbb2982ea0bb41ce61d8ee28db9e085a2847f9b80c6"), looks := false }, kinds := [], alts := [], laidByText := true, laidKinds := [.data, .pinned], laidTests := true, laidLooks := .later }
def TidyNoneUptoCardSaid : Prop := Claim7.holds Tryz.pinned (.plain (OpenSpec.upto tidyNoneSpec)) tidyNoneUptoCard

/-- THE SECOND FORM's CARD OF 'checkreinlaw32.DeadNone'. -/
def deadNoneUptoCard : Claim7 := { stood := { row := deadNoneUptoRow, standIns := [], harness := (true, "ba7e4b8db254d7a1ae5dbcbb2982ea0bb41ce61d8ee28db9e085a2847f9b80c6"), looks := false }, kinds := [], alts := [], laidByText := true, laidKinds := [.data, .pinned], laidTests := true, laidLooks := .later }
def DeadNoneUptoCardSaid : Prop := Claim7.holds Tryz.pinned (.plain (OpenSpec.upto deadNoneSpec)) deadNoneUptoCard

/-- THE SECOND FORM's CARD OF 'checkreinlaw32.DeadTells'. -/
def deadTellsUptoCard : Claim7 := { stood := { row := deadTellsUptoRow, standIns := [], harness := (true, "ba7e4b8db254d7a1ae5dbcbb2982ea0bb41ce61d8ee28db9e085a2847f9b80c6"), looks := false }, kinds := [], alts := [], laidByText := true, laidKinds := [.data, .pinned], laidTests := true, laidLooks := .later }
def DeadTellsUptoCardSaid : Prop := Claim7.holds Tryz.pinned (.plain (OpenSpec.upto deadTellsSpec)) deadTellsUptoCard

/-- THE SECOND FORM's CARD OF 'checkreinlaw34.MergeWindows'. -/
def mergeWindowsUptoCard : Claim7 := { stood := { row := mergeWindowsUptoRow, standIns := [], harness := (true, "ba7e4b8db254d7a1ae5dbcbb2982ea0bb41ce61d8ee28db9e085a2847f9b80c6"), looks := false }, kinds := [], alts := [], laidByText := true, laidKinds := [.data, .pinned], laidTests := true, laidLooks := .later }
def MergeWindowsUptoCardSaid : Prop := Claim7.holds Tryz.pinned (.plain (OpenSpec.upto mergeWindowsSpec)) mergeWindowsUptoCard
end Rows
end Go.Proofs.YtjdkcichkpolgaaGreatDoor
