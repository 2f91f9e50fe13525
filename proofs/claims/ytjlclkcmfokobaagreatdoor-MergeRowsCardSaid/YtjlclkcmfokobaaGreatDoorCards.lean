/-
  DERIVED. GIVEN WITH THE SEED: THE CARDS: each row of YtjlclkcmfokobaaGreatDoorRows.lean that lists a variable, with what it lists TIED to the program's text (the seventh form; the later family's looks); each row that meets fmt, with fmt's text TOLD by the authors' own Lean function (tested against real Go, not proved from fmt's source: count such statements apart). THE CARD IS WHAT COUNTS. Prove the row's statement (the work); the ties are given (YtjlclkcmfokobaaGreatDoorTie.lean); close each card by the builder's one call (the guide's Derived/Test/ToyasCard.lean, 'card_holds'). Laid BY PROGRAM, IN A SANDBOX (cutbox-door.mjs). By AI agents, Wed Nov 11 2026. No macro, syntax, notation, axiom, sorry.
-/
import Derived.Test.YtjlclkcmfokobaaGreatDoorRows
import GoSem.ClaimSeven
namespace Go.Proofs.YtjlclkcmfokobaaGreatDoor
namespace Rows

/-- THE TIED CARD OF 'checkreinlaw34.MergeTells'. -/
def mergeTellsCard : Claim7 := { stood := { row := mergeTellsRow, standIns := [], harness := (true, "bffcd4a43d4f4feda0ffefd3acc36874de6612a6008d91f44a496a4eed543dcc"), looks := false }, kinds := [], alts := [], laidByText := true, laidKinds := [.data, .pinned], laidTests := true, laidLooks := .later }
def MergeTellsCardSaid : Prop := Claim7.holds Tryz.pinned (.plain (OpenSpec.ofChange mergeTellsSpec)) mergeTellsCard

/-- THE TIED CARD OF 'checkreinlaw34.MergeNone'. -/
def mergeNoneCard : Claim7 := { stood := { row := mergeNoneRow, standIns := [], harness := (true, "bffcd4a43d4f4feda0ffefd3acc36874de6612a6008d91f44a496a4eed543dcc"), looks := false }, kinds := [], alts := [], laidByText := true, laidKinds := [.data, .pinned], laidTests := true, laidLooks := .later }
def MergeNoneCardSaid : Prop := Claim7.holds Tryz.pinned (.plain (OpenSpec.ofChange mergeNoneSpec)) mergeNoneCard

/-- THE TIED CARD OF 'checkreinlaw34.MergeRows'. -/
def mergeRowsCard : Claim7 := { stood := { row := mergeRowsRow, standIns := [], harness := (true, "bffcd4a43d4f4feda0ffefd3acc36874de6612a6008d91f44a496a4eed543dcc"), looks := false }, kinds := [], alts := [], laidByText := true, laidKinds := [.data, .pinned], laidTests := true, laidLooks := .later }
def MergeRowsCardSaid : Prop := Claim7.holds Tryz.pinned (.plain (OpenSpec.ofChange mergeRowsSpec)) mergeRowsCard

/-- THE TIED CARD OF 'checkreinlaw13.EdgeTells'. -/
def edgeTellsCard : Claim7 := { stood := { row := edgeTellsRow, standIns := [], harness := (true, "bffcd4a43d4f4feda0ffefd3acc36874de6612a6008d91f44a496a4eed543dcc"), looks := false }, kinds := [], alts := [], laidByText := true, laidKinds := [.data, .data, .data, .data, .pinned], laidTests := true, laidLooks := .later }
def EdgeTellsCardSaid : Prop := Claim7.holds Tryz.pinned (.plain (OpenSpec.ofChange edgeTellsSpec)) edgeTellsCard

/-- THE TIED CARD OF 'checkreinlaw13.EdgeSplits'. -/
def edgeSplitsCard : Claim7 := { stood := { row := edgeSplitsRow, standIns := [], harness := (true, "bffcd4a43d4f4feda0ffefd3acc36874de6612a6008d91f44a496a4eed543dcc"), looks := false }, kinds := [], alts := [], laidByText := true, laidKinds := [.data, .data, .data, .data, .pinned], laidTests := true, laidLooks := .later }
def EdgeSplitsCardSaid : Prop := Claim7.holds Tryz.pinned (.plain (OpenSpec.ofChange edgeSplitsSpec)) edgeSplitsCard

/-- THE TIED CARD OF 'checkreinlaw13.EdgeNone'. -/
def edgeNoneCard : Claim7 := { stood := { row := edgeNoneRow, standIns := [], harness := (true, "bffcd4a43d4f4feda0ffefd3acc36874de6612a6008d91f44a496a4eed543dcc"), looks := false }, kinds := [], alts := [], laidByText := true, laidKinds := [.data, .data, .data, .data, .pinned], laidTests := true, laidLooks := .later }
def EdgeNoneCardSaid : Prop := Claim7.holds Tryz.pinned (.plain (OpenSpec.ofChange edgeNoneSpec)) edgeNoneCard

/-- THE TIED CARD OF 'checkreinlaw13.EdgeRuns'. -/
def edgeRunsCard : Claim7 := { stood := { row := edgeRunsRow, standIns := [], harness := (true, "bffcd4a43d4f4feda0ffefd3acc36874de6612a6008d91f44a496a4eed543dcc"), looks := false }, kinds := [], alts := [], laidByText := true, laidKinds := [.data, .data, .data, .data, .pinned], laidTests := true, laidLooks := .later }
def EdgeRunsCardSaid : Prop := Claim7.holds Tryz.pinned (.plain (OpenSpec.ofChange edgeRunsSpec)) edgeRunsCard

/-- THE SECOND FORM's CARD OF 'checkreinlaw34.MergeTells'. -/
def mergeTellsUptoCard : Claim7 := { stood := { row := mergeTellsUptoRow, standIns := [], harness := (true, "bffcd4a43d4f4feda0ffefd3acc36874de6612a6008d91f44a496a4eed543dcc"), looks := false }, kinds := [], alts := [], laidByText := true, laidKinds := [.data, .pinned], laidTests := true, laidLooks := .later }
def MergeTellsUptoCardSaid : Prop := Claim7.holds Tryz.pinned (.plain (OpenSpec.upto mergeTellsSpec)) mergeTellsUptoCard

/-- THE SECOND FORM's CARD OF 'checkreinlaw34.MergeNone'. -/
def mergeNoneUptoCard : Claim7 := { stood := { row := mergeNoneUptoRow, standIns := [], harness := (true, "bffcd4a43d4f4feda0ffefd3acc36874de6612a6008d91f44a496a4eed543dcc"), looks := false }, kinds := [], alts := [], laidByText := true, laidKinds := [.data, .pinned], laidTests := true, laidLooks := .later }
def MergeNoneUptoCardSaid : Prop := Claim7.holds Tryz.pinned (.plain (OpenSpec.upto mergeNoneSpec)) mergeNoneUptoCard

/-- THE SECOND FORM's CARD OF 'checkreinlaw34.MergeRows'. -/
def mergeRowsUptoCard : Claim7 := { stood := { row := mergeRowsUptoRow, standIns := [], harness := (true, "bffcd4a43d4f4feda0ffefd3acc36874de6612a6008d91f44a496a4eed543dcc"), looks := false }, kinds := [], alts := [], laidByText := true, laidKinds := [.data, .pinned], laidTests := true, laidLooks := .later }
def MergeRowsUptoCardSaid : Prop := Claim7.holds Tryz.pinned (.plain (OpenSpec.upto mergeRowsSpec)) mergeRowsUptoCard

/-- THE SECOND FORM's CARD OF 'checkreinlaw13.EdgeTells'. -/
def edgeTellsUptoCard : Claim7 := { stood := { row := edgeTellsUptoRow, standIns := [], harness := (true, "bffcd4a43d4f4feda0ffefd3acc36874de6612a6008d91f44a496a4eed543dcc"), looks := false }, kinds := [], alts := [], laidByText := true, laidKinds := [.data, .data, .data, .data, .pinned], laidTests := true, laidLooks := .later }
def EdgeTellsUptoCardSaid : Prop := Claim7.holds Tryz.pinned (.plain (OpenSpec.upto edgeTellsSpec)) edgeTellsUptoCard

/-- THE SECOND FORM's CARD OF 'checkreinlaw13.EdgeSplits'. -/
def edgeSplitsUptoCard : Claim7 := { stood := { row := edgeSplitsUptoRow, standIns := [], harness := (true, "bffcd4a43d4f4feda0ffefd3acc36874de6612a6008d91f44a496a4eed543dcc"), looks := false }, kinds := [], alts := [], laidByText := true, laidKinds := [.data, .data, .data, .data, .pinned], laidTests := true, laidLooks := .later }
def EdgeSplitsUptoCardSaid : Prop := Claim7.holds Tryz.pinned (.plain (OpenSpec.upto edgeSplitsSpec)) edgeSplitsUptoCard

/-- THE SECOND FORM's CARD OF 'checkreinlaw13.EdgeNone'. -/
def edgeNoneUptoCard : Claim7 := { stood := { row := edgeNoneUptoRow, standIns := [], harness := (true, "bffcd4a43d4f4feda0ffefd3acc36874de6612a6008d91f44a496a4eed543dcc"), looks := false }, kinds := [], alts := [], laidByText := true, laidKinds := [.data, .data, .data, .data, .pinned], laidTests := true, laidLooks := .later }
def EdgeNoneUptoCardSaid : Prop := Claim7.holds Tryz.pinned (.plain (OpenSpec.upto edgeNoneSpec)) edgeNoneUptoCard

/-- THE SECOND FORM's CARD OF 'checkreinlaw13.EdgeRuns'. -/
def edgeRunsUptoCard : Claim7 := { stood := { row := edgeRunsUptoRow, standIns := [], harness := (true, "bffcd4a43d4f4feda0ffefd3acc36874de6612a6008d91f44a496a4eed543dcc"), looks := false }, kinds := [], alts := [], laidByText := true, laidKinds := [.data, .data, .data, .data, .pinned], laidTests := true, laidLooks := .later }
def EdgeRunsUptoCardSaid : Prop := Claim7.holds Tryz.pinned (.plain (OpenSpec.upto edgeRunsSpec)) edgeRunsUptoCard
end Rows
end Go.Proofs.YtjlclkcmfokobaaGreatDoor
