/-
  DERIVED. GIVEN WITH THE SEED: THE CARDS: each row of YthhjlbflpjhahaaGreatDoorRows.lean that lists a variable, with what it lists TIED to the program's text (the seventh form; the later family's looks); each row that meets fmt, with fmt's text TOLD by the authors' own Lean function (tested against real Go, not proved from fmt's source: count such statements apart). THE CARD IS WHAT COUNTS. Prove the row's statement (the work); the ties are given (YthhjlbflpjhahaaGreatDoorTie.lean); close each card by the builder's one call (the guide's Derived/Test/ToyasCard.lean, 'card_holds'). Laid BY PROGRAM, IN A SANDBOX (cutbox-door.mjs). By AI agents, Wed Nov 11 2026. No macro, syntax, notation, axiom, sorry.
-/
import Derived.Test.YthhjlbflpjhahaaGreatDoorRows
import GoSem.ClaimSeven
namespace Go.Proofs.YthhjlbflpjhahaaGreatDoor
namespace Rows

/-- THE TIED CARD OF 'checkreinlaw33.TidyTells'. -/
def tidyTellsCard : Claim7 := { stood := { row := tidyTellsRow, standIns := [], harness := (true, "3920b3641d5b5b6cedfea90d08c9d44bff1960a5e47524a3e084b8af09f7bcb0"), looks := false }, kinds := [], alts := [], laidByText := true, laidKinds := [.data, .pinned], laidTests := true, laidLooks := .later }
def TidyTellsCardSaid : Prop := Claim7.holds Tryz.pinned (.plain (OpenSpec.ofChange tidyTellsSpec)) tidyTellsCard

/-- THE TIED CARD OF 'checkreinlaw33.TidyNone'. -/
def tidyNoneCard : Claim7 := { stood := { row := tidyNoneRow, standIns := [], harness := (true, "3920b3641d5b5b6cedfea90d08c9d44bff1960a5e47524a3e084b8af09f7bcb0"), looks := false }, kinds := [], alts := [], laidByText := true, laidKinds := [.data, .pinned], laidTests := true, laidLooks := .later }
def TidyNoneCardSaid : Prop := Claim7.holds Tryz.pinned (.plain (OpenSpec.ofChange tidyNoneSpec)) tidyNoneCard

/-- THE TIED CARD OF 'checkreinlaw33.TidyRuns'. -/
def tidyRunsCard : Claim7 := { stood := { row := tidyRunsRow, standIns := [], harness := (true, "3920b3641d5b5b6cedfea90d08c9d44bff1960a5e47524a3e084b8af09f7bcb0"), looks := false }, kinds := [], alts := [], laidByText := true, laidKinds := [.data, .pinned], laidTests := true, laidLooks := .later }
def TidyRunsCardSaid : Prop := Claim7.holds Tryz.pinned (.plain (OpenSpec.ofChange tidyRunsSpec)) tidyRunsCard

/-- THE TIED CARD OF 'checkreinlaw19.CopiesTells'. -/
def copiesTellsCard : Claim7 := { stood := { row := copiesTellsRow, standIns := [], harness := (true, "3920b3641d5b5b6cedfea90d08c9d44bff1960a5e47524a3e084b8af09f7bcb0"), looks := false }, kinds := [], alts := [], laidByText := true, laidKinds := [.data, .pinned], laidTests := true, laidLooks := .later }
def CopiesTellsCardSaid : Prop := Claim7.holds Tryz.pinned (.plain (OpenSpec.ofChange copiesTellsSpec)) copiesTellsCard

/-- THE TIED CARD OF 'checkreinlaw19.CopiesNone'. -/
def copiesNoneCard : Claim7 := { stood := { row := copiesNoneRow, standIns := [], harness := (true, "3920b3641d5b5b6cedfea90d08c9d44bff1960a5e47524a3e084b8af09f7bcb0"), looks := false }, kinds := [], alts := [], laidByText := true, laidKinds := [.data, .pinned], laidTests := true, laidLooks := .later }
def CopiesNoneCardSaid : Prop := Claim7.holds Tryz.pinned (.plain (OpenSpec.ofChange copiesNoneSpec)) copiesNoneCard

/-- THE TIED CARD OF 'checkreinlaw19.CopiesRuns'. -/
def copiesRunsCard : Claim7 := { stood := { row := copiesRunsRow, standIns := [], harness := (true, "3920b3641d5b5b6cedfea90d08c9d44bff1960a5e47524a3e084b8af09f7bcb0"), looks := false }, kinds := [], alts := [], laidByText := true, laidKinds := [.data, .pinned], laidTests := true, laidLooks := .later }
def CopiesRunsCardSaid : Prop := Claim7.holds Tryz.pinned (.plain (OpenSpec.ofChange copiesRunsSpec)) copiesRunsCard

/-- THE TIED CARD OF 'checkreinlaw19.CopiesRoots'. -/
def copiesRootsCard : Claim7 := { stood := { row := copiesRootsRow, standIns := [], harness := (true, "3920b3641d5b5b6cedfea90d08c9d44bff1960a5e47524a3e084b8af09f7bcb0"), looks := false }, kinds := [], alts := [], laidByText := true, laidKinds := [.data, .pinned], laidTests := true, laidLooks := .later }
def CopiesRootsCardSaid : Prop := Claim7.holds Tryz.pinned (.plain (OpenSpec.ofChange copiesRootsSpec)) copiesRootsCard

/-- THE SECOND FORM's CARD OF 'checkreinlaw33.TidyTells'. -/
def tidyTellsUptoCard : Claim7 := { stood := { row := tidyTellsUptoRow, standIns := [], harness := (true, "3920b3641d5b5b6cedfea90d08c9d44bff1960a5e47524a3e084b8af09f7bcb0"), looks := false }, kinds := [], alts := [], laidByText := true, laidKinds := [.data, .pinned], laidTests := true, laidLooks := .later }
def TidyTellsUptoCardSaid : Prop := Claim7.holds Tryz.pinned (.plain (OpenSpec.upto tidyTellsSpec)) tidyTellsUptoCard

/-- THE SECOND FORM's CARD OF 'checkreinlaw33.TidyNone'. -/
def tidyNoneUptoCard : Claim7 := { stood := { row := tidyNoneUptoRow, standIns := [], harness := (true, "3920b3641d5b5b6cedfea90d08c9d44bff1960a5e47524a3e084b8af09f7bcb0"), looks := false }, kinds := [], alts := [], laidByText := true, laidKinds := [.data, .pinned], laidTests := true, laidLooks := .later }
def TidyNoneUptoCardSaid : Prop := Claim7.holds Tryz.pinned (.plain (OpenSpec.upto tidyNoneSpec)) tidyNoneUptoCard

/-- THE SECOND FORM's CARD OF 'checkreinlaw33.TidyRuns'. -/
def tidyRunsUptoCard : Claim7 := { stood := { row := tidyRunsUptoRow, standIns := [], harness := (true, "3920b3641d5b5b6cedfea90d08c9d44bff1960a5e47524a3e084b8af09f7bcb0"), looks := false }, kinds := [], alts := [], laidByText := true, laidKinds := [.data, .pinned], laidTests := true, laidLooks := .later }
def TidyRunsUptoCardSaid : Prop := Claim7.holds Tryz.pinned (.plain (OpenSpec.upto tidyRunsSpec)) tidyRunsUptoCard

/-- THE SECOND FORM's CARD OF 'checkreinlaw19.CopiesTells'. -/
def copiesTellsUptoCard : Claim7 := { stood := { row := copiesTellsUptoRow, standIns := [], harness := (true, "3920b3641d5b5b6cedfea90d08c9d44bff1960a5e47524a3e084b8af09f7bcb0"), looks := false }, kinds := [], alts := [], laidByText := true, laidKinds := [.data, .pinned], laidTests := true, laidLooks := .later }
def CopiesTellsUptoCardSaid : Prop := Claim7.holds Tryz.pinned (.plain (OpenSpec.upto copiesTellsSpec)) copiesTellsUptoCard

/-- THE SECOND FORM's CARD OF 'checkreinlaw19.CopiesNone'. -/
def copiesNoneUptoCard : Claim7 := { stood := { row := copiesNoneUptoRow, standIns := [], harness := (true, "3920b3641d5b5b6cedfea90d08c9d44bff1960a5e47524a3e084b8af09f7bcb0"), looks := false }, kinds := [], alts := [], laidByText := true, laidKinds := [.data, .pinned], laidTests := true, laidLooks := .later }
def CopiesNoneUptoCardSaid : Prop := Claim7.holds Tryz.pinned (.plain (OpenSpec.upto copiesNoneSpec)) copiesNoneUptoCard

/-- THE SECOND FORM's CARD OF 'checkreinlaw19.CopiesRuns'. -/
def copiesRunsUptoCard : Claim7 := { stood := { row := copiesRunsUptoRow, standIns := [], harness := (true, "3920b3641d5b5b6cedfea90d08c9d44bff1960a5e47524a3e084b8af09f7bcb0"), looks := false }, kinds := [], alts := [], laidByText := true, laidKinds := [.data, .pinned], laidTests := true, laidLooks := .later }
def CopiesRunsUptoCardSaid : Prop := Claim7.holds Tryz.pinned (.plain (OpenSpec.upto copiesRunsSpec)) copiesRunsUptoCard

/-- THE SECOND FORM's CARD OF 'checkreinlaw19.CopiesRoots'. -/
def copiesRootsUptoCard : Claim7 := { stood := { row := copiesRootsUptoRow, standIns := [], harness := (true, "3920b3641d5b5b6cedfea90d08c9d44bff1960a5e47524a3e084b8af09f7bcb0"), looks := false }, kinds := [], alts := [], laidByText := true, laidKinds := [.data, .pinned], laidTests := true, laidLooks := .later }
def CopiesRootsUptoCardSaid : Prop := Claim7.holds Tryz.pinned (.plain (OpenSpec.upto copiesRootsSpec)) copiesRootsUptoCard
end Rows
end Go.Proofs.YthhjlbflpjhahaaGreatDoor
