/-
  DERIVED. GIVEN WITH THE SEED: THE CARDS: each row of YtkfobmdodegigaaGreatDoorRows.lean that lists a variable, with what it lists TIED to the program's text (the seventh form; the later family's looks); each row that meets fmt, with fmt's text TOLD by the authors' own Lean function (tested against real Go, not proved from fmt's source: count such statements apart). THE CARD IS WHAT COUNTS. Prove the row's statement (the work); the ties are given (YtkfobmdodegigaaGreatDoorTie.lean); close each card by the builder's one call (the guide's Derived/Test/ToyasCard.lean, 'card_holds'). Laid BY PROGRAM, IN A SANDBOX (cutbox-door.mjs). By AI agents, Wed Nov 11 2026. No macro, syntax, notation, axiom, sorry.
-/
import Derived.Test.YtkfobmdodegigaaGreatDoorRows
import GoSem.ClaimSeven
namespace Go.Proofs.YtkfobmdodegigaaGreatDoor
namespace Rows

/-- THE TIED CARD OF 'checkreinlaw32.DeadAny'. -/
def deadAnyCard : Claim7 := { stood := { row := deadAnyRow, standIns := [], harness := (true, "161362fa89a023382c56cbfafc058db390a5dcf42003965644686e51f438cfb5"), looks := false }, kinds := [], alts := [], laidByText := true, laidKinds := [.data, .pinned], laidTests := true, laidLooks := .later }
def DeadAnyCardSaid : Prop := Claim7.holds Tryz.pinned (.plain (OpenSpec.ofChange deadAnySpec)) deadAnyCard

/-- THE TIED CARD OF 'checkreinlaw32.DeadRuns'. -/
def deadRunsCard : Claim7 := { stood := { row := deadRunsRow, standIns := [], harness := (true, "161362fa89a023382c56cbfafc058db390a5dcf42003965644686e51f438cfb5"), looks := false }, kinds := [], alts := [], laidByText := true, laidKinds := [.data, .pinned], laidTests := true, laidLooks := .later }
def DeadRunsCardSaid : Prop := Claim7.holds Tryz.pinned (.plain (OpenSpec.ofChange deadRunsSpec)) deadRunsCard

/-- THE TIED CARD OF 'checkreinlaw33.TidyTells'. -/
def tidyTellsCard : Claim7 := { stood := { row := tidyTellsRow, standIns := [], harness := (true, "161362fa89a023382c56cbfafc058db390a5dcf42003965644686e51f438cfb5"), looks := false }, kinds := [], alts := [], laidByText := true, laidKinds := [.data, .pinned], laidTests := true, laidLooks := .later }
def TidyTellsCardSaid : Prop := Claim7.holds Tryz.pinned (.plain (OpenSpec.ofChange tidyTellsSpec)) tidyTellsCard

/-- THE TIED CARD OF 'checkreinlaw33.TidyNone'. -/
def tidyNoneCard : Claim7 := { stood := { row := tidyNoneRow, standIns := [], harness := (true, "161362fa89a023382c56cbfafc058db390a5dcf42003965644686e51f438cfb5"), looks := false }, kinds := [], alts := [], laidByText := true, laidKinds := [.data, .pinned], laidTests := true, laidLooks := .later }
def TidyNoneCardSaid : Prop := Claim7.holds Tryz.pinned (.plain (OpenSpec.ofChange tidyNoneSpec)) tidyNoneCard

/-- THE TIED CARD OF 'checkreinlaw33.TidyRuns'. -/
def tidyRunsCard : Claim7 := { stood := { row := tidyRunsRow, standIns := [], harness := (true, "161362fa89a023382c56cbfafc058db390a5dcf42003965644686e51f438cfb5"), looks := false }, kinds := [], alts := [], laidByText := true, laidKinds := [.data, .pinned], laidTests := true, laidLooks := .later }
def TidyRunsCardSaid : Prop := Claim7.holds Tryz.pinned (.plain (OpenSpec.ofChange tidyRunsSpec)) tidyRunsCard

/-- THE SECOND FORM's CARD OF 'checkreinlaw32.DeadAny'. -/
def deadAnyUptoCard : Claim7 := { stood := { row := deadAnyUptoRow, standIns := [], harness := (true, "161362fa89a023382c56cbfafc058db390a5dcf42003965644686e51f438cfb5"), looks := false }, kinds := [], alts := [], laidByText := true, laidKinds := [.data, .pinned], laidTests := true, laidLooks := .later }
def DeadAnyUptoCardSaid : Prop := Claim7.holds Tryz.pinned (.plain (OpenSpec.upto deadAnySpec)) deadAnyUptoCard

/-- THE SECOND FORM's CARD OF 'checkreinlaw32.DeadRuns'. -/
def deadRunsUptoCard : Claim7 := { stood := { row := deadRunsUptoRow, standIns := [], harness := (true, "161362fa89a023382c56cbfafc058db390a5dcf42003965644686e51f438cfb5"), looks := false }, kinds := [], alts := [], laidByText := true, laidKinds := [.data, .pinned], laidTests := true, laidLooks := .later }
def DeadRunsUptoCardSaid : Prop := Claim7.holds Tryz.pinned (.plain (OpenSpec.upto deadRunsSpec)) deadRunsUptoCard

/-- THE SECOND FORM's CARD OF 'checkreinlaw33.TidyTells'. -/
def tidyTellsUptoCard : Claim7 := { stood := { row := tidyTellsUptoRow, standIns := [], harness := (true, "161362fa89a023382c56cbfafc058db390a5dcf42003965644686e51f438cfb5"), looks := false }, kinds := [], alts := [], laidByText := true, laidKinds := [.data, .pinned], laidTests := true, laidLooks := .later }
def TidyTellsUptoCardSaid : Prop := Claim7.holds Tryz.pinned (.plain (OpenSpec.upto tidyTellsSpec)) tidyTellsUptoCard

/-- THE SECOND FORM's CARD OF 'checkreinlaw33.TidyNone'. -/
def tidyNoneUptoCard : Claim7 := { stood := { row := tidyNoneUptoRow, standIns := [], harness := (true, "161362fa89a023382c56cbfafc058db390a5dcf42003965644686e51f438cfb5"), looks := false }, kinds := [], alts := [], laidByText := true, laidKinds := [.data, .pinned], laidTests := true, laidLooks := .later }
def TidyNoneUptoCardSaid : Prop := Claim7.holds Tryz.pinned (.plain (OpenSpec.upto tidyNoneSpec)) tidyNoneUptoCard

/-- THE SECOND FORM's CARD OF 'checkreinlaw33.TidyRuns'. -/
def tidyRunsUptoCard : Claim7 := { stood := { row := tidyRunsUptoRow, standIns := [], harness := (true, "161362fa89a023382c56cbfafc058db390a5dcf42003965644686e51f438cfb5"), looks := false }, kinds := [], alts := [], laidByText := true, laidKinds := [.data, .pinned], laidTests := true, laidLooks := .later }
def TidyRunsUptoCardSaid : Prop := Claim7.holds Tryz.pinned (.plain (OpenSpec.upto tidyRunsSpec)) tidyRunsUptoCard
end Rows
end Go.Proofs.YtkfobmdodegigaaGreatDoor
