/-
  DERIVED. GIVEN WITH THE SEED: THE CARDS: each row of YtenedeaiepjedaaDoorRows.lean that lists a variable, with what it lists TIED to the program's text (the seventh form; the later family's looks); each row that meets fmt, with fmt's text TOLD by the authors' own Lean function (tested against real Go, not proved from fmt's source: count such statements apart). THE CARD IS WHAT COUNTS. Prove the row's statement (the work); the ties are given (YtenedeaiepjedaaDoorTie.lean); close each card by the builder's one call (the guide's Derived/Test/ToyasCard.lean, 'card_holds'). Laid BY PROGRAM, IN A SANDBOX (cutbox-door.mjs). By AI agents, Wed Nov 11 2026. No macro, syntax, notation, axiom, sorry.
-/
import Derived.Test.YtenedeaiepjedaaDoorRows
import GoSem.ClaimSeven
namespace Go.Proofs.YtenedeaiepjedaaDoor
namespace Rows

/-- THE TIED CARD OF 'checkreinlaw10.GraphRises'. -/
def graphRisesCard : Claim7 := { stood := { row := graphRisesRow, standIns := [], harness := (true, "1323004e63ec1ef835f8c8bb9663eae0d2fcbaa11f99a5c90b3b2c8da3081a8c"), looks := false }, kinds := [], alts := [], laidByText := true, laidKinds := [.data, .pinned], laidTests := true, laidLooks := .later }
def GraphRisesCardSaid : Prop := Claim7.holds Tryd.pinned (.plain (OpenSpec.ofChange graphRisesSpec)) graphRisesCard

/-- THE TIED CARD OF 'checkreinlaw10.GraphEnds'. -/
def graphEndsCard : Claim7 := { stood := { row := graphEndsRow, standIns := [], harness := (true, "1323004e63ec1ef835f8c8bb9663eae0d2fcbaa11f99a5c90b3b2c8da3081a8c"), looks := false }, kinds := [], alts := [], laidByText := true, laidKinds := [.data, .pinned], laidTests := true, laidLooks := .later }
def GraphEndsCardSaid : Prop := Claim7.holds Tryd.pinned (.plain (OpenSpec.ofChange graphEndsSpec)) graphEndsCard

/-- THE TIED CARD OF 'checkreinlaw10.GraphOrders'. -/
def graphOrdersCard : Claim7 := { stood := { row := graphOrdersRow, standIns := [], harness := (true, "1323004e63ec1ef835f8c8bb9663eae0d2fcbaa11f99a5c90b3b2c8da3081a8c"), looks := false }, kinds := [], alts := [], laidByText := true, laidKinds := [.data, .pinned], laidTests := true, laidLooks := .later }
def GraphOrdersCardSaid : Prop := Claim7.holds Tryd.pinned (.plain (OpenSpec.ofChange graphOrdersSpec)) graphOrdersCard

/-- THE SECOND FORM's CARD OF 'checkreinlaw10.GraphRises'. -/
def graphRisesUptoCard : Claim7 := { stood := { row := graphRisesUptoRow, standIns := [], harness := (true, "1323004e63ec1ef835f8c8bb9663eae0d2fcbaa11f99a5c90b3b2c8da3081a8c"), looks := false }, kinds := [], alts := [], laidByText := true, laidKinds := [.data, .pinned], laidTests := true, laidLooks := .later }
def GraphRisesUptoCardSaid : Prop := Claim7.holds Tryd.pinned (.plain (OpenSpec.upto graphRisesSpec)) graphRisesUptoCard

/-- THE SECOND FORM's CARD OF 'checkreinlaw10.GraphEnds'. -/
def graphEndsUptoCard : Claim7 := { stood := { row := graphEndsUptoRow, standIns := [], harness := (true, "1323004e63ec1ef835f8c8bb9663eae0d2fcbaa11f99a5c90b3b2c8da3081a8c"), looks := false }, kinds := [], alts := [], laidByText := true, laidKinds := [.data, .pinned], laidTests := true, laidLooks := .later }
def GraphEndsUptoCardSaid : Prop := Claim7.holds Tryd.pinned (.plain (OpenSpec.upto graphEndsSpec)) graphEndsUptoCard

/-- THE SECOND FORM's CARD OF 'checkreinlaw10.GraphOrders'. -/
def graphOrdersUptoCard : Claim7 := { stood := { row := graphOrdersUptoRow, standIns := [], harness := (true, "1323004e63ec1ef835f8c8bb9663eae0d2fcbaa11f99a5c90b3b2c8da3081a8c"), looks := false }, kinds := [], alts := [], laidByText := true, laidKinds := [.data, .pinned], laidTests := true, laidLooks := .later }
def GraphOrdersUptoCardSaid : Prop := Claim7.holds Tryd.pinned (.plain (OpenSpec.upto graphOrdersSpec)) graphOrdersUptoCard
end Rows
end Go.Proofs.YtenedeaiepjedaaDoor
