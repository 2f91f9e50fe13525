/-
  DERIVED. GIVEN WITH THE SEED: THE CARDS: each row of YtcjodjmmojbigaaGreatDoorRows.lean that lists a variable, with what it lists TIED to the program's text (the seventh form; the later family's looks); each row that meets fmt, with fmt's text TOLD by the authors' own Lean function (tested against real Go, not proved from fmt's source: count such statements apart). THE CARD IS WHAT COUNTS. Prove the row's statement (the work); the ties are given (YtcjodjmmojbigaaGreatDoorTie.lean); close each card by the builder's one call (the guide's Derived/Test/ToyasCard.lean, 'card_holds'). Laid BY PROGRAM, IN A SANDBOX (cutbox-door.mjs). By AI agents, Wed Nov 11 2026. No macro, syntax, notation, axiom, sorry.
-/
import Derived.Test.YtcjodjmmojbigaaGreatDoorRows
import GoSem.ClaimSeven
namespace Go.Proofs.YtcjodjmmojbigaaGreatDoor
namespace Rows

/-- THE TIED CARD OF 'checkreinlaw11.DomTree'. -/
def domTreeCard : Claim7 := { stood := { row := domTreeRow, standIns := [], harness := (true, "2f3ad3db90be654f9a9f9af8ffe1a9f313c628941e5ab991174939f097d98df0"), looks := false }, kinds := [], alts := [], laidByText := true, laidKinds := [.data, .pinned], laidTests := true, laidLooks := .later }
def DomTreeCardSaid : Prop := Claim7.holds Tryz.pinned (.plain (OpenSpec.ofChange domTreeSpec)) domTreeCard

/-- THE TIED CARD OF 'checkreinlaw16.SingleTells'. -/
def singleTellsCard : Claim7 := { stood := { row := singleTellsRow, standIns := [], harness := (true, "2f3ad3db90be654f9a9f9af8ffe1a9f313c628941e5ab991174939f097d98df0"), looks := false }, kinds := [], alts := [], laidByText := true, laidKinds := [.data, .pinned], laidTests := true, laidLooks := .later }
def SingleTellsCardSaid : Prop := Claim7.holds Tryz.pinned (.plain (OpenSpec.ofChange singleTellsSpec)) singleTellsCard

/-- THE TIED CARD OF 'checkreinlaw12.LoopReduces'. -/
def loopReducesCard : Claim7 := { stood := { row := loopReducesRow, standIns := [], harness := (true, "2f3ad3db90be654f9a9f9af8ffe1a9f313c628941e5ab991174939f097d98df0"), looks := false }, kinds := [], alts := [], laidByText := true, laidKinds := [.data, .pinned], laidTests := true, laidLooks := .later }
def LoopReducesCardSaid : Prop := Claim7.holds Tryz.pinned (.plain (OpenSpec.ofChange loopReducesSpec)) loopReducesCard

/-- THE TIED CARD OF 'checkreinlaw12.LoopNests'. -/
def loopNestsCard : Claim7 := { stood := { row := loopNestsRow, standIns := [], harness := (true, "2f3ad3db90be654f9a9f9af8ffe1a9f313c628941e5ab991174939f097d98df0"), looks := false }, kinds := [], alts := [], laidByText := true, laidKinds := [.data, .pinned], laidTests := true, laidLooks := .later }
def LoopNestsCardSaid : Prop := Claim7.holds Tryz.pinned (.plain (OpenSpec.ofChange loopNestsSpec)) loopNestsCard

/-- THE TIED CARD OF 'checkreinlaw12.LoopTells'. -/
def loopTellsCard : Claim7 := { stood := { row := loopTellsRow, standIns := [], harness := (true, "2f3ad3db90be654f9a9f9af8ffe1a9f313c628941e5ab991174939f097d98df0"), looks := false }, kinds := [], alts := [], laidByText := true, laidKinds := [.data, .pinned], laidTests := true, laidLooks := .later }
def LoopTellsCardSaid : Prop := Claim7.holds Tryz.pinned (.plain (OpenSpec.ofChange loopTellsSpec)) loopTellsCard

/-- THE TIED CARD OF 'checkreinlaw12.LoopDeep'. -/
def loopDeepCard : Claim7 := { stood := { row := loopDeepRow, standIns := [], harness := (true, "2f3ad3db90be654f9a9f9af8ffe1a9f313c628941e5ab991174939f097d98df0"), looks := false }, kinds := [], alts := [], laidByText := true, laidKinds := [.data, .pinned], laidTests := true, laidLooks := .later }
def LoopDeepCardSaid : Prop := Claim7.holds Tryz.pinned (.plain (OpenSpec.ofChange loopDeepSpec)) loopDeepCard

/-- THE SECOND FORM's CARD OF 'checkreinlaw11.DomTree'. -/
def domTreeUptoCard : Claim7 := { stood := { row := domTreeUptoRow, standIns := [], harness := (true, "2f3ad3db90be654f9a9f9af8ffe1a9f313c628941e5ab991174939f097d98df0"), looks := false }, kinds := [], alts := [], laidByText := true, laidKinds := [.data, .pinned], laidTests := true, laidLooks := .later }
def DomTreeUptoCardSaid : Prop := Claim7.holds Tryz.pinned (.plain (OpenSpec.upto domTreeSpec)) domTreeUptoCard

/-- THE SECOND FORM's CARD OF 'checkreinlaw16.SingleTells'. -/
def singleTellsUptoCard : Claim7 := { stood := { row := singleTellsUptoRow, standIns := [], harness := (true, "2f3ad3db90be654f9a9f9af8ffe1a9f313c628941e5ab991174939f097d98df0"), looks := false }, kinds := [], alts := [], laidByText := true, laidKinds := [.data, .pinned], laidTests := true, laidLooks := .later }
def SingleTellsUptoCardSaid : Prop := Claim7.holds Tryz.pinned (.plain (OpenSpec.upto singleTellsSpec)) singleTellsUptoCard

/-- THE SECOND FORM's CARD OF 'checkreinlaw12.LoopReduces'. -/
def loopReducesUptoCard : Claim7 := { stood := { row := loopReducesUptoRow, standIns := [], harness := (true, "2f3ad3db90be654f9a9f9af8ffe1a9f313c628941e5ab991174939f097d98df0"), looks := false }, kinds := [], alts := [], laidByText := true, laidKinds := [.data, .pinned], laidTests := true, laidLooks := .later }
def LoopReducesUptoCardSaid : Prop := Claim7.holds Tryz.pinned (.plain (OpenSpec.upto loopReducesSpec)) loopReducesUptoCard

/-- THE SECOND FORM's CARD OF 'checkreinlaw12.LoopNests'. -/
def loopNestsUptoCard : Claim7 := { stood := { row := loopNestsUptoRow, standIns := [], harness := (true, "2f3ad3db90be654f9a9f9af8ffe1a9f313c628941e5ab991174939f097d98df0"), looks := false }, kinds := [], alts := [], laidByText := true, laidKinds := [.data, .pinned], laidTests := true, laidLooks := .later }
def LoopNestsUptoCardSaid : Prop := Claim7.holds Tryz.pinned (.plain (OpenSpec.upto loopNestsSpec)) loopNestsUptoCard

/-- THE SECOND FORM's CARD OF 'checkreinlaw12.LoopTells'. -/
def loopTellsUptoCard : Claim7 := { stood := { row := loopTellsUptoRow, standIns := [], harness := (true, "2f3ad3db90be654f9a9f9af8ffe1a9f313c628941e5ab991174939f097d98df0"), looks := false }, kinds := [], alts := [], laidByText := true, laidKinds := [.data, .pinned], laidTests := true, laidLooks := .later }
def LoopTellsUptoCardSaid : Prop := Claim7.holds Tryz.pinned (.plain (OpenSpec.upto loopTellsSpec)) loopTellsUptoCard

/-- THE SECOND FORM's CARD OF 'checkreinlaw12.LoopDeep'. -/
def loopDeepUptoCard : Claim7 := { stood := { row := loopDeepUptoRow, standIns := [], harness := (true, "2f3ad3db90be654f9a9f9af8ffe1a9f313c628941e5ab991174939f097d98df0"), looks := false }, kinds := [], alts := [], laidByText := true, laidKinds := [.data, .pinned], laidTests := true, laidLooks := .later }
def LoopDeepUptoCardSaid : Prop := Claim7.holds Tryz.pinned (.plain (OpenSpec.upto loopDeepSpec)) loopDeepUptoCard
end Rows
end Go.Proofs.YtcjodjmmojbigaaGreatDoor
