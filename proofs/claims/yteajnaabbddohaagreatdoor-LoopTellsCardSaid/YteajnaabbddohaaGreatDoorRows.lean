/-
  NARROWER THAN 'FOR EVERY INPUT', by the rows' own cells (each row's printed sentence says how): LoopReduces: laid · LoopNests: laid · LoopEnters: laid · LoopTells: laid · LoopDeep: laid · DomRuns: laid · SingleMade: laid.
  DERIVED. THE GIVEN ROWS OF THIS SEAT. 7 by the template 'for every input the law returns true; each argument reads behind the call as it read before'; 0 by the template 'total and deterministic' (their statements: YteajnaabbddohaaGreatDoorTotals.lean).
  GIVEN WITH THE SEED: the statements are not yours to turn. If you find one false, say at which input.
  Laid BY PROGRAM, IN A SANDBOX (cutbox-rows.mjs): the forced cells as the released guide's own fill.sh prints them over the translation ad1d49be9839ee3b… (all of the seat's roots in one cut). By AI agents, Wed Nov 11 2026. No macro, syntax, notation, axiom, sorry.
-/
import Derived.Test.YteajnaabbddohaaGreatDoorChecked
import GoSem.PinnedTables
import GoSem.Claim
import GoSem.ClaimJoined
import GoSem.ClaimMapViews
import Derived.JoinedTies
import Derived.KernelRfl
namespace Go.Proofs.YteajnaabbddohaaGreatDoor
/- THE CELL 'sum', in the pinned program and in every row, IS THE sha256 OF THE DUMP (.gsa) THAT YteajnaabbddohaaGreatDoorProg.lean LOADS. Nothing in Lean hashes anything: it is a label: what it is worth is what the hold of that sum in a sandbox is worth. -/
noncomputable def Tryz.pinned : Pinned := { name := "yteajnaabbddohaagreatdoor", sum := "ad1d49be9839ee3bae29ccb3e6f5f40c8222b48fd66f7dc85e6152b78dbce4bc", checked := Tryz.checked }
namespace Rows
def none {H : Type} : Left H := { results := [], args := [] }

/- WHAT THE LISTED PACKAGE-LEVEL VARIABLES READ AS WHEN THE CALL BEGINS. Each datum BY PROGRAM (the guide's laid-datum.mjs) off the statement by which the dump's own 'gosem.cut.vars' lays the variable. In a bare row this is a premise. The card (YteajnaabbddohaaGreatDoorCards.lean) ties it to the program's text. -/
def laid_unicode_properties {H : Type} : DataW H := .agg [.lit (.int .u8 1), .lit (.int .u8 1), .lit (.int .u8 1), .lit (.int .u8 1), .lit (.int .u8 1), .lit (.int .u8 1), .lit (.int .u8 1), .lit (.int .u8 1), .lit (.int .u8 1), .lit (.int .u8 1), .lit (.int .u8 1), .lit (.int .u8 1), .lit (.int .u8 1), .lit (.int .u8 1), .lit (.int .u8 1), .lit (.int .u8 1), .lit (.int .u8 1), .lit (.int .u8 1), .lit (.int .u8 1), .lit (.int .u8 1), .lit (.int .u8 1), .lit (.int .u8 1), .lit (.int .u8 1), .lit (.int .u8 1), .lit (.int .u8 1), .lit (.int .u8 1), .lit (.int .u8 1), .lit (.int .u8 1), .lit (.int .u8 1), .lit (.int .u8 1), .lit (.int .u8 1), .lit (.int .u8 1), .lit (.int .u8 144), .lit (.int .u8 130), .lit (.int .u8 130), .lit (.int .u8 130), .lit (.int .u8 136), .lit (.int .u8 130), .lit (.int .u8 130), .lit (.int .u8 130), .lit (.int .u8 130), .lit (.int .u8 130), .lit (.int .u8 130), .lit (.int .u8 136), .lit (.int .u8 130), .lit (.int .u8 130), .lit (.int .u8 130), .lit (.int .u8 130), .lit (.int .u8 132), .lit (.int .u8 132), .lit (.int .u8 132), .lit (.int .u8 132), .lit (.int .u8 132), .lit (.int .u8 132), .lit (.int .u8 132), .lit (.int .u8 132), .lit (.int .u8 132), .lit (.int .u8 132), .lit (.int .u8 130), .lit (.int .u8 130), .lit (.int .u8 136), .lit (.int .u8 136), .lit (.int .u8 136), .lit (.int .u8 130), .lit (.int .u8 130), .lit (.int .u8 160), .lit (.int .u8 160), .lit (.int .u8 160), .lit (.int .u8 160), .lit (.int .u8 160), .lit (.int .u8 160), .lit (.int .u8 160), .lit (.int .u8 160), .lit (.int .u8 160), .lit (.int .u8 160), .lit (.int .u8 160), .lit (.int .u8 160), .lit (.int .u8 160), .lit (.int .u8 160), .lit (.int .u8 160), .lit (.int .u8 160), .lit (.int .u8 160), .lit (.int .u8 160), .lit (.int .u8 160), .lit (.int .u8 160), .lit (.int .u8 160), .lit (.int .u8 160), .lit (.int .u8 160), .lit (.int .u8 160), .lit (.int .u8 160), .lit (.int .u8 160), .lit (.int .u8 130), .lit (.int .u8 130), .lit (.int .u8 130), .lit (.int .u8 136), .lit (.int .u8 130), .lit (.int .u8 136), .lit (.int .u8 192), .lit (.int .u8 192), .lit (.int .u8 192), .lit (.int .u8 192), .lit (.int .u8 192), .lit (.int .u8 192), .lit (.int .u8 192), .lit (.int .u8 192), .lit (.int .u8 192), .lit (.int .u8 192), .lit (.int .u8 192), .lit (.int .u8 192), .lit (.int .u8 192), .lit (.int .u8 192), .lit (.int .u8 192), .lit (.int .u8 192), .lit (.int .u8 192), .lit (.int .u8 192), .lit (.int .u8 192), .lit (.int .u8 192), .lit (.int .u8 192), .lit (.int .u8 192), .lit (.int .u8 192), .lit (.int .u8 192), .lit (.int .u8 192), .lit (.int .u8 192), .lit (.int .u8 130), .lit (.int .u8 136), .lit (.int .u8 130), .lit (.int .u8 136), .lit (.int .u8 1), .lit (.int .u8 1), .lit (.int .u8 1), .lit (.int .u8 1), .lit (.int .u8 1), .lit (.int .u8 1), .lit (.int .u8 1), .lit (.int .u8 1), .lit (.int .u8 1), .lit (.int .u8 1), .lit (.int .u8 1), .lit (.int .u8 1), .lit (.int .u8 1), .lit (.int .u8 1), .lit (.int .u8 1), .lit (.int .u8 1), .lit (.int .u8 1), .lit (.int .u8 1), .lit (.int .u8 1), .lit (.int .u8 1), .lit (.int .u8 1), .lit (.int .u8 1), .lit (.int .u8 1), .lit (.int .u8 1), .lit (.int .u8 1), .lit (.int .u8 1), .lit (.int .u8 1), .lit (.int .u8 1), .lit (.int .u8 1), .lit (.int .u8 1), .lit (.int .u8 1), .lit (.int .u8 1), .lit (.int .u8 1), .lit (.int .u8 16), .lit (.int .u8 130), .lit (.int .u8 136), .lit (.int .u8 136), .lit (.int .u8 136), .lit (.int .u8 136), .lit (.int .u8 136), .lit (.int .u8 130), .lit (.int .u8 136), .lit (.int .u8 136), .lit (.int .u8 224), .lit (.int .u8 130), .lit (.int .u8 136), .lit (.int .u8 0), .lit (.int .u8 136), .lit (.int .u8 136), .lit (.int .u8 136), .lit (.int .u8 136), .lit (.int .u8 132), .lit (.int .u8 132), .lit (.int .u8 136), .lit (.int .u8 192), .lit (.int .u8 130), .lit (.int .u8 130), .lit (.int .u8 136), .lit (.int .u8 132), .lit (.int .u8 224), .lit (.int .u8 130), .lit (.int .u8 132), .lit (.int .u8 132), .lit (.int .u8 132), .lit (.int .u8 130), .lit (.int .u8 160), .lit (.int .u8 160), .lit (.int .u8 160), .lit (.int .u8 160), .lit (.int .u8 160), .lit (.int .u8 160), .lit (.int .u8 160), .lit (.int .u8 160), .lit (.int .u8 160), .lit (.int .u8 160), .lit (.int .u8 160), .lit (.int .u8 160), .lit (.int .u8 160), .lit (.int .u8 160), .lit (.int .u8 160), .lit (.int .u8 160), .lit (.int .u8 160), .lit (.int .u8 160), .lit (.int .u8 160), .lit (.int .u8 160), .lit (.int .u8 160), .lit (.int .u8 160), .lit (.int .u8 160), .lit (.int .u8 136), .lit (.int .u8 160), .lit (.int .u8 160), .lit (.int .u8 160), .lit (.int .u8 160), .lit (.int .u8 160), .lit (.int .u8 160), .lit (.int .u8 160), .lit (.int .u8 192), .lit (.int .u8 192), .lit (.int .u8 192), .lit (.int .u8 192), .lit (.int .u8 192), .lit (.int .u8 192), .lit (.int .u8 192), .lit (.int .u8 192), .lit (.int .u8 192), .lit (.int .u8 192), .lit (.int .u8 192), .lit (.int .u8 192), .lit (.int .u8 192), .lit (.int .u8 192), .lit (.int .u8 192), .lit (.int .u8 192), .lit (.int .u8 192), .lit (.int .u8 192), .lit (.int .u8 192), .lit (.int .u8 192), .lit (.int .u8 192), .lit (.int .u8 192), .lit (.int .u8 192), .lit (.int .u8 192), .lit (.int .u8 136), .lit (.int .u8 192), .lit (.int .u8 192), .lit (.int .u8 192), .lit (.int .u8 192), .lit (.int .u8 192), .lit (.int .u8 192), .lit (.int .u8 192), .lit (.int .u8 192)]
/-- One of Go's own tables, pinned by name: the form's constant. -/
def laid_unicode_Letter : DataW Unit := Go.Pinned.letter

/-- 'checkreinlaw12.LoopReduces': WHATEVER THE INPUT: true; the input reads as it did. -/
def loopReducesSpec : ChangeSpec := { name := "loopReduces", fn := fun _ => fun
  | [d] => { results := [.lit (.bool true)], args := [d] }
  | _ => none }
def loopReducesRow : OpenClaim := { program := "yteajnaabbddohaagreatdoor", sum := "ad1d49be9839ee3bae29ccb3e6f5f40c8222b48fd66f7dc85e6152b78dbce4bc", func := "checkrein/checkreinlaw12.LoopReduces", spec := "loopReduces", unfollowed := true, recurses := true, named := ["unicode.properties", "unicode.Letter"], apart := false, laid := [("unicode.properties", laid_unicode_properties), ("unicode.Letter", laid_unicode_Letter)] }
def LoopReducesSaid : Prop := loopReducesRow.holds Tryz.pinned (OpenSpec.ofChange loopReducesSpec)

/-- ITS FALSE NEIGHBOUR: 'it returns false'. Refute it at one input. -/
def loopReducesWrong : ChangeSpec := { name := "loopReduces", fn := fun _ => fun
  | [d] => { results := [.lit (.bool false)], args := [d] }
  | _ => none }
def LoopReducesWrongFalsely : Prop := loopReducesRow.holds Tryz.pinned (OpenSpec.ofChange loopReducesWrong)

/-- 'checkreinlaw12.LoopNests': WHATEVER THE INPUT: true; the input reads as it did. -/
def loopNestsSpec : ChangeSpec := { name := "loopNests", fn := fun _ => fun
  | [d] => { results := [.lit (.bool true)], args := [d] }
  | _ => none }
def loopNestsRow : OpenClaim := { program := "yteajnaabbddohaagreatdoor", sum := "ad1d49be9839ee3bae29ccb3e6f5f40c8222b48fd66f7dc85e6152b78dbce4bc", func := "checkrein/checkreinlaw12.LoopNests", spec := "loopNests", unfollowed := true, recurses := true, named := ["unicode.properties", "unicode.Letter"], apart := false, laid := [("unicode.properties", laid_unicode_properties), ("unicode.Letter", laid_unicode_Letter)] }
def LoopNestsSaid : Prop := loopNestsRow.holds Tryz.pinned (OpenSpec.ofChange loopNestsSpec)

/-- ITS FALSE NEIGHBOUR: 'it returns false'. Refute it at one input. -/
def loopNestsWrong : ChangeSpec := { name := "loopNests", fn := fun _ => fun
  | [d] => { results := [.lit (.bool false)], args := [d] }
  | _ => none }
def LoopNestsWrongFalsely : Prop := loopNestsRow.holds Tryz.pinned (OpenSpec.ofChange loopNestsWrong)

/-- 'checkreinlaw12.LoopEnters': WHATEVER THE INPUT: true; the input reads as it did. -/
def loopEntersSpec : ChangeSpec := { name := "loopEnters", fn := fun _ => fun
  | [d1, d2, d3] => { results := [.lit (.bool true)], args := [d1, d2, d3] }
  | _ => none }
def loopEntersRow : OpenClaim := { program := "yteajnaabbddohaagreatdoor", sum := "ad1d49be9839ee3bae29ccb3e6f5f40c8222b48fd66f7dc85e6152b78dbce4bc", func := "checkrein/checkreinlaw12.LoopEnters", spec := "loopEnters", unfollowed := true, recurses := true, named := ["unicode.properties", "unicode.Letter"], apart := false, laid := [("unicode.properties", laid_unicode_properties), ("unicode.Letter", laid_unicode_Letter)] }
def LoopEntersSaid : Prop := loopEntersRow.holds Tryz.pinned (OpenSpec.ofChange loopEntersSpec)

/-- ITS FALSE NEIGHBOUR: 'it returns false'. Refute it at one input. -/
def loopEntersWrong : ChangeSpec := { name := "loopEnters", fn := fun _ => fun
  | [d1, d2, d3] => { results := [.lit (.bool false)], args := [d1, d2, d3] }
  | _ => none }
def LoopEntersWrongFalsely : Prop := loopEntersRow.holds Tryz.pinned (OpenSpec.ofChange loopEntersWrong)

/-- 'checkreinlaw12.LoopTells': WHATEVER THE INPUT: true; the input reads as it did. -/
def loopTellsSpec : ChangeSpec := { name := "loopTells", fn := fun _ => fun
  | [d] => { results := [.lit (.bool true)], args := [d] }
  | _ => none }
def loopTellsRow : OpenClaim := { program := "yteajnaabbddohaagreatdoor", sum := "ad1d49be9839ee3bae29ccb3e6f5f40c8222b48fd66f7dc85e6152b78dbce4bc", func := "checkrein/checkreinlaw12.LoopTells", spec := "loopTells", unfollowed := true, recurses := true, named := ["unicode.properties", "unicode.Letter"], apart := false, laid := [("unicode.properties", laid_unicode_properties), ("unicode.Letter", laid_unicode_Letter)] }
def LoopTellsSaid : Prop := loopTellsRow.holds Tryz.pinned (OpenSpec.ofChange loopTellsSpec)

/-- ITS FALSE NEIGHBOUR: 'it returns false'. Refute it at one input. -/
def loopTellsWrong : ChangeSpec := { name := "loopTells", fn := fun _ => fun
  | [d] => { results := [.lit (.bool false)], args := [d] }
  | _ => none }
def LoopTellsWrongFalsely : Prop := loopTellsRow.holds Tryz.pinned (OpenSpec.ofChange loopTellsWrong)

/-- 'checkreinlaw12.LoopDeep': WHATEVER THE INPUT: true; the input reads as it did. -/
def loopDeepSpec : ChangeSpec := { name := "loopDeep", fn := fun _ => fun
  | [d] => { results := [.lit (.bool true)], args := [d] }
  | _ => none }
def loopDeepRow : OpenClaim := { program := "yteajnaabbddohaagreatdoor", sum := "ad1d49be9839ee3bae29ccb3e6f5f40c8222b48fd66f7dc85e6152b78dbce4bc", func := "checkrein/checkreinlaw12.LoopDeep", spec := "loopDeep", unfollowed := true, recurses := true, named := ["unicode.properties", "unicode.Letter"], apart := false, laid := [("unicode.properties", laid_unicode_properties), ("unicode.Letter", laid_unicode_Letter)] }
def LoopDeepSaid : Prop := loopDeepRow.holds Tryz.pinned (OpenSpec.ofChange loopDeepSpec)

/-- ITS FALSE NEIGHBOUR: 'it returns false'. Refute it at one input. -/
def loopDeepWrong : ChangeSpec := { name := "loopDeep", fn := fun _ => fun
  | [d] => { results := [.lit (.bool false)], args := [d] }
  | _ => none }
def LoopDeepWrongFalsely : Prop := loopDeepRow.holds Tryz.pinned (OpenSpec.ofChange loopDeepWrong)

/-- 'checkreinlaw11.DomRuns': WHATEVER THE INPUT: true; the input reads as it did. -/
def domRunsSpec : ChangeSpec := { name := "domRuns", fn := fun _ => fun
  | [d1, d2, d3] => { results := [.lit (.bool true)], args := [d1, d2, d3] }
  | _ => none }
def domRunsRow : OpenClaim := { program := "yteajnaabbddohaagreatdoor", sum := "ad1d49be9839ee3bae29ccb3e6f5f40c8222b48fd66f7dc85e6152b78dbce4bc", func := "checkrein/checkreinlaw11.DomRuns", spec := "domRuns", unfollowed := true, recurses := true, named := ["unicode.properties", "unicode.Letter"], apart := false, laid := [("unicode.properties", laid_unicode_properties), ("unicode.Letter", laid_unicode_Letter)] }
def DomRunsSaid : Prop := domRunsRow.holds Tryz.pinned (OpenSpec.ofChange domRunsSpec)

/-- ITS FALSE NEIGHBOUR: 'it returns false'. Refute it at one input. -/
def domRunsWrong : ChangeSpec := { name := "domRuns", fn := fun _ => fun
  | [d1, d2, d3] => { results := [.lit (.bool false)], args := [d1, d2, d3] }
  | _ => none }
def DomRunsWrongFalsely : Prop := domRunsRow.holds Tryz.pinned (OpenSpec.ofChange domRunsWrong)

/-- 'checkreinlaw16.SingleMade': WHATEVER THE INPUT: true; the input reads as it did. -/
def singleMadeSpec : ChangeSpec := { name := "singleMade", fn := fun _ => fun
  | [d1, d2, d3] => { results := [.lit (.bool true)], args := [d1, d2, d3] }
  | _ => none }
def singleMadeRow : OpenClaim := { program := "yteajnaabbddohaagreatdoor", sum := "ad1d49be9839ee3bae29ccb3e6f5f40c8222b48fd66f7dc85e6152b78dbce4bc", func := "checkrein/checkreinlaw16.SingleMade", spec := "singleMade", unfollowed := true, recurses := true, named := ["unicode.properties", "unicode.Letter"], apart := false, laid := [("unicode.properties", laid_unicode_properties), ("unicode.Letter", laid_unicode_Letter)] }
def SingleMadeSaid : Prop := singleMadeRow.holds Tryz.pinned (OpenSpec.ofChange singleMadeSpec)

/-- ITS FALSE NEIGHBOUR: 'it returns false'. Refute it at one input. -/
def singleMadeWrong : ChangeSpec := { name := "singleMade", fn := fun _ => fun
  | [d1, d2, d3] => { results := [.lit (.bool false)], args := [d1, d2, d3] }
  | _ => none }
def SingleMadeWrongFalsely : Prop := singleMadeRow.holds Tryz.pinned (OpenSpec.ofChange singleMadeWrong)

/- THE SECOND FORM. 'bulk': how many values and letters a reading holds, each counted each time it is reached (what is shared counts as often as it is met; a slice's spare places count too). A statement '..UptoSaid' is the law's where the arguments, and the package variables that the reading takes, are together of bulk at most 1048576: NARROWER than '..Said'. Prove '..Said' where nothing that the law and all that it calls make is longer than what came in: it says more and counts as full. Else prove '..UptoSaid'. A law counts once. -/
mutual
def uptoBulk {H : Type} : DataW H → Nat
  | .lit (.string bytes) => bytes.length + 1
  | .lit _ => 1
  | .nil => 1
  | .ptr d => uptoBulk d + 1
  | .slice elems spare => uptoBulkAll elems + uptoBulkAll spare + 1
  | .agg parts => uptoBulkAll parts + 1
  | .iface _ d => uptoBulk d + 1
  | .map entries => uptoBulkEntries entries + 1
  | .held _ => 1
def uptoBulkAll {H : Type} : List (DataW H) → Nat
  | [] => 0
  | d :: r => uptoBulk d + uptoBulkAll r
def uptoBulkEntries {H : Type} : List (Lit × DataW H) → Nat
  | [] => 0
  | x :: r => uptoBulkEntry x + uptoBulkEntries r
def uptoBulkEntry {H : Type} : Lit × DataW H → Nat
  | (.string bytes, d) => bytes.length + uptoBulk d + 1
  | (_, d) => uptoBulk d + 1
 end
def uptoSmall : (H : Type) → List (DataW H) → Bool := fun _ ds => decide (uptoBulkAll ds ≤ 1048576)
def OpenSpec.upto (s : _root_.Go.ChangeSpec) : _root_.Go.OpenSpec := { _root_.Go.OpenSpec.ofChange s with cond := some uptoSmall }

/-- 'checkreinlaw12.LoopReduces', WHERE WHAT IT READS IS OF BULK AT MOST 1048576: true; the input reads as it did. -/
def loopReducesUptoRow : OpenClaim := { program := "yteajnaabbddohaagreatdoor", sum := "ad1d49be9839ee3bae29ccb3e6f5f40c8222b48fd66f7dc85e6152b78dbce4bc", func := "checkrein/checkreinlaw12.LoopReduces", spec := "loopReduces", unfollowed := true, recurses := true, named := ["unicode.properties", "unicode.Letter"], apart := false, laid := [("unicode.properties", laid_unicode_properties), ("unicode.Letter", laid_unicode_Letter)], narrowed := true }
def LoopReducesUptoSaid : Prop := loopReducesUptoRow.holds Tryz.pinned (OpenSpec.upto loopReducesSpec)

/-- 'checkreinlaw12.LoopNests', WHERE WHAT IT READS IS OF BULK AT MOST 1048576: true; the input reads as it did. -/
def loopNestsUptoRow : OpenClaim := { program := "yteajnaabbddohaagreatdoor", sum := "ad1d49be9839ee3bae29ccb3e6f5f40c8222b48fd66f7dc85e6152b78dbce4bc", func := "checkrein/checkreinlaw12.LoopNests", spec := "loopNests", unfollowed := true, recurses := true, named := ["unicode.properties", "unicode.Letter"], apart := false, laid := [("unicode.properties", laid_unicode_properties), ("unicode.Letter", laid_unicode_Letter)], narrowed := true }
def LoopNestsUptoSaid : Prop := loopNestsUptoRow.holds Tryz.pinned (OpenSpec.upto loopNestsSpec)

/-- 'checkreinlaw12.LoopEnters', WHERE WHAT IT READS IS OF BULK AT MOST 1048576: true; the input reads as it did. -/
def loopEntersUptoRow : OpenClaim := { program := "yteajnaabbddohaagreatdoor", sum := "ad1d49be9839ee3bae29ccb3e6f5f40c8222b48fd66f7dc85e6152b78dbce4bc", func := "checkrein/checkreinlaw12.LoopEnters", spec := "loopEnters", unfollowed := true, recurses := true, named := ["unicode.properties", "unicode.Letter"], apart := false, laid := [("unicode.properties", laid_unicode_properties), ("unicode.Letter", laid_unicode_Letter)], narrowed := true }
def LoopEntersUptoSaid : Prop := loopEntersUptoRow.holds Tryz.pinned (OpenSpec.upto loopEntersSpec)

/-- 'checkreinlaw12.LoopTells', WHERE WHAT IT READS IS OF BULK AT MOST 1048576: true; the input reads as it did. -/
def loopTellsUptoRow : OpenClaim := { program := "yteajnaabbddohaagreatdoor", sum := "ad1d49be9839ee3bae29ccb3e6f5f40c8222b48fd66f7dc85e6152b78dbce4bc", func := "checkrein/checkreinlaw12.LoopTells", spec := "loopTells", unfollowed := true, recurses := true, named := ["unicode.properties", "unicode.Letter"], apart := false, laid := [("unicode.properties", laid_unicode_properties), ("unicode.Letter", laid_unicode_Letter)], narrowed := true }
def LoopTellsUptoSaid : Prop := loopTellsUptoRow.holds Tryz.pinned (OpenSpec.upto loopTellsSpec)

/-- 'checkreinlaw12.LoopDeep', WHERE WHAT IT READS IS OF BULK AT MOST 1048576: true; the input reads as it did. -/
def loopDeepUptoRow : OpenClaim := { program := "yteajnaabbddohaagreatdoor", sum := "ad1d49be9839ee3bae29ccb3e6f5f40c8222b48fd66f7dc85e6152b78dbce4bc", func := "checkrein/checkreinlaw12.LoopDeep", spec := "loopDeep", unfollowed := true, recurses := true, named := ["unicode.properties", "unicode.Letter"], apart := false, laid := [("unicode.properties", laid_unicode_properties), ("unicode.Letter", laid_unicode_Letter)], narrowed := true }
def LoopDeepUptoSaid : Prop := loopDeepUptoRow.holds Tryz.pinned (OpenSpec.upto loopDeepSpec)

/-- 'checkreinlaw11.DomRuns', WHERE WHAT IT READS IS OF BULK AT MOST 1048576: true; the input reads as it did. -/
def domRunsUptoRow : OpenClaim := { program := "yteajnaabbddohaagreatdoor", sum := "ad1d49be9839ee3bae29ccb3e6f5f40c8222b48fd66f7dc85e6152b78dbce4bc", func := "checkrein/checkreinlaw11.DomRuns", spec := "domRuns", unfollowed := true, recurses := true, named := ["unicode.properties", "unicode.Letter"], apart := false, laid := [("unicode.properties", laid_unicode_properties), ("unicode.Letter", laid_unicode_Letter)], narrowed := true }
def DomRunsUptoSaid : Prop := domRunsUptoRow.holds Tryz.pinned (OpenSpec.upto domRunsSpec)

/-- 'checkreinlaw16.SingleMade', WHERE WHAT IT READS IS OF BULK AT MOST 1048576: true; the input reads as it did. -/
def singleMadeUptoRow : OpenClaim := { program := "yteajnaabbddohaagreatdoor", sum := "ad1d49be9839ee3bae29ccb3e6f5f40c8222b48fd66f7dc85e6152b78dbce4bc", func := "checkrein/checkreinlaw16.SingleMade", spec := "singleMade", unfollowed := true, recurses := true, named := ["unicode.properties", "unicode.Letter"], apart := false, laid := [("unicode.properties", laid_unicode_properties), ("unicode.Letter", laid_unicode_Letter)], narrowed := true }
def SingleMadeUptoSaid : Prop := singleMadeUptoRow.holds Tryz.pinned (OpenSpec.upto singleMadeSpec)

end Rows
end Go.Proofs.YteajnaabbddohaaGreatDoor
