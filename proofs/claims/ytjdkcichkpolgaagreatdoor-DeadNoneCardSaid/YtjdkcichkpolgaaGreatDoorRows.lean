/-
  NARROWER THAN 'FOR EVERY INPUT', by the rows' own cells (each row's printed sentence says how): GraphPrunes: laid · DomSteps: laid · TidyTells: laid · TidyNone: laid · DeadNone: laid · DeadTells: laid · MergeWindows: laid.
  DERIVED. THE GIVEN ROWS OF THIS SEAT. 7 by the template 'for every input the law returns true; each argument reads behind the call as it read before'; 0 by the template 'total and deterministic' (their statements: YtjdkcichkpolgaaGreatDoorTotals.lean).
  GIVEN WITH THE SEED: the statements are not yours to turn. If you find one false, say at which input.
  Laid BY PROGRAM, IN A SANDBOX (cutbox-rows.mjs): the forced cells as the released guide's own fill.sh prints them over the translation 1899860ec328c462… (all of the seat's roots in one cut). By AI agents, Wed Nov 11 2026. No macro, syntax, notation, axiom, sorry.
-/
import Derived.Test.YtjdkcichkpolgaaGreatDoorChecked
import GoSem.PinnedTables
import GoSem.Claim
import GoSem.ClaimJoined
import GoSem.ClaimMapViews
import Derived.JoinedTies
import Derived.KernelRfl
namespace Go.Proofs.YtjdkcichkpolgaaGreatDoor
/- THE CELL 'sum', in the pinned program and in every row, IS THE sha256 OF THE DUMP (.gsa) THAT YtjdkcichkpolgaaGreatDoorProg.lean LOADS. Nothing in Lean hashes anything: it is a label: what it is worth is what the hold of that sum in a sandbox is worth. -/
noncomputable def Tryz.pinned : Pinned := { name := "ytjdkcichkpolgaagreatdoor", sum := "1899860ec328c462fb60cc8eb59151163ea99dffff43540e973bc3b731bc9704", checked := Tryz.checked }
namespace Rows
def none {H : Type} : Left H := { results := [], args := [] }

/- WHAT THE LISTED PACKAGE-LEVEL VARIABLES READ AS WHEN THE CALL BEGINS. Each datum BY PROGRAM (the guide's laid-datum.mjs) off the statement by which the dump's own 'gosem.cut.vars' lays the variable. In a bare row this is a premise. The card (YtjdkcichkpolgaaGreatDoorCards.lean) ties it to the program's text. -/
def laid_unicode_properties {H : Type} : DataW H := .agg [.lit (.int .u8 1), .lit (.int .u8 1), .lit (.int .u8 1), .lit (.int .u8 1), .lit (.int .u8 1), .lit (.int .u8 1), .lit (.int .u8 1), .lit (.int .u8 1), .lit (.int .u8 1), .lit (.int .u8 1), .lit (.int .u8 1), .lit (.int .u8 1), .lit (.int .u8 1), .lit (.int .u8 1), .lit (.int .u8 1), .lit (.int .u8 1), .lit (.int .u8 1), .lit (.int .u8 1), .lit (.int .u8 1), .lit (.int .u8 1), .lit (.int .u8 1), .lit (.int .u8 1), .lit (.int .u8 1), .lit (.int .u8 1), .lit (.int .u8 1), .lit (.int .u8 1), .lit (.int .u8 1), .lit (.int .u8 1), .lit (.int .u8 1), .lit (.int .u8 1), .lit (.int .u8 1), .lit (.int .u8 1), .lit (.int .u8 144), .lit (.int .u8 130), .lit (.int .u8 130), .lit (.int .u8 130), .lit (.int .u8 136), .lit (.int .u8 130), .lit (.int .u8 130), .lit (.int .u8 130), .lit (.int .u8 130), .lit (.int .u8 130), .lit (.int .u8 130), .lit (.int .u8 136), .lit (.int .u8 130), .lit (.int .u8 130), .lit (.int .u8 130), .lit (.int .u8 130), .lit (.int .u8 132), .lit (.int .u8 132), .lit (.int .u8 132), .lit (.int .u8 132), .lit (.int .u8 132), .lit (.int .u8 132), .lit (.int .u8 132), .lit (.int .u8 132), .lit (.int .u8 132), .lit (.int .u8 132), .lit (.int .u8 130), .lit (.int .u8 130), .lit (.int .u8 136), .lit (.int .u8 136), .lit (.int .u8 136), .lit (.int .u8 130), .lit (.int .u8 130), .lit (.int .u8 160), .lit (.int .u8 160), .lit (.int .u8 160), .lit (.int .u8 160), .lit (.int .u8 160), .lit (.int .u8 160), .lit (.int .u8 160), .lit (.int .u8 160), .lit (.int .u8 160), .lit (.int .u8 160), .lit (.int .u8 160), .lit (.int .u8 160), .lit (.int .u8 160), .lit (.int .u8 160), .lit (.int .u8 160), .lit (.int .u8 160), .lit (.int .u8 160), .lit (.int .u8 160), .lit (.int .u8 160), .lit (.int .u8 160), .lit (.int .u8 160), .lit (.int .u8 160), .lit (.int .u8 160), .lit (.int .u8 160), .lit (.int .u8 160), .lit (.int .u8 160), .lit (.int .u8 130), .lit (.int .u8 130), .lit (.int .u8 130), .lit (.int .u8 136), .lit (.int .u8 130), .lit (.int .u8 136), .lit (.int .u8 192), .lit (.int .u8 192), .lit (.int .u8 192), .lit (.int .u8 192), .lit (.int .u8 192), .lit (.int .u8 192), .lit (.int .u8 192), .lit (.int .u8 192), .lit (.int .u8 192), .lit (.int .u8 192), .lit (.int .u8 192), .lit (.int .u8 192), .lit (.int .u8 192), .lit (.int .u8 192), .lit (.int .u8 192), .lit (.int .u8 192), .lit (.int .u8 192), .lit (.int .u8 192), .lit (.int .u8 192), .lit (.int .u8 192), .lit (.int .u8 192), .lit (.int .u8 192), .lit (.int .u8 192), .lit (.int .u8 192), .lit (.int .u8 192), .lit (.int .u8 192), .lit (.int .u8 130), .lit (.int .u8 136), .lit (.int .u8 130), .lit (.int .u8 136), .lit (.int .u8 1), .lit (.int .u8 1), .lit (.int .u8 1), .lit (.int .u8 1), .lit (.int .u8 1), .lit (.int .u8 1), .lit (.int .u8 1), .lit (.int .u8 1), .lit (.int .u8 1), .lit (.int .u8 1), .lit (.int .u8 1), .lit (.int .u8 1), .lit (.int .u8 1), .lit (.int .u8 1), .lit (.int .u8 1), .lit (.int .u8 1), .lit (.int .u8 1), .lit (.int .u8 1), .lit (.int .u8 1), .lit (.int .u8 1), .lit (.int .u8 1), .lit (.int .u8 1), .lit (.int .u8 1), .lit (.int .u8 1), .lit (.int .u8 1), .lit (.int .u8 1), .lit (.int .u8 1), .lit (.int .u8 1), .lit (.int .u8 1), .lit (.int .u8 1), .lit (.int .u8 1), .lit (.int .u8 1), .lit (.int .u8 1), .lit (.int .u8 16), .lit (.int .u8 130), .lit (.int .u8 136), .lit (.int .u8 136), .lit (.int .u8 136), .lit (.int .u8 136), .lit (.int .u8 136), .lit (.int .u8 130), .lit (.int .u8 136), .lit (.int .u8 136), .lit (.int .u8 224), .lit (.int .u8 130), .lit (.int .u8 136), .lit (.int .u8 0), .lit (.int .u8 136), .lit (.int .u8 136), .lit (.int .u8 136), .lit (.int .u8 136), .lit (.int .u8 132), .lit (.int .u8 132), .lit (.int .u8 136), .lit (.int .u8 192), .lit (.int .u8 130), .lit (.int .u8 130), .lit (.int .u8 136), .lit (.int .u8 132), .lit (.int .u8 224), .lit (.int .u8 130), .lit (.int .u8 132), .lit (.int .u8 132), .lit (.int .u8 132), .lit (.int .u8 130), .lit (.int .u8 160), .lit (.int .u8 160), .lit (.int .u8 160), .lit (.int .u8 160), .lit (.int .u8 160), .lit (.int .u8 160), .lit (.int .u8 160), .lit (.int .u8 160), .lit (.int .u8 160), .lit (.int .u8 160), .lit (.int .u8 160), .lit (.int .u8 160), .lit (.int .u8 160), .lit (.int .u8 160), .lit (.int .u8 160), .lit (.int .u8 160), .lit (.int .u8 160), .lit (.int .u8 160), .lit (.int .u8 160), .lit (.int .u8 160), .lit (.int .u8 160), .lit (.int .u8 160), .lit (.int .u8 160), .lit (.int .u8 136), .lit (.int .u8 160), .lit (.int .u8 160), .lit (.int .u8 160), .lit (.int .u8 160), .lit (.int .u8 160), .lit (.int .u8 160), .lit (.int .u8 160), .lit (.int .u8 192), .lit (.int .u8 192), .lit (.int .u8 192), .lit (.int .u8 192), .lit (.int .u8 192), .lit (.int .u8 192), .lit (.int .u8 192), .lit (.int .u8 192), .lit (.int .u8 192), .lit (.int .u8 192), .lit (.int .u8 192), .lit (.int .u8 192), .lit (.int .u8 192), .lit (.int .u8 192), .lit (.int .u8 192), .lit (.int .u8 192), .lit (.int .u8 192), .lit (.int .u8 192), .lit (.int .u8 192), .lit (.int .u8 192), .lit (.int .u8 192), .lit (.int .u8 192), .lit (.int .u8 192), .lit (.int .u8 192), .lit (.int .u8 136), .lit (.int .u8 192), .lit (.int .u8 192), .lit (.int .u8 192), .lit (.int .u8 192), .lit (.int .u8 192), .lit (.int .u8 192), .lit (.int .u8 192), .lit (.int .u8 192)]
/-- One of Go's own tables, pinned by name: the form's constant. -/
def laid_unicode_Letter : DataW Unit := Go.Pinned.letter

/-- 'checkreinlaw10.GraphPrunes': WHATEVER THE INPUT: true; the input reads as it did. -/
def graphPrunesSpec : ChangeSpec := { name := "graphPrunes", fn := fun _ => fun
  | [d] => { results := [.lit (.bool true)], args := [d] }
  | _ => none }
def graphPrunesRow : OpenClaim := { program := "ytjdkcichkpolgaagreatdoor", sum := "1899860ec328c462fb60cc8eb59151163ea99dffff43540e973bc3b731bc9704", func := "checkrein/checkreinlaw10.GraphPrunes", spec := "graphPrunes", unfollowed := true, recurses := true, named := ["unicode.properties", "unicode.Letter"], apart := false, laid := [("unicode.properties", laid_unicode_properties), ("unicode.Letter", laid_unicode_Letter)] }
def GraphPrunesSaid : Prop := graphPrunesRow.holds Tryz.pinned (OpenSpec.ofChange graphPrunesSpec)

/-- ITS FALSE NEIGHBOUR: 'it returns false'. Refute it at one input. -/
def graphPrunesWrong : ChangeSpec := { name := "graphPrunes", fn := fun _ => fun
  | [d] => { results := [.lit (.bool false)], args := [d] }
  | _ => none }
def GraphPrunesWrongFalsely : Prop := graphPrunesRow.holds Tryz.pinned (OpenSpec.ofChange graphPrunesWrong)

/-- 'checkreinlaw11.DomSteps': WHATEVER THE INPUT: true; the input reads as it did. -/
def domStepsSpec : ChangeSpec := { name := "domSteps", fn := fun _ => fun
  | [d] => { results := [.lit (.bool true)], args := [d] }
  | _ => none }
def domStepsRow : OpenClaim := { program := "ytjdkcichkpolgaagreatdoor", sum := "1899860ec328c462fb60cc8eb59151163ea99dffff43540e973bc3b731bc9704", func := "checkrein/checkreinlaw11.DomSteps", spec := "domSteps", unfollowed := true, recurses := true, named := ["unicode.properties", "unicode.Letter"], apart := false, laid := [("unicode.properties", laid_unicode_properties), ("unicode.Letter", laid_unicode_Letter)] }
def DomStepsSaid : Prop := domStepsRow.holds Tryz.pinned (OpenSpec.ofChange domStepsSpec)

/-- ITS FALSE NEIGHBOUR: 'it returns false'. Refute it at one input. -/
def domStepsWrong : ChangeSpec := { name := "domSteps", fn := fun _ => fun
  | [d] => { results := [.lit (.bool false)], args := [d] }
  | _ => none }
def DomStepsWrongFalsely : Prop := domStepsRow.holds Tryz.pinned (OpenSpec.ofChange domStepsWrong)

/-- 'checkreinlaw33.TidyTells': WHATEVER THE INPUT: true; the input reads as it did. -/
def tidyTellsSpec : ChangeSpec := { name := "tidyTells", fn := fun _ => fun
  | [d1, d2, d3] => { results := [.lit (.bool true)], args := [d1, d2, d3] }
  | _ => none }
def tidyTellsRow : OpenClaim := { program := "ytjdkcichkpolgaagreatdoor", sum := "1899860ec328c462fb60cc8eb59151163ea99dffff43540e973bc3b731bc9704", func := "checkrein/checkreinlaw33.TidyTells", spec := "tidyTells", unfollowed := true, recurses := true, named := ["unicode.properties", "unicode.Letter"], apart := false, laid := [("unicode.properties", laid_unicode_properties), ("unicode.Letter", laid_unicode_Letter)] }
def TidyTellsSaid : Prop := tidyTellsRow.holds Tryz.pinned (OpenSpec.ofChange tidyTellsSpec)

/-- ITS FALSE NEIGHBOUR: 'it returns false'. Refute it at one input. -/
def tidyTellsWrong : ChangeSpec := { name := "tidyTells", fn := fun _ => fun
  | [d1, d2, d3] => { results := [.lit (.bool false)], args := [d1, d2, d3] }
  | _ => none }
def TidyTellsWrongFalsely : Prop := tidyTellsRow.holds Tryz.pinned (OpenSpec.ofChange tidyTellsWrong)

/-- 'checkreinlaw33.TidyNone': WHATEVER THE INPUT: true; the input reads as it did. -/
def tidyNoneSpec : ChangeSpec := { name := "tidyNone", fn := fun _ => fun
  | [d] => { results := [.lit (.bool true)], args := [d] }
  | _ => none }
def tidyNoneRow : OpenClaim := { program := "ytjdkcichkpolgaagreatdoor", sum := "1899860ec328c462fb60cc8eb59151163ea99dffff43540e973bc3b731bc9704", func := "checkrein/checkreinlaw33.TidyNone", spec := "tidyNone", unfollowed := true, recurses := true, named := ["unicode.properties", "unicode.Letter"], apart := false, laid := [("unicode.properties", laid_unicode_properties), ("unicode.Letter", laid_unicode_Letter)] }
def TidyNoneSaid : Prop := tidyNoneRow.holds Tryz.pinned (OpenSpec.ofChange tidyNoneSpec)

/-- ITS FALSE NEIGHBOUR: 'it returns false'. Refute it at one input. -/
def tidyNoneWrong : ChangeSpec := { name := "tidyNone", fn := fun _ => fun
  | [d] => { results := [.lit (.bool false)], args := [d] }
  | _ => none }
def TidyNoneWrongFalsely : Prop := tidyNoneRow.holds Tryz.pinned (OpenSpec.ofChange tidyNoneWrong)

/-- 'checkreinlaw32.DeadNone': WHATEVER THE INPUT: true; the input reads as it did. -/
def deadNoneSpec : ChangeSpec := { name := "deadNone", fn := fun _ => fun
  | [d] => { results := [.lit (.bool true)], args := [d] }
  | _ => none }
def deadNoneRow : OpenClaim := { program := "ytjdkcichkpolgaagreatdoor", sum := "1899860ec328c462fb60cc8eb59151163ea99dffff43540e973bc3b731bc9704", func := "checkrein/checkreinlaw32.DeadNone", spec := "deadNone", unfollowed := true, recurses := true, named := ["unicode.properties", "unicode.Letter"], apart := false, laid := [("unicode.properties", laid_unicode_properties), ("unicode.Letter", laid_unicode_Letter)] }
def DeadNoneSaid : Prop := deadNoneRow.holds Tryz.pinned (OpenSpec.ofChange deadNoneSpec)

/-- ITS FALSE NEIGHBOUR: 'it returns false'. Refute it at one input. -/
def deadNoneWrong : ChangeSpec := { name := "deadNone", fn := fun _ => fun
  | [d] => { results := [.lit (.bool false)], args := [d] }
  | _ => none }
def DeadNoneWrongFalsely : Prop := deadNoneRow.holds Tryz.pinned (OpenSpec.ofChange deadNoneWrong)

/-- 'checkreinlaw32.DeadTells': WHATEVER THE INPUT: true; the input reads as it did. -/
def deadTellsSpec : ChangeSpec := { name := "deadTells", fn := fun _ => fun
  | [d] => { results := [.lit (.bool true)], args := [d] }
  | _ => none }
def deadTellsRow : OpenClaim := { program := "ytjdkcichkpolgaagreatdoor", sum := "1899860ec328c462fb60cc8eb59151163ea99dffff43540e973bc3b731bc9704", func := "checkrein/checkreinlaw32.DeadTells", spec := "deadTells", unfollowed := true, recurses := true, named := ["unicode.properties", "unicode.Letter"], apart := false, laid := [("unicode.properties", laid_unicode_properties), ("unicode.Letter", laid_unicode_Letter)] }
def DeadTellsSaid : Prop := deadTellsRow.holds Tryz.pinned (OpenSpec.ofChange deadTellsSpec)

/-- ITS FALSE NEIGHBOUR: 'it returns false'. Refute it at one input. -/
def deadTellsWrong : ChangeSpec := { name := "deadTells", fn := fun _ => fun
  | [d] => { results := [.lit (.bool false)], args := [d] }
  | _ => none }
def DeadTellsWrongFalsely : Prop := deadTellsRow.holds Tryz.pinned (OpenSpec.ofChange deadTellsWrong)

/-- 'checkreinlaw34.MergeWindows': WHATEVER THE INPUT: true; the input reads as it did. -/
def mergeWindowsSpec : ChangeSpec := { name := "mergeWindows", fn := fun _ => fun
  | [d1, d2, d3] => { results := [.lit (.bool true)], args := [d1, d2, d3] }
  | _ => none }
def mergeWindowsRow : OpenClaim := { program := "ytjdkcichkpolgaagreatdoor", sum := "1899860ec328c462fb60cc8eb59151163ea99dffff43540e973bc3b731bc9704", func := "checkrein/checkreinlaw34.MergeWindows", spec := "mergeWindows", inPlace := ["slices.overlaps[checkrein/api.Inst]"], unfollowed := true, recurses := true, named := ["unicode.properties", "unicode.Letter"], apart := false, laid := [("unicode.properties", laid_unicode_properties), ("unicode.Letter", laid_unicode_Letter)] }
def MergeWindowsSaid : Prop := mergeWindowsRow.holds Tryz.pinned (OpenSpec.ofChange mergeWindowsSpec)

/-- ITS FALSE NEIGHBOUR: 'it returns false'. Refute it at one input. -/
def mergeWindowsWrong : ChangeSpec := { name := "mergeWindows", fn := fun _ => fun
  | [d1, d2, d3] => { results := [.lit (.bool false)], args := [d1, d2, d3] }
  | _ => none }
def MergeWindowsWrongFalsely : Prop := mergeWindowsRow.holds Tryz.pinned (OpenSpec.ofChange mergeWindowsWrong)

/- THE SECOND FORM. 'bulk': how many values and letters a reading holds, each counted each time it is reached (what is shared counts as often as it is met; a slice's spare places count too). A statement '..UptoSaid' is the law's where the arguments, and the package variables that the reading takes, are together of bulk at most 1048576: NARROWER than '..Said'. Prove '..Said' where nothing that the law and all that it calls make is longer than what came in: it says more and counts as full. Else prove '..UptoSaid'. A law counts once. -/
mutual
def uptoBulk {H : Type} : DataW H → Nat
  | .lit (.string bytes) => bytes.length + 1
  | .lit _ => 1
  | .nil => 1
  | .ptr d => uptoBulk d + 1
  | .slice elems spare => uptoBulkAll elems + uptoBulkAll spare + 1
  | .agg parts => uptoBulkAll parts + 1
  | .iface _ d => uptoBulk d + 1
  | .map entries => uptoBulkEntries entries + 1
  | .held _ => 1
def uptoBulkAll {H : Type} : List (DataW H) → Nat
  | [] => 0
  | d :: r => uptoBulk d + uptoBulkAll r
def uptoBulkEntries {H : Type} : List (Lit × DataW H) → Nat
  | [] => 0
  | x :: r => uptoBulkEntry x + uptoBulkEntries r
def uptoBulkEntry {H : Type} : Lit × DataW H → Nat
  | (.string bytes, d) => bytes.length + uptoBulk d + 1
  | (_, d) => uptoBulk d + 1
 end
def uptoSmall : (H : Type) → List (DataW H) → Bool := fun _ ds => decide (uptoBulkAll ds ≤ 1048576)
def OpenSpec.upto (s : _root_.Go.ChangeSpec) : _root_.Go.OpenSpec := { _root_.Go.OpenSpec.ofChange s with cond := some uptoSmall }

/-- 'checkreinlaw10.GraphPrunes', WHERE WHAT IT READS IS OF BULK AT MOST 1048576: true; the input reads as it did. -/
def graphPrunesUptoRow : OpenClaim := { program := "ytjdkcichkpolgaagreatdoor", sum := "1899860ec328c462fb60cc8eb59151163ea99dffff43540e973bc3b731bc9704", func := "checkrein/checkreinlaw10.GraphPrunes", spec := "graphPrunes", unfollowed := true, recurses := true, named := ["unicode.properties", "unicode.Letter"], apart := false, laid := [("unicode.properties", laid_unicode_properties), ("unicode.Letter", laid_unicode_Letter)], narrowed := true }
def GraphPrunesUptoSaid : Prop := graphPrunesUptoRow.holds Tryz.pinned (OpenSpec.upto graphPrunesSpec)

/-- 'checkreinlaw11.DomSteps', WHERE WHAT IT READS IS OF BULK AT MOST 1048576: true; the input reads as it did. -/
def domStepsUptoRow : OpenClaim := { program := "ytjdkcichkpolgaagreatdoor", sum := "1899860ec328c462fb60cc8eb59151163ea99dffff43540e973bc3b731bc9704", func := "checkrein/checkreinlaw11.DomSteps", spec := "domSteps", unfollowed := true, recurses := true, named := ["unicode.properties", "unicode.Letter"], apart := false, laid := [("unicode.properties", laid_unicode_properties), ("unicode.Letter", laid_unicode_Letter)], narrowed := true }
def DomStepsUptoSaid : Prop := domStepsUptoRow.holds Tryz.pinned (OpenSpec.upto domStepsSpec)

/-- 'checkreinlaw33.TidyTells', WHERE WHAT IT READS IS OF BULK AT MOST 1048576: true; the input reads as it did. -/
def tidyTellsUptoRow : OpenClaim := { program := "ytjdkcichkpolgaagreatdoor", sum := "1899860ec328c462fb60cc8eb59151163ea99dffff43540e973bc3b731bc9704", func := "checkrein/checkreinlaw33.TidyTells", spec := "tidyTells", unfollowed := true, recurses := true, named := ["unicode.properties", "unicode.Letter"], apart := false, laid := [("unicode.properties", laid_unicode_properties), ("unicode.Letter", laid_unicode_Letter)], narrowed := true }
def TidyTellsUptoSaid : Prop := tidyTellsUptoRow.holds Tryz.pinned (OpenSpec.upto tidyTellsSpec)

/-- 'checkreinlaw33.TidyNone', WHERE WHAT IT READS IS OF BULK AT MOST 1048576: true; the input reads as it did. -/
def tidyNoneUptoRow : OpenClaim := { program := "ytjdkcichkpolgaagreatdoor", sum := "1899860ec328c462fb60cc8eb59151163ea99dffff43540e973bc3b731bc9704", func := "checkrein/checkreinlaw33.TidyNone", spec := "tidyNone", unfollowed := true, recurses := true, named := ["unicode.properties", "unicode.Letter"], apart := false, laid := [("unicode.properties", laid_unicode_properties), ("unicode.Letter", laid_unicode_Letter)], narrowed := true }
def TidyNoneUptoSaid : Prop := tidyNoneUptoRow.holds Tryz.pinned (OpenSpec.upto tidyNoneSpec)

/-- 'checkreinlaw32.DeadNone', WHERE WHAT IT READS IS OF BULK AT MOST 1048576: true; the input reads as it did. -/
def deadNoneUptoRow : OpenClaim := { program := "ytjdkcichkpolgaagreatdoor", sum := "1899860ec328c462fb60cc8eb59151163ea99dffff43540e973bc3b731bc9704", func := "checkrein/checkreinlaw32.DeadNone", spec := "deadNone", unfollowed := true, recurses := true, named := ["unicode.properties", "unicode.Letter"], apart := false, laid := [("unicode.properties", laid_unicode_properties), ("unicode.Letter", laid_unicode_Letter)], narrowed := true }
def DeadNoneUptoSaid : Prop := deadNoneUptoRow.holds Tryz.pinned (OpenSpec.upto deadNoneSpec)

/-- 'checkreinlaw32.DeadTells', WHERE WHAT IT READS IS OF BULK AT MOST 1048576: true; the input reads as it did. -/
def deadTellsUptoRow : OpenClaim := { program := "ytjdkcichkpolgaagreatdoor", sum := "1899860ec328c462fb60cc8eb59151163ea99dffff43540e973bc3b731bc9704", func := "checkrein/checkreinlaw32.DeadTells", spec := "deadTells", unfollowed := true, recurses := true, named := ["unicode.properties", "unicode.Letter"], apart := false, laid := [("unicode.properties", laid_unicode_properties), ("unicode.Letter", laid_unicode_Letter)], narrowed := true }
def DeadTellsUptoSaid : Prop := deadTellsUptoRow.holds Tryz.pinned (OpenSpec.upto deadTellsSpec)

/-- 'checkreinlaw34.MergeWindows', WHERE WHAT IT READS IS OF BULK AT MOST 1048576: true; the input reads as it did. -/
def mergeWindowsUptoRow : OpenClaim := { program := "ytjdkcichkpolgaagreatdoor", sum := "1899860ec328c462fb60cc8eb59151163ea99dffff43540e973bc3b731bc9704", func := "checkrein/checkreinlaw34.MergeWindows", spec := "mergeWindows", inPlace := ["slices.overlaps[checkrein/api.Inst]"], unfollowed := true, recurses := true, named := ["unicode.properties", "unicode.Letter"], apart := false, laid := [("unicode.properties", laid_unicode_properties), ("unicode.Letter", laid_unicode_Letter)], narrowed := true }
def MergeWindowsUptoSaid : Prop := mergeWindowsUptoRow.holds Tryz.pinned (OpenSpec.upto mergeWindowsSpec)

end Rows
end Go.Proofs.YtjdkcichkpolgaaGreatDoor
