/-
  NARROWER THAN 'FOR EVERY INPUT', by the rows' own cells (each row's printed sentence says how): GraphPrunes: laid · GraphRuns: laid · DomFronts: laid · DomRuns: laid · DomOver: laid · DomSteps: laid · DomTree: laid.
  DERIVED. THE GIVEN ROWS OF THIS SEAT. 7 by the template 'for every input the law returns true; each argument reads behind the call as it read before'; 0 by the template 'total and deterministic' (their statements: YtjijlmddalbkbaaGreatDoorTotals.lean).
  GIVEN WITH THE SEED: the statements are not yours to turn. If you find one false, say at which input.
  Laid BY PROGRAM, IN A SANDBOX (cutbox-rows.mjs): the forced cells as the released guide's own fill.sh prints them over the translation 522c4e573a71e85c… (all of the seat's roots in one cut). By AI agents, Wed Nov 11 2026. No macro, syntax, notation, axiom, sorry.
-/
import Derived.Test.YtjijlmddalbkbaaGreatDoorChecked
import GoSem.PinnedTables
import GoSem.Claim
import GoSem.ClaimJoined
import GoSem.ClaimMapViews
import Derived.JoinedTies
import Derived.KernelRfl
namespace Go.Proofs.YtjijlmddalbkbaaGreatDoor
/- THE CELL 'sum', in the pinned program and in every row, IS THE sha256 OF THE DUMP (.gsa) THAT YtjijlmddalbkbaaGreatDoorProg.lean LOADS. Nothing in Lean hashes anything: it is a label: what it is worth is what the hold of that sum in a sandbox is worth. -/
noncomputable def Tryz.pinned : Pinned := { name := "ytjijlmddalbkbaagreatdoor", sum := "522c4e573a71e85cd6c65e1aecfd69c1b1496700e4b89294571622818d43a025", checked := Tryz.checked }
namespace Rows
def none {H : Type} : Left H := { results := [], args := [] }

/- WHAT THE LISTED PACKAGE-LEVEL VARIABLES READ AS WHEN THE CALL BEGINS. Each datum BY PROGRAM (the guide's laid-datum.mjs) off the statement by which the dump's own 'gosem.cut.vars' lays the variable. In a bare row this is a premise. The card (YtjijlmddalbkbaaGreatDoorCards.lean) ties it to the program's text. -/
def laid_unicode_properties {H : Type} : DataW H := .agg [.lit (.int .u8 1), .lit (.int .u8 1), .lit (.int .u8 1), .lit (.int .u8 1), .lit (.int .u8 1), .lit (.int .u8 1), .lit (.int .u8 1), .lit (.int .u8 1), .lit (.int .u8 1), .lit (.int .u8 1), .lit (.int .u8 1), .lit (.int .u8 1), .lit (.int .u8 1), .lit (.int .u8 1), .lit (.int .u8 1), .lit (.int .u8 1), .lit (.int .u8 1), .lit (.int .u8 1), .lit (.int .u8 1), .lit (.int .u8 1), .lit (.int .u8 1), .lit (.int .u8 1), .lit (.int .u8 1), .lit (.int .u8 1), .lit (.int .u8 1), .lit (.int .u8 1), .lit (.int .u8 1), .lit (.int .u8 1), .lit (.int .u8 1), .lit (.int .u8 1), .lit (.int .u8 1), .lit (.int .u8 1), .lit (.int .u8 144), .lit (.int .u8 130), .lit (.int .u8 130), .lit (.int .u8 130), .lit (.int .u8 136), .lit (.int .u8 130), .lit (.int .u8 130), .lit (.int .u8 130), .lit (.int .u8 130), .lit (.int .u8 130), .lit (.int .u8 130), .lit (.int .u8 136), .lit (.int .u8 130), .lit (.int .u8 130), .lit (.int .u8 130), .lit (.int .u8 130), .lit (.int .u8 132), .lit (.int .u8 132), .lit (.int .u8 132), .lit (.int .u8 132), .lit (.int .u8 132), .lit (.int .u8 132), .lit (.int .u8 132), .lit (.int .u8 132), .lit (.int .u8 132), .lit (.int .u8 132), .lit (.int .u8 130), .lit (.int .u8 130), .lit (.int .u8 136), .lit (.int .u8 136), .lit (.int .u8 136), .lit (.int .u8 130), .lit (.int .u8 130), .lit (.int .u8 160), .lit (.int .u8 160), .lit (.int .u8 160), .lit (.int .u8 160), .lit (.int .u8 160), .lit (.int .u8 160), .lit (.int .u8 160), .lit (.int .u8 160), .lit (.int .u8 160), .lit (.int .u8 160), .lit (.int .u8 160), .lit (.int .u8 160), .lit (.int .u8 160), .lit (.int .u8 160), .lit (.int .u8 160), .lit (.int .u8 160), .lit (.int .u8 160), .lit (.int .u8 160), .lit (.int .u8 160), .lit (.int .u8 160), .lit (.int .u8 160), .lit (.int .u8 160), .lit (.int .u8 160), .lit (.int .u8 160), .lit (.int .u8 160), .lit (.int .u8 160), .lit (.int .u8 130), .lit (.int .u8 130), .lit (.int .u8 130), .lit (.int .u8 136), .lit (.int .u8 130), .lit (.int .u8 136), .lit (.int .u8 192), .lit (.int .u8 192), .lit (.int .u8 192), .lit (.int .u8 192), .lit (.int .u8 192), .lit (.int .u8 192), .lit (.int .u8 192), .lit (.int .u8 192), .lit (.int .u8 192), .lit (.int .u8 192), .lit (.int .u8 192), .lit (.int .u8 192), .lit (.int .u8 192), .lit (.int .u8 192), .lit (.int .u8 192), .lit (.int .u8 192), .lit (.int .u8 192), .lit (.int .u8 192), .lit (.int .u8 192), .lit (.int .u8 192), .lit (.int .u8 192), .lit (.int .u8 192), .lit (.int .u8 192), .lit (.int .u8 192), .lit (.int .u8 192), .lit (.int .u8 192), .lit (.int .u8 130), .lit (.int .u8 136), .lit (.int .u8 130), .lit (.int .u8 136), .lit (.int .u8 1), .lit (.int .u8 1), .lit (.int .u8 1), .lit (.int .u8 1), .lit (.int .u8 1), .lit (.int .u8 1), .lit (.int .u8 1), .lit (.int .u8 1), .lit (.int .u8 1), .lit (.int .u8 1), .lit (.int .u8 1), .lit (.int .u8 1), .lit (.int .u8 1), .lit (.int .u8 1), .lit (.int .u8 1), .lit (.int .u8 1), .lit (.int .u8 1), .lit (.int .u8 1), .lit (.int .u8 1), .lit (.int .u8 1), .lit (.int .u8 1), .lit (.int .u8 1), .lit (.int .u8 1), .lit (.int .u8 1), .lit (.int .u8 1), .lit (.int .u8 1), .lit (.int .u8 1), .lit (.int .u8 1), .lit (.int .u8 1), .lit (.int .u8 1), .lit (.int .u8 1), .lit (.int .u8 1), .lit (.int .u8 1), .lit (.int .u8 16), .lit (.int .u8 130), .lit (.int .u8 136), .lit (.int .u8 136), .lit (.int .u8 136), .lit (.int .u8 136), .lit (.int .u8 136), .lit (.int .u8 130), .lit (.int .u8 136), .lit (.int .u8 136), .lit (.int .u8 224), .lit (.int .u8 130), .lit (.int .u8 136), .lit (.int .u8 0), .lit (.int .u8 136), .lit (.int .u8 136), .lit (.int .u8 136), .lit (.int .u8 136), .lit (.int .u8 132), .lit (.int .u8 132), .lit (.int .u8 136), .lit (.int .u8 192), .lit (.int .u8 130), .lit (.int .u8 130), .lit (.int .u8 136), .lit (.int .u8 132), .lit (.int .u8 224), .lit (.int .u8 130), .lit (.int .u8 132), .lit (.int .u8 132), .lit (.int .u8 132), .lit (.int .u8 130), .lit (.int .u8 160), .lit (.int .u8 160), .lit (.int .u8 160), .lit (.int .u8 160), .lit (.int .u8 160), .lit (.int .u8 160), .lit (.int .u8 160), .lit (.int .u8 160), .lit (.int .u8 160), .lit (.int .u8 160), .lit (.int .u8 160), .lit (.int .u8 160), .lit (.int .u8 160), .lit (.int .u8 160), .lit (.int .u8 160), .lit (.int .u8 160), .lit (.int .u8 160), .lit (.int .u8 160), .lit (.int .u8 160), .lit (.int .u8 160), .lit (.int .u8 160), .lit (.int .u8 160), .lit (.int .u8 160), .lit (.int .u8 136), .lit (.int .u8 160), .lit (.int .u8 160), .lit (.int .u8 160), .lit (.int .u8 160), .lit (.int .u8 160), .lit (.int .u8 160), .lit (.int .u8 160), .lit (.int .u8 192), .lit (.int .u8 192), .lit (.int .u8 192), .lit (.int .u8 192), .lit (.int .u8 192), .lit (.int .u8 192), .lit (.int .u8 192), .lit (.int .u8 192), .lit (.int .u8 192), .lit (.int .u8 192), .lit (.int .u8 192), .lit (.int .u8 192), .lit (.int .u8 192), .lit (.int .u8 192), .lit (.int .u8 192), .lit (.int .u8 192), .lit (.int .u8 192), .lit (.int .u8 192), .lit (.int .u8 192), .lit (.int .u8 192), .lit (.int .u8 192), .lit (.int .u8 192), .lit (.int .u8 192), .lit (.int .u8 192), .lit (.int .u8 136), .lit (.int .u8 192), .lit (.int .u8 192), .lit (.int .u8 192), .lit (.int .u8 192), .lit (.int .u8 192), .lit (.int .u8 192), .lit (.int .u8 192), .lit (.int .u8 192)]
/-- One of Go's own tables, pinned by name: the form's constant. -/
def laid_unicode_Letter : DataW Unit := Go.Pinned.letter

/-- 'checkreinlaw10.GraphPrunes': WHATEVER THE INPUT: true; the input reads as it did. -/
def graphPrunesSpec : ChangeSpec := { name := "graphPrunes", fn := fun _ => fun
  | [d] => { results := [.lit (.bool true)], args := [d] }
  | _ => none }
def graphPrunesRow : OpenClaim := { program := "ytjijlmddalbkbaagreatdoor", sum := "522c4e573a71e85cd6c65e1aecfd69c1b1496700e4b89294571622818d43a025", func := "checkrein/checkreinlaw10.GraphPrunes", spec := "graphPrunes", unfollowed := true, recurses := true, named := ["unicode.properties", "unicode.Letter"], apart := false, laid := [("unicode.properties", laid_unicode_properties), ("unicode.Letter", laid_unicode_Letter)] }
def GraphPrunesSaid : Prop := graphPrunesRow.holds Tryz.pinned (OpenSpec.ofChange graphPrunesSpec)

/-- ITS FALSE NEIGHBOUR: 'it returns false'. Refute it at one input. -/
def graphPrunesWrong : ChangeSpec := { name := "graphPrunes", fn := fun _ => fun
  | [d] => { results := [.lit (.bool false)], args := [d] }
  | _ => none }
def GraphPrunesWrongFalsely : Prop := graphPrunesRow.holds Tryz.pinned (OpenSpec.ofChange graphPrunesWrong)

/-- 'checkreinlaw10.GraphRuns': WHATEVER THE INPUT: true; the input reads as it did. -/
def graphRunsSpec : ChangeSpec := { name := "graphRuns", fn := fun _ => fun
  | [d1, d2, d3] => { results := [.lit (.bool true)], args := [d1, d2, d3] }
  | _ => none }
def graphRunsRow : OpenClaim := { program := "ytjijlmddalbkbaagreatdoor", sum := "522c4e573a71e85cd6c65e1aecfd69c1b1496700e4b89294571622818d43a025", func := "checkrein/checkreinlaw10.GraphRuns", spec := "graphRuns", unfollowed := true, recurses := true, named := ["unicode.properties", "unicode.Letter"], apart := false, laid := [("unicode.properties", laid_unicode_properties), ("unicode.Letter", laid_unicode_Letter)] }
def GraphRunsSaid : Prop := graphRunsRow.holds Tryz.pinned (OpenSpec.ofChange graphRunsSpec)

/-- ITS FALSE NEIGHBOUR: 'it returns false'. Refute it at one input. -/
def graphRunsWrong : ChangeSpec := { name := "graphRuns", fn := fun _ => fun
  | [d1, d2, d3] => { results := [.lit (.bool false)], args := [d1, d2, d3] }
  | _ => none }
def GraphRunsWrongFalsely : Prop := graphRunsRow.holds Tryz.pinned (OpenSpec.ofChange graphRunsWrong)

/-- 'checkreinlaw11.DomFronts': WHATEVER THE INPUT: true; the input reads as it did. -/
def domFrontsSpec : ChangeSpec := { name := "domFronts", fn := fun _ => fun
  | [d] => { results := [.lit (.bool true)], args := [d] }
  | _ => none }
def domFrontsRow : OpenClaim := { program := "ytjijlmddalbkbaagreatdoor", sum := "522c4e573a71e85cd6c65e1aecfd69c1b1496700e4b89294571622818d43a025", func := "checkrein/checkreinlaw11.DomFronts", spec := "domFronts", unfollowed := true, recurses := true, named := ["unicode.properties", "unicode.Letter"], apart := false, laid := [("unicode.properties", laid_unicode_properties), ("unicode.Letter", laid_unicode_Letter)] }
def DomFrontsSaid : Prop := domFrontsRow.holds Tryz.pinned (OpenSpec.ofChange domFrontsSpec)

/-- ITS FALSE NEIGHBOUR: 'it returns false'. Refute it at one input. -/
def domFrontsWrong : ChangeSpec := { name := "domFronts", fn := fun _ => fun
  | [d] => { results := [.lit (.bool false)], args := [d] }
  | _ => none }
def DomFrontsWrongFalsely : Prop := domFrontsRow.holds Tryz.pinned (OpenSpec.ofChange domFrontsWrong)

/-- 'checkreinlaw11.DomRuns': WHATEVER THE INPUT: true; the input reads as it did. -/
def domRunsSpec : ChangeSpec := { name := "domRuns", fn := fun _ => fun
  | [d1, d2, d3] => { results := [.lit (.bool true)], args := [d1, d2, d3] }
  | _ => none }
def domRunsRow : OpenClaim := { program := "ytjijlmddalbkbaagreatdoor", sum := "522c4e573a71e85cd6c65e1aecfd69c1b1496700e4b89294571622818d43a025", func := "checkrein/checkreinlaw11.DomRuns", spec := "domRuns", unfollowed := true, recurses := true, named := ["unicode.properties", "unicode.Letter"], apart := false, laid := [("unicode.properties", laid_unicode_properties), ("unicode.Letter", laid_unicode_Letter)] }
def DomRunsSaid : Prop := domRunsRow.holds Tryz.pinned (OpenSpec.ofChange domRunsSpec)

/-- ITS FALSE NEIGHBOUR: 'it returns false'. Refute it at one input. -/
def domRunsWrong : ChangeSpec := { name := "domRuns", fn := fun _ => fun
  | [d1, d2, d3] => { results := [.lit (.bool false)], args := [d1, d2, d3] }
  | _ => none }
def DomRunsWrongFalsely : Prop := domRunsRow.holds Tryz.pinned (OpenSpec.ofChange domRunsWrong)

/-- 'checkreinlaw11.DomOver': WHATEVER THE INPUT: true; the input reads as it did. -/
def domOverSpec : ChangeSpec := { name := "domOver", fn := fun _ => fun
  | [d] => { results := [.lit (.bool true)], args := [d] }
  | _ => none }
def domOverRow : OpenClaim := { program := "ytjijlmddalbkbaagreatdoor", sum := "522c4e573a71e85cd6c65e1aecfd69c1b1496700e4b89294571622818d43a025", func := "checkrein/checkreinlaw11.DomOver", spec := "domOver", unfollowed := true, recurses := true, named := ["unicode.properties", "unicode.Letter"], apart := false, laid := [("unicode.properties", laid_unicode_properties), ("unicode.Letter", laid_unicode_Letter)] }
def DomOverSaid : Prop := domOverRow.holds Tryz.pinned (OpenSpec.ofChange domOverSpec)

/-- ITS FALSE NEIGHBOUR: 'it returns false'. Refute it at one input. -/
def domOverWrong : ChangeSpec := { name := "domOver", fn := fun _ => fun
  | [d] => { results := [.lit (.bool false)], args := [d] }
  | _ => none }
def DomOverWrongFalsely : Prop := domOverRow.holds Tryz.pinned (OpenSpec.ofChange domOverWrong)

/-- 'checkreinlaw11.DomSteps': WHATEVER THE INPUT: true; the input reads as it did. -/
def domStepsSpec : ChangeSpec := { name := "domSteps", fn := fun _ => fun
  | [d] => { results := [.lit (.bool true)], args := [d] }
  | _ => none }
def domStepsRow : OpenClaim := { program := "ytjijlmddalbkbaagreatdoor", sum := "522c4e573a71e85cd6c65e1aecfd69c1b1496700e4b89294571622818d43a025", func := "checkrein/checkreinlaw11.DomSteps", spec := "domSteps", unfollowed := true, recurses := true, named := ["unicode.properties", "unicode.Letter"], apart := false, laid := [("unicode.properties", laid_unicode_properties), ("unicode.Letter", laid_unicode_Letter)] }
def DomStepsSaid : Prop := domStepsRow.holds Tryz.pinned (OpenSpec.ofChange domStepsSpec)

/-- ITS FALSE NEIGHBOUR: 'it returns false'. Refute it at one input. -/
def domStepsWrong : ChangeSpec := { name := "domSteps", fn := fun _ => fun
  | [d] => { results := [.lit (.bool false)], args := [d] }
  | _ => none }
def DomStepsWrongFalsely : Prop := domStepsRow.holds Tryz.pinned (OpenSpec.ofChange domStepsWrong)

/-- 'checkreinlaw11.DomTree': WHATEVER THE INPUT: true; the input reads as it did. -/
def domTreeSpec : ChangeSpec := { name := "domTree", fn := fun _ => fun
  | [d] => { results := [.lit (.bool true)], args := [d] }
  | _ => none }
def domTreeRow : OpenClaim := { program := "ytjijlmddalbkbaagreatdoor", sum := "522c4e573a71e85cd6c65e1aecfd69c1b1496700e4b89294571622818d43a025", func := "checkrein/checkreinlaw11.DomTree", spec := "domTree", unfollowed := true, recurses := true, named := ["unicode.properties", "unicode.Letter"], apart := false, laid := [("unicode.properties", laid_unicode_properties), ("unicode.Letter", laid_unicode_Letter)] }
def DomTreeSaid : Prop := domTreeRow.holds Tryz.pinned (OpenSpec.ofChange domTreeSpec)

/-- ITS FALSE NEIGHBOUR: 'it returns false'. Refute it at one input. -/
def domTreeWrong : ChangeSpec := { name := "domTree", fn := fun _ => fun
  | [d] => { results := [.lit (.bool false)], args := [d] }
  | _ => none }
def DomTreeWrongFalsely : Prop := domTreeRow.holds Tryz.pinned (OpenSpec.ofChange domTreeWrong)

/- THE SECOND FORM. 'bulk': how many values and letters a reading holds, each counted each time it is reached (what is shared counts as often as it is met; a slice's spare places count too). A statement '..UptoSaid' is the law's where the arguments, and the package variables that the reading takes, are together of bulk at most 1048576: NARROWER than '..Said'. Prove '..Said' where nothing that the law and all that it calls make is longer than what came in: it says more and counts as full. Else prove '..UptoSaid'. A law counts once. -/
mutual
def uptoBulk {H : Type} : DataW H → Nat
  | .lit (.string bytes) => bytes.length + 1
  | .lit _ => 1
  | .nil => 1
  | .ptr d => uptoBulk d + 1
  | .slice elems spare => uptoBulkAll elems + uptoBulkAll spare + 1
  | .agg parts => uptoBulkAll parts + 1
  | .iface _ d => uptoBulk d + 1
  | .map entries => uptoBulkEntries entries + 1
  | .held _ => 1
def uptoBulkAll {H : Type} : List (DataW H) → Nat
  | [] => 0
  | d :: r => uptoBulk d + uptoBulkAll r
def uptoBulkEntries {H : Type} : List (Lit × DataW H) → Nat
  | [] => 0
  | x :: r => uptoBulkEntry x + uptoBulkEntries r
def uptoBulkEntry {H : Type} : Lit × DataW H → Nat
  | (.string bytes, d) => bytes.length + uptoBulk d + 1
  | (_, d) => uptoBulk d + 1
 end
def uptoSmall : (H : Type) → List (DataW H) → Bool := fun _ ds => decide (uptoBulkAll ds ≤ 1048576)
def OpenSpec.upto (s : _root_.Go.ChangeSpec) : _root_.Go.OpenSpec := { _root_.Go.OpenSpec.ofChange s with cond := some uptoSmall }

/-- 'checkreinlaw10.GraphPrunes', WHERE WHAT IT READS IS OF BULK AT MOST 1048576: true; the input reads as it did. -/
def graphPrunesUptoRow : OpenClaim := { program := "ytjijlmddalbkbaagreatdoor", sum := "522c4e573a71e85cd6c65e1aecfd69c1b1496700e4b89294571622818d43a025", func := "checkrein/checkreinlaw10.GraphPrunes", spec := "graphPrunes", unfollowed := true, recurses := true, named := ["unicode.properties", "unicode.Letter"], apart := false, laid := [("unicode.properties", laid_unicode_properties), ("unicode.Letter", laid_unicode_Letter)], narrowed := true }
def GraphPrunesUptoSaid : Prop := graphPrunesUptoRow.holds Tryz.pinned (OpenSpec.upto graphPrunesSpec)

/-- 'checkreinlaw10.GraphRuns', WHERE WHAT IT READS IS OF BULK AT MOST 1048576: true; the input reads as it did. -/
def graphRunsUptoRow : OpenClaim := { program := "ytjijlmddalbkbaagreatdoor", sum := "522c4e573a71e85cd6c65e1aecfd69c1b1496700e4b89294571622818d43a025", func := "checkrein/checkreinlaw10.GraphRuns", spec := "graphRuns", unfollowed := true, recurses := true, named := ["unicode.properties", "unicode.Letter"], apart := false, laid := [("unicode.properties", laid_unicode_properties), ("unicode.Letter", laid_unicode_Letter)], narrowed := true }
def GraphRunsUptoSaid : Prop := graphRunsUptoRow.holds Tryz.pinned (OpenSpec.upto graphRunsSpec)

/-- 'checkreinlaw11.DomFronts', WHERE WHAT IT READS IS OF BULK AT MOST 1048576: true; the input reads as it did. -/
def domFrontsUptoRow : OpenClaim := { program := "ytjijlmddalbkbaagreatdoor", sum := "522c4e573a71e85cd6c65e1aecfd69c1b1496700e4b89294571622818d43a025", func := "checkrein/checkreinlaw11.DomFronts", spec := "domFronts", unfollowed := true, recurses := true, named := ["unicode.properties", "unicode.Letter"], apart := false, laid := [("unicode.properties", laid_unicode_properties), ("unicode.Letter", laid_unicode_Letter)], narrowed := true }
def DomFrontsUptoSaid : Prop := domFrontsUptoRow.holds Tryz.pinned (OpenSpec.upto domFrontsSpec)

/-- 'checkreinlaw11.DomRuns', WHERE WHAT IT READS IS OF BULK AT MOST 1048576: true; the input reads as it did. -/
def domRunsUptoRow : OpenClaim := { program := "ytjijlmddalbkbaagreatdoor", sum := "522c4e573a71e85cd6c65e1aecfd69c1b1496700e4b89294571622818d43a025", func := "checkrein/checkreinlaw11.DomRuns", spec := "domRuns", unfollowed := true, recurses := true, named := ["unicode.properties", "unicode.Letter"], apart := false, laid := [("unicode.properties", laid_unicode_properties), ("unicode.Letter", laid_unicode_Letter)], narrowed := true }
def DomRunsUptoSaid : Prop := domRunsUptoRow.holds Tryz.pinned (OpenSpec.upto domRunsSpec)

/-- 'checkreinlaw11.DomOver', WHERE WHAT IT READS IS OF BULK AT MOST 1048576: true; the input reads as it did. -/
def domOverUptoRow : OpenClaim := { program := "ytjijlmddalbkbaagreatdoor", sum := "522c4e573a71e85cd6c65e1aecfd69c1b1496700e4b89294571622818d43a025", func := "checkrein/checkreinlaw11.DomOver", spec := "domOver", unfollowed := true, recurses := true, named := ["unicode.properties", "unicode.Letter"], apart := false, laid := [("unicode.properties", laid_unicode_properties), ("unicode.Letter", laid_unicode_Letter)], narrowed := true }
def DomOverUptoSaid : Prop := domOverUptoRow.holds Tryz.pinned (OpenSpec.upto domOverSpec)

/-- 'checkreinlaw11.DomSteps', WHERE WHAT IT READS IS OF BULK AT MOST 1048576: true; the input reads as it did. -/
def domStepsUptoRow : OpenClaim := { program := "ytjijlmddalbkbaagreatdoor", sum := "522c4e573a71e85cd6c65e1aecfd69c1b1496700e4b89294571622818d43a025", func := "checkrein/checkreinlaw11.DomSteps", spec := "domSteps", unfollowed := true, recurses := true, named := ["unicode.properties", "unicode.Letter"], apart := false, laid := [("unicode.properties", laid_unicode_properties), ("unicode.Letter", laid_unicode_Letter)], narrowed := true }
def DomStepsUptoSaid : Prop := domStepsUptoRow.holds Tryz.pinned (OpenSpec.upto domStepsSpec)

/-- 'checkreinlaw11.DomTree', WHERE WHAT IT READS IS OF BULK AT MOST 1048576: true; the input reads as it did. -/
def domTreeUptoRow : OpenClaim := { program := "ytjijlmddalbkbaagreatdoor", sum := "522c4e573a71e85cd6c65e1aecfd69c1b1496700e4b89294571622818d43a025", func := "checkrein/checkreinlaw11.DomTree", spec := "domTree", unfollowed := true, recurses := true, named := ["unicode.properties", "unicode.Letter"], apart := false, laid := [("unicode.properties", laid_unicode_properties), ("unicode.Letter", laid_unicode_Letter)], narrowed := true }
def DomTreeUptoSaid : Prop := domTreeUptoRow.holds Tryz.pinned (OpenSpec.upto domTreeSpec)

end Rows
end Go.Proofs.YtjijlmddalbkbaaGreatDoor
