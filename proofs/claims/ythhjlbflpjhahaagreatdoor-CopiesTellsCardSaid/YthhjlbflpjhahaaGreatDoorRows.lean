/-
  NARROWER THAN 'FOR EVERY INPUT', by the rows' own cells (each row's printed sentence says how): TidyTells: laid · TidyNone: laid · TidyRuns: laid · CopiesTells: laid · CopiesNone: laid · CopiesRuns: laid · CopiesRoots: laid.
  DERIVED. THE GIVEN ROWS OF THIS SEAT. 7 by the template 'for every input the law returns true; each argument reads behind the call as it read before'; 0 by the template 'total and deterministic' (their statements: YthhjlbflpjhahaaGreatDoorTotals.lean).
  GIVEN WITH THE SEED: the statements are not yours to turn. If you find one false, say at which input.
  Laid BY PROGRAM, IN A SANDBOX (cutbox-rows.mjs): the forced cells as the released guide's own fill.sh prints them over the translation 3e45a1f1c96145ec… (all of the seat's roots in one cut). By AI agents, Wed Nov 11 2026. No macro, syntax, notation, axiom, sorry.
-/
import Derived.Test.YthhjlbflpjhahaaGreatDoorChecked
import GoSem.PinnedTables
import GoSem.Claim
import GoSem.ClaimJoined
import GoSem.ClaimMapViews
import Derived.JoinedTies
import Derived.KernelRfl
namespace Go.Proofs.YthhjlbflpjhahaaGreatDoor
/- THE CELL 'sum', in the pinned program and in every row, IS THE sha256 OF THE DUMP (.gsa) THAT YthhjlbflpjhahaaGreatDoorProg.lean LOADS. Nothing in Lean hashes anything: it is a label: what it is worth is what the hold of that sum in a sandbox is worth. -/
noncomputable def Tryz.pinned : Pinned := { name := "ythhjlbflpjhahaagreatdoor", sum := "3e45a1f1c96145ec1666a16ff7196830bbf853271d6647e38d65d69422b08904", checked := Tryz.checked }
namespace Rows
def none {H : Type} : Left H := { results := [], args := [] }

/- WHAT THE LISTED PACKAGE-LEVEL VARIABLES READ AS WHEN THE CALL BEGINS. Each datum BY PROGRAM (the guide's laid-datum.mjs) off the statement by which the dump's own 'gosem.cut.vars' lays the variable. In a bare row this is a premise. The card (YthhjlbflpjhahaaGreatDoorCards.lean) ties it to the program's text. -/
def laid_unicode_properties {H : Type} : DataW H := .agg [.lit (.int .u8 1), .lit (.int .u8 1), .lit (.int .u8 1), .lit (.int .u8 1), .lit (.int .u8 1), .lit (.int .u8 1), .lit (.int .u8 1), .lit (.int .u8 1), .lit (.int .u8 1), .lit (.int .u8 1), .lit (.int .u8 1), .lit (.int .u8 1), .lit (.int .u8 1), .lit (.int .u8 1), .lit (.int .u8 1), .lit (.int .u8 1), .lit (.int .u8 1), .lit (.int .u8 1), .lit (.int .u8 1), .lit (.int .u8 1), .lit (.int .u8 1), .lit (.int .u8 1), .lit (.int .u8 1), .lit (.int .u8 1), .lit (.int .u8 1), .lit (.int .u8 1), .lit (.int .u8 1), .lit (.int .u8 1), .lit (.int .u8 1), .lit (.int .u8 1), .lit (.int .u8 1), .lit (.int .u8 1), .lit (.int .u8 144), .lit (.int .u8 130), .lit (.int .u8 130), .lit (.int .u8 130), .lit (.int .u8 136), .lit (.int .u8 130), .lit (.int .u8 130), .lit (.int .u8 130), .lit (.int .u8 130), .lit (.int .u8 130), .lit (.int .u8 130), .lit (.int .u8 136), .lit (.int .u8 130), .lit (.int .u8 130), .lit (.int .u8 130), .lit (.int .u8 130), .lit (.int .u8 132), .lit (.int .u8 132), .lit (.int .u8 132), .lit (.int .u8 132), .lit (.int .u8 132), .lit (.int .u8 132), .lit (.int .u8 132), .lit (.int .u8 132), .lit (.int .u8 132), .lit (.int .u8 132), .lit (.int .u8 130), .lit (.int .u8 130), .lit (.int .u8 136), .lit (.int .u8 136), .lit (.int .u8 136), .lit (.int .u8 130), .lit (.int .u8 130), .lit (.int .u8 160), .lit (.int .u8 160), .lit (.int .u8 160), .lit (.int .u8 160), .lit (.int .u8 160), .lit (.int .u8 160), .lit (.int .u8 160), .lit (.int .u8 160), .lit (.int .u8 160), .lit (.int .u8 160), .lit (.int .u8 160), .lit (.int .u8 160), .lit (.int .u8 160), .lit (.int .u8 160), .lit (.int .u8 160), .lit (.int .u8 160), .lit (.int .u8 160), .lit (.int .u8 160), .lit (.int .u8 160), .lit (.int .u8 160), .lit (.int .u8 160), .lit (.int .u8 160), .lit (.int .u8 160), .lit (.int .u8 160), .lit (.int .u8 160), .lit (.int .u8 160), .lit (.int .u8 130), .lit (.int .u8 130), .lit (.int .u8 130), .lit (.int .u8 136), .lit (.int .u8 130), .lit (.int .u8 136), .lit (.int .u8 192), .lit (.int .u8 192), .lit (.int .u8 192), .lit (.int .u8 192), .lit (.int .u8 192), .lit (.int .u8 192), .lit (.int .u8 192), .lit (.int .u8 192), .lit (.int .u8 192), .lit (.int .u8 192), .lit (.int .u8 192), .lit (.int .u8 192), .lit (.int .u8 192), .lit (.int .u8 192), .lit (.int .u8 192), .lit (.int .u8 192), .lit (.int .u8 192), .lit (.int .u8 192), .lit (.int .u8 192), .lit (.int .u8 192), .lit (.int .u8 192), .lit (.int .u8 192), .lit (.int .u8 192), .lit (.int .u8 192), .lit (.int .u8 192), .lit (.int .u8 192), .lit (.int .u8 130), .lit (.int .u8 136), .lit (.int .u8 130), .lit (.int .u8 136), .lit (.int .u8 1), .lit (.int .u8 1), .lit (.int .u8 1), .lit (.int .u8 1), .lit (.int .u8 1), .lit (.int .u8 1), .lit (.int .u8 1), .lit (.int .u8 1), .lit (.int .u8 1), .lit (.int .u8 1), .lit (.int .u8 1), .lit (.int .u8 1), .lit (.int .u8 1), .lit (.int .u8 1), .lit (.int .u8 1), .lit (.int .u8 1), .lit (.int .u8 1), .lit (.int .u8 1), .lit (.int .u8 1), .lit (.int .u8 1), .lit (.int .u8 1), .lit (.int .u8 1), .lit (.int .u8 1), .lit (.int .u8 1), .lit (.int .u8 1), .lit (.int .u8 1), .lit (.int .u8 1), .lit (.int .u8 1), .lit (.int .u8 1), .lit (.int .u8 1), .lit (.int .u8 1), .lit (.int .u8 1), .lit (.int .u8 1), .lit (.int .u8 16), .lit (.int .u8 130), .lit (.int .u8 136), .lit (.int .u8 136), .lit (.int .u8 136), .lit (.int .u8 136), .lit (.int .u8 136), .lit (.int .u8 130), .lit (.int .u8 136), .lit (.int .u8 136), .lit (.int .u8 224), .lit (.int .u8 130), .lit (.int .u8 136), .lit (.int .u8 0), .lit (.int .u8 136), .lit (.int .u8 136), .lit (.int .u8 136), .lit (.int .u8 136), .lit (.int .u8 132), .lit (.int .u8 132), .lit (.int .u8 136), .lit (.int .u8 192), .lit (.int .u8 130), .lit (.int .u8 130), .lit (.int .u8 136), .lit (.int .u8 132), .lit (.int .u8 224), .lit (.int .u8 130), .lit (.int .u8 132), .lit (.int .u8 132), .lit (.int .u8 132), .lit (.int .u8 130), .lit (.int .u8 160), .lit (.int .u8 160), .lit (.int .u8 160), .lit (.int .u8 160), .lit (.int .u8 160), .lit (.int .u8 160), .lit (.int .u8 160), .lit (.int .u8 160), .lit (.int .u8 160), .lit (.int .u8 160), .lit (.int .u8 160), .lit (.int .u8 160), .lit (.int .u8 160), .lit (.int .u8 160), .lit (.int .u8 160), .lit (.int .u8 160), .lit (.int .u8 160), .lit (.int .u8 160), .lit (.int .u8 160), .lit (.int .u8 160), .lit (.int .u8 160), .lit (.int .u8 160), .lit (.int .u8 160), .lit (.int .u8 136), .lit (.int .u8 160), .lit (.int .u8 160), .lit (.int .u8 160), .lit (.int .u8 160), .lit (.int .u8 160), .lit (.int .u8 160), .lit (.int .u8 160), .lit (.int .u8 192), .lit (.int .u8 192), .lit (.int .u8 192), .lit (.int .u8 192), .lit (.int .u8 192), .lit (.int .u8 192), .lit (.int .u8 192), .lit (.int .u8 192), .lit (.int .u8 192), .lit (.int .u8 192), .lit (.int .u8 192), .lit (.int .u8 192), .lit (.int .u8 192), .lit (.int .u8 192), .lit (.int .u8 192), .lit (.int .u8 192), .lit (.int .u8 192), .lit (.int .u8 192), .lit (.int .u8 192), .lit (.int .u8 192), .lit (.int .u8 192), .lit (.int .u8 192), .lit (.int .u8 192), .lit (.int .u8 192), .lit (.int .u8 136), .lit (.int .u8 192), .lit (.int .u8 192), .lit (.int .u8 192), .lit (.int .u8 192), .lit (.int .u8 192), .lit (.int .u8 192), .lit (.int .u8 192), .lit (.int .u8 192)]
/-- One of Go's own tables, pinned by name: the form's constant. -/
def laid_unicode_Letter : DataW Unit := Go.Pinned.letter

/-- 'checkreinlaw33.TidyTells': WHATEVER THE INPUT: true; the input reads as it did. -/
def tidyTellsSpec : ChangeSpec := { name := "tidyTells", fn := fun _ => fun
  | [d1, d2, d3] => { results := [.lit (.bool true)], args := [d1, d2, d3] }
  | _ => none }
def tidyTellsRow : OpenClaim := { program := "ythhjlbflpjhahaagreatdoor", sum := "3e45a1f1c96145ec1666a16ff7196830bbf853271d6647e38d65d69422b08904", func := "checkrein/checkreinlaw33.TidyTells", spec := "tidyTells", unfollowed := true, recurses := true, named := ["unicode.properties", "unicode.Letter"], apart := false, laid := [("unicode.properties", laid_unicode_properties), ("unicode.Letter", laid_unicode_Letter)] }
def TidyTellsSaid : Prop := tidyTellsRow.holds Tryz.pinned (OpenSpec.ofChange tidyTellsSpec)

/-- ITS FALSE NEIGHBOUR: 'it returns false'. Refute it at one input. -/
def tidyTellsWrong : ChangeSpec := { name := "tidyTells", fn := fun _ => fun
  | [d1, d2, d3] => { results := [.lit (.bool false)], args := [d1, d2, d3] }
  | _ => none }
def TidyTellsWrongFalsely : Prop := tidyTellsRow.holds Tryz.pinned (OpenSpec.ofChange tidyTellsWrong)

/-- 'checkreinlaw33.TidyNone': WHATEVER THE INPUT: true; the input reads as it did. -/
def tidyNoneSpec : ChangeSpec := { name := "tidyNone", fn := fun _ => fun
  | [d] => { results := [.lit (.bool true)], args := [d] }
  | _ => none }
def tidyNoneRow : OpenClaim := { program := "ythhjlbflpjhahaagreatdoor", sum := "3e45a1f1c96145ec1666a16ff7196830bbf853271d6647e38d65d69422b08904", func := "checkrein/checkreinlaw33.TidyNone", spec := "tidyNone", unfollowed := true, recurses := true, named := ["unicode.properties", "unicode.Letter"], apart := false, laid := [("unicode.properties", laid_unicode_properties), ("unicode.Letter", laid_unicode_Letter)] }
def TidyNoneSaid : Prop := tidyNoneRow.holds Tryz.pinned (OpenSpec.ofChange tidyNoneSpec)

/-- ITS FALSE NEIGHBOUR: 'it returns false'. Refute it at one input. -/
def tidyNoneWrong : ChangeSpec := { name := "tidyNone", fn := fun _ => fun
  | [d] => { results := [.lit (.bool false)], args := [d] }
  | _ => none }
def TidyNoneWrongFalsely : Prop := tidyNoneRow.holds Tryz.pinned (OpenSpec.ofChange tidyNoneWrong)

/-- 'checkreinlaw33.TidyRuns': WHATEVER THE INPUT: true; the input reads as it did. -/
def tidyRunsSpec : ChangeSpec := { name := "tidyRuns", fn := fun _ => fun
  | [d1, d2, d3] => { results := [.lit (.bool true)], args := [d1, d2, d3] }
  | _ => none }
def tidyRunsRow : OpenClaim := { program := "ythhjlbflpjhahaagreatdoor", sum := "3e45a1f1c96145ec1666a16ff7196830bbf853271d6647e38d65d69422b08904", func := "checkrein/checkreinlaw33.TidyRuns", spec := "tidyRuns", unfollowed := true, recurses := true, named := ["unicode.properties", "unicode.Letter"], apart := false, laid := [("unicode.properties", laid_unicode_properties), ("unicode.Letter", laid_unicode_Letter)] }
def TidyRunsSaid : Prop := tidyRunsRow.holds Tryz.pinned (OpenSpec.ofChange tidyRunsSpec)

/-- ITS FALSE NEIGHBOUR: 'it returns false'. Refute it at one input. -/
def tidyRunsWrong : ChangeSpec := { name := "tidyRuns", fn := fun _ => fun
  | [d1, d2, d3] => { results := [.lit (.bool false)], args := [d1, d2, d3] }
  | _ => none }
def TidyRunsWrongFalsely : Prop := tidyRunsRow.holds Tryz.pinned (OpenSpec.ofChange tidyRunsWrong)

/-- 'checkreinlaw19.CopiesTells': WHATEVER THE INPUT: true; the input reads as it did. -/
def copiesTellsSpec : ChangeSpec := { name := "copiesTells", fn := fun _ => fun
  | [d] => { results := [.lit (.bool true)], args := [d] }
  | _ => none }
def copiesTellsRow : OpenClaim := { program := "ythhjlbflpjhahaagreatdoor", sum := "3e45a1f1c96145ec1666a16ff7196830bbf853271d6647e38d65d69422b08904", func := "checkrein/checkreinlaw19.CopiesTells", spec := "copiesTells", unfollowed := true, recurses := true, named := ["unicode.properties", "unicode.Letter"], apart := false, laid := [("unicode.properties", laid_unicode_properties), ("unicode.Letter", laid_unicode_Letter)] }
def CopiesTellsSaid : Prop := copiesTellsRow.holds Tryz.pinned (OpenSpec.ofChange copiesTellsSpec)

/-- ITS FALSE NEIGHBOUR: 'it returns false'. Refute it at one input. -/
def copiesTellsWrong : ChangeSpec := { name := "copiesTells", fn := fun _ => fun
  | [d] => { results := [.lit (.bool false)], args := [d] }
  | _ => none }
def CopiesTellsWrongFalsely : Prop := copiesTellsRow.holds Tryz.pinned (OpenSpec.ofChange copiesTellsWrong)

/-- 'checkreinlaw19.CopiesNone': WHATEVER THE INPUT: true; the input reads as it did. -/
def copiesNoneSpec : ChangeSpec := { name := "copiesNone", fn := fun _ => fun
  | [d] => { results := [.lit (.bool true)], args := [d] }
  | _ => none }
def copiesNoneRow : OpenClaim := { program := "ythhjlbflpjhahaagreatdoor", sum := "3e45a1f1c96145ec1666a16ff7196830bbf853271d6647e38d65d69422b08904", func := "checkrein/checkreinlaw19.CopiesNone", spec := "copiesNone", unfollowed := true, recurses := true, named := ["unicode.properties", "unicode.Letter"], apart := false, laid := [("unicode.properties", laid_unicode_properties), ("unicode.Letter", laid_unicode_Letter)] }
def CopiesNoneSaid : Prop := copiesNoneRow.holds Tryz.pinned (OpenSpec.ofChange copiesNoneSpec)

/-- ITS FALSE NEIGHBOUR: 'it returns false'. Refute it at one input. -/
def copiesNoneWrong : ChangeSpec := { name := "copiesNone", fn := fun _ => fun
  | [d] => { results := [.lit (.bool false)], args := [d] }
  | _ => none }
def CopiesNoneWrongFalsely : Prop := copiesNoneRow.holds Tryz.pinned (OpenSpec.ofChange copiesNoneWrong)

/-- 'checkreinlaw19.CopiesRuns': WHATEVER THE INPUT: true; the input reads as it did. -/
def copiesRunsSpec : ChangeSpec := { name := "copiesRuns", fn := fun _ => fun
  | [d1, d2, d3] => { results := [.lit (.bool true)], args := [d1, d2, d3] }
  | _ => none }
def copiesRunsRow : OpenClaim := { program := "ythhjlbflpjhahaagreatdoor", sum := "3e45a1f1c96145ec1666a16ff7196830bbf853271d6647e38d65d69422b08904", func := "checkrein/checkreinlaw19.CopiesRuns", spec := "copiesRuns", unfollowed := true, recurses := true, named := ["unicode.properties", "unicode.Letter"], apart := false, laid := [("unicode.properties", laid_unicode_properties), ("unicode.Letter", laid_unicode_Letter)] }
def CopiesRunsSaid : Prop := copiesRunsRow.holds Tryz.pinned (OpenSpec.ofChange copiesRunsSpec)

/-- ITS FALSE NEIGHBOUR: 'it returns false'. Refute it at one input. -/
def copiesRunsWrong : ChangeSpec := { name := "copiesRuns", fn := fun _ => fun
  | [d1, d2, d3] => { results := [.lit (.bool false)], args := [d1, d2, d3] }
  | _ => none }
def CopiesRunsWrongFalsely : Prop := copiesRunsRow.holds Tryz.pinned (OpenSpec.ofChange copiesRunsWrong)

/-- 'checkreinlaw19.CopiesRoots': WHATEVER THE INPUT: true; the input reads as it did. -/
def copiesRootsSpec : ChangeSpec := { name := "copiesRoots", fn := fun _ => fun
  | [d1, d2, d3] => { results := [.lit (.bool true)], args := [d1, d2, d3] }
  | _ => none }
def copiesRootsRow : OpenClaim := { program := "ythhjlbflpjhahaagreatdoor", sum := "3e45a1f1c96145ec1666a16ff7196830bbf853271d6647e38d65d69422b08904", func := "checkrein/checkreinlaw19.CopiesRoots", spec := "copiesRoots", unfollowed := true, recurses := true, named := ["unicode.properties", "unicode.Letter"], apart := false, laid := [("unicode.properties", laid_unicode_properties), ("unicode.Letter", laid_unicode_Letter)] }
def CopiesRootsSaid : Prop := copiesRootsRow.holds Tryz.pinned (OpenSpec.ofChange copiesRootsSpec)

/-- ITS FALSE NEIGHBOUR: 'it returns false'. Refute it at one input. -/
def copiesRootsWrong : ChangeSpec := { name := "copiesRoots", fn := fun _ => fun
  | [d1, d2, d3] => { results := [.lit (.bool false)], args := [d1, d2, d3] }
  | _ => none }
def CopiesRootsWrongFalsely : Prop := copiesRootsRow.holds Tryz.pinned (OpenSpec.ofChange copiesRootsWrong)

/- THE SECOND FORM. 'bulk': how many values and letters a reading holds, each counted each time it is reached (what is shared counts as often as it is met; a slice's spare places count too). A statement '..UptoSaid' is the law's where the arguments, and the package variables that the reading takes, are together of bulk at most 1048576: NARROWER than '..Said'. Prove '..Said' where nothing that the law and all that it calls make is longer than what came in: it says more and counts as full. Else prove '..UptoSaid'. A law counts once. -/
mutual
def uptoBulk {H : Type} : DataW H → Nat
  | .lit (.string bytes) => bytes.length + 1
  | .lit _ => 1
  | .nil => 1
  | .ptr d => uptoBulk d + 1
  | .slice elems spare => uptoBulkAll elems + uptoBulkAll spare + 1
  | .agg parts => uptoBulkAll parts + 1
  | .iface _ d => uptoBulk d + 1
  | .map entries => uptoBulkEntries entries + 1
  | .held _ => 1
def uptoBulkAll {H : Type} : List (DataW H) → Nat
  | [] => 0
  | d :: r => uptoBulk d + uptoBulkAll r
def uptoBulkEntries {H : Type} : List (Lit × DataW H) → Nat
  | [] => 0
  | x :: r => uptoBulkEntry x + uptoBulkEntries r
def uptoBulkEntry {H : Type} : Lit × DataW H → Nat
  | (.string bytes, d) => bytes.length + uptoBulk d + 1
  | (_, d) => uptoBulk d + 1
 end
def uptoSmall : (H : Type) → List (DataW H) → Bool := fun _ ds => decide (uptoBulkAll ds ≤ 1048576)
def OpenSpec.upto (s : _root_.Go.ChangeSpec) : _root_.Go.OpenSpec := { _root_.Go.OpenSpec.ofChange s with cond := some uptoSmall }

/-- 'checkreinlaw33.TidyTells', WHERE WHAT IT READS IS OF BULK AT MOST 1048576: true; the input reads as it did. -/
def tidyTellsUptoRow : OpenClaim := { program := "ythhjlbflpjhahaagreatdoor", sum := "3e45a1f1c96145ec1666a16ff7196830bbf853271d6647e38d65d69422b08904", func := "checkrein/checkreinlaw33.TidyTells", spec := "tidyTells", unfollowed := true, recurses := true, named := ["unicode.properties", "unicode.Letter"], apart := false, laid := [("unicode.properties", laid_unicode_properties), ("unicode.Letter", laid_unicode_Letter)], narrowed := true }
def TidyTellsUptoSaid : Prop := tidyTellsUptoRow.holds Tryz.pinned (OpenSpec.upto tidyTellsSpec)

/-- 'checkreinlaw33.TidyNone', WHERE WHAT IT READS IS OF BULK AT MOST 1048576: true; the input reads as it did. -/
def tidyNoneUptoRow : OpenClaim := { program := "ythhjlbflpjhahaagreatdoor", sum := "3e45a1f1c96145ec1666a16ff7196830bbf853271d6647e38d65d69422b08904", func := "checkrein/checkreinlaw33.TidyNone", spec := "tidyNone", unfollowed := true, recurses := true, named := ["unicode.properties", "unicode.Letter"], apart := false, laid := [("unicode.properties", laid_unicode_properties), ("unicode.Letter", laid_unicode_Letter)], narrowed := true }
def TidyNoneUptoSaid : Prop := tidyNoneUptoRow.holds Tryz.pinned (OpenSpec.upto tidyNoneSpec)

/-- 'checkreinlaw33.TidyRuns', WHERE WHAT IT READS IS OF BULK AT MOST 1048576: true; the input reads as it did. -/
def tidyRunsUptoRow : OpenClaim := { program := "ythhjlbflpjhahaagreatdoor", sum := "3e45a1f1c96145ec1666a16ff7196830bbf853271d6647e38d65d69422b08904", func := "checkrein/checkreinlaw33.TidyRuns", spec := "tidyRuns", unfollowed := true, recurses := true, named := ["unicode.properties", "unicode.Letter"], apart := false, laid := [("unicode.properties", laid_unicode_properties), ("unicode.Letter", laid_unicode_Letter)], narrowed := true }
def TidyRunsUptoSaid : Prop := tidyRunsUptoRow.holds Tryz.pinned (OpenSpec.upto tidyRunsSpec)

/-- 'checkreinlaw19.CopiesTells', WHERE WHAT IT READS IS OF BULK AT MOST 1048576: true; the input reads as it did. -/
def copiesTellsUptoRow : OpenClaim := { program := "ythhjlbflpjhahaagreatdoor", sum := "3e45a1f1c96145ec1666a16ff7196830bbf853271d6647e38d65d69422b08904", func := "checkrein/checkreinlaw19.CopiesTells", spec := "copiesTells", unfollowed := true, recurses := true, named := ["unicode.properties", "unicode.Letter"], apart := false, laid := [("unicode.properties", laid_unicode_properties), ("unicode.Letter", laid_unicode_Letter)], narrowed := true }
def CopiesTellsUptoSaid : Prop := copiesTellsUptoRow.holds Tryz.pinned (OpenSpec.upto copiesTellsSpec)

/-- 'checkreinlaw19.CopiesNone', WHERE WHAT IT READS IS OF BULK AT MOST 1048576: true; the input reads as it did. -/
def copiesNoneUptoRow : OpenClaim := { program := "ythhjlbflpjhahaagreatdoor", sum := "3e45a1f1c96145ec1666a16ff7196830bbf853271d6647e38d65d69422b08904", func := "checkrein/checkreinlaw19.CopiesNone", spec := "copiesNone", unfollowed := true, recurses := true, named := ["unicode.properties", "unicode.Letter"], apart := false, laid := [("unicode.properties", laid_unicode_properties), ("unicode.Letter", laid_unicode_Letter)], narrowed := true }
def CopiesNoneUptoSaid : Prop := copiesNoneUptoRow.holds Tryz.pinned (OpenSpec.upto copiesNoneSpec)

/-- 'checkreinlaw19.CopiesRuns', WHERE WHAT IT READS IS OF BULK AT MOST 1048576: true; the input reads as it did. -/
def copiesRunsUptoRow : OpenClaim := { program := "ythhjlbflpjhahaagreatdoor", sum := "3e45a1f1c96145ec1666a16ff7196830bbf853271d6647e38d65d69422b08904", func := "checkrein/checkreinlaw19.CopiesRuns", spec := "copiesRuns", unfollowed := true, recurses := true, named := ["unicode.properties", "unicode.Letter"], apart := false, laid := [("unicode.properties", laid_unicode_properties), ("unicode.Letter", laid_unicode_Letter)], narrowed := true }
def CopiesRunsUptoSaid : Prop := copiesRunsUptoRow.holds Tryz.pinned (OpenSpec.upto copiesRunsSpec)

/-- 'checkreinlaw19.CopiesRoots', WHERE WHAT IT READS IS OF BULK AT MOST 1048576: true; the input reads as it did. -/
def copiesRootsUptoRow : OpenClaim := { program := "ythhjlbflpjhahaagreatdoor", sum := "3e45a1f1c96145ec1666a16ff7196830bbf853271d6647e38d65d69422b08904", func := "checkrein/checkreinlaw19.CopiesRoots", spec := "copiesRoots", unfollowed := true, recurses := true, named := ["unicode.properties", "unicode.Letter"], apart := false, laid := [("unicode.properties", laid_unicode_properties), ("unicode.Letter", laid_unicode_Letter)], narrowed := true }
def CopiesRootsUptoSaid : Prop := copiesRootsUptoRow.holds Tryz.pinned (OpenSpec.upto copiesRootsSpec)

end Rows
end Go.Proofs.YthhjlbflpjhahaaGreatDoor
