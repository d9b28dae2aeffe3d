/-
  NARROWER THAN 'FOR EVERY INPUT', by the rows' own cells (each row's printed sentence says how): DescCuts: laid · DescFields: laid · DescArrays: laid · DescMethods: laid · DescBack: laid · DescParts: laid · FileWrites: laid · FileGrows: laid · FileNames: laid · FileFinds: laid · FileBack: laid · FileAgain: laid · FileTurns: laid.
  DERIVED. THE GIVEN ROWS OF THIS SEAT. 13 by the template 'for every input the law returns true; each argument reads behind the call as it read before'; 0 by the template 'total and deterministic' (their statements: YthpfknlgfkecpaaDoorTotals.lean).
  GIVEN WITH THE SEED: the statements are not yours to turn. If you find one false, say at which input.
  Laid BY PROGRAM, IN A SANDBOX (cutbox-rows.mjs): the forced cells as the released guide's own fill.sh prints them over the translation 285cdb8bb83e2fe9… (all of the seat's roots in one cut). By AI agents, Wed Nov 11 2026. No macro, syntax, notation, axiom, sorry.
-/
import Derived.Test.YthpfknlgfkecpaaDoorChecked
import GoSem.PinnedTables
import GoSem.Claim
import GoSem.ClaimJoined
import GoSem.ClaimMapViews
import Derived.JoinedTies
import Derived.KernelRfl
namespace Go.Proofs.YthpfknlgfkecpaaDoor
/- THE CELL 'sum', in the pinned program and in every row, IS THE sha256 OF THE DUMP (.gsa) THAT YthpfknlgfkecpaaDoorProg.lean LOADS. Nothing in Lean hashes anything: it is a label: what it is worth is what the hold of that sum in a sandbox is worth. -/
noncomputable def Tryd.pinned : Pinned := { name := "ythpfknlgfkecpaadoor", sum := "285cdb8bb83e2fe96c41f6f8a5568170626c00b2ca71877843974934f583715b", checked := Tryd.checked }
namespace Rows
def none {H : Type} : Left H := { results := [], args := [] }

/- WHAT THE LISTED PACKAGE-LEVEL VARIABLES READ AS WHEN THE CALL BEGINS. Each datum BY PROGRAM (the guide's laid-datum.mjs) off the statement by which the dump's own 'gosem.cut.vars' lays the variable. In a bare row this is a premise. The card (YthpfknlgfkecpaaDoorCards.lean) ties it to the program's text. -/
def laid_unicode_utf8_acceptRanges {H : Type} : DataW H := .agg [.agg [.lit (.int .u8 128), .lit (.int .u8 191)], .agg [.lit (.int .u8 160), .lit (.int .u8 191)], .agg [.lit (.int .u8 128), .lit (.int .u8 159)], .agg [.lit (.int .u8 144), .lit (.int .u8 191)], .agg [.lit (.int .u8 128), .lit (.int .u8 143)], .agg [.lit (.int .u8 0), .lit (.int .u8 0)], .agg [.lit (.int .u8 0), .lit (.int .u8 0)], .agg [.lit (.int .u8 0), .lit (.int .u8 0)], .agg [.lit (.int .u8 0), .lit (.int .u8 0)], .agg [.lit (.int .u8 0), .lit (.int .u8 0)], .agg [.lit (.int .u8 0), .lit (.int .u8 0)], .agg [.lit (.int .u8 0), .lit (.int .u8 0)], .agg [.lit (.int .u8 0), .lit (.int .u8 0)], .agg [.lit (.int .u8 0), .lit (.int .u8 0)], .agg [.lit (.int .u8 0), .lit (.int .u8 0)], .agg [.lit (.int .u8 0), .lit (.int .u8 0)]]
/-- One of Go's own tables, pinned by name: the form's constant. -/
def laid_unicode_utf8_first : DataW Unit := Go.Pinned.utf8First

/-- 'cruciblelaw2.DescCuts': WHATEVER THE INPUT: true; the input reads as it did. -/
def descCutsSpec : ChangeSpec := { name := "descCuts", fn := fun _ => fun
  | [d1, d2, d3] => { results := [.lit (.bool true)], args := [d1, d2, d3] }
  | _ => none }
def descCutsRow : OpenClaim := { program := "ythpfknlgfkecpaadoor", sum := "285cdb8bb83e2fe96c41f6f8a5568170626c00b2ca71877843974934f583715b", func := "crucible/cruciblelaw2.DescCuts", spec := "descCuts", inPlace := ["internal/bytealg.IndexByteString", "internal/bytealg.IndexString", "internal/abi.NoEscape", "internal/bytealg.MakeNoZero"], unfollowed := true, recurses := true, named := ["unicode/utf8.first", "unicode/utf8.acceptRanges", "internal/bytealg.MaxLen"], plainKeys := false, apart := false, laid := [("unicode/utf8.acceptRanges", laid_unicode_utf8_acceptRanges), ("unicode/utf8.first", laid_unicode_utf8_first)] }
def DescCutsSaid : Prop := descCutsRow.holds Tryd.pinned (OpenSpec.ofChange descCutsSpec)

/-- ITS FALSE NEIGHBOUR: 'it returns false'. Refute it at one input. -/
def descCutsWrong : ChangeSpec := { name := "descCuts", fn := fun _ => fun
  | [d1, d2, d3] => { results := [.lit (.bool false)], args := [d1, d2, d3] }
  | _ => none }
def DescCutsWrongFalsely : Prop := descCutsRow.holds Tryd.pinned (OpenSpec.ofChange descCutsWrong)

/-- 'cruciblelaw2.DescFields': WHATEVER THE INPUT: true; the input reads as it did. -/
def descFieldsSpec : ChangeSpec := { name := "descFields", fn := fun _ => fun
  | [d1, d2] => { results := [.lit (.bool true)], args := [d1, d2] }
  | _ => none }
def descFieldsRow : OpenClaim := { program := "ythpfknlgfkecpaadoor", sum := "285cdb8bb83e2fe96c41f6f8a5568170626c00b2ca71877843974934f583715b", func := "crucible/cruciblelaw2.DescFields", spec := "descFields", inPlace := ["internal/bytealg.IndexByteString", "internal/bytealg.IndexString", "internal/abi.NoEscape", "internal/bytealg.MakeNoZero"], unfollowed := true, recurses := true, named := ["unicode/utf8.first", "unicode/utf8.acceptRanges", "internal/bytealg.MaxLen"], plainKeys := false, apart := false, laid := [("unicode/utf8.acceptRanges", laid_unicode_utf8_acceptRanges), ("unicode/utf8.first", laid_unicode_utf8_first)] }
def DescFieldsSaid : Prop := descFieldsRow.holds Tryd.pinned (OpenSpec.ofChange descFieldsSpec)

/-- ITS FALSE NEIGHBOUR: 'it returns false'. Refute it at one input. -/
def descFieldsWrong : ChangeSpec := { name := "descFields", fn := fun _ => fun
  | [d1, d2] => { results := [.lit (.bool false)], args := [d1, d2] }
  | _ => none }
def DescFieldsWrongFalsely : Prop := descFieldsRow.holds Tryd.pinned (OpenSpec.ofChange descFieldsWrong)

/-- 'cruciblelaw2.DescArrays': WHATEVER THE INPUT: true; the input reads as it did. -/
def descArraysSpec : ChangeSpec := { name := "descArrays", fn := fun _ => fun
  | [d] => { results := [.lit (.bool true)], args := [d] }
  | _ => none }
def descArraysRow : OpenClaim := { program := "ythpfknlgfkecpaadoor", sum := "285cdb8bb83e2fe96c41f6f8a5568170626c00b2ca71877843974934f583715b", func := "crucible/cruciblelaw2.DescArrays", spec := "descArrays", inPlace := ["internal/bytealg.IndexByteString", "internal/bytealg.IndexString", "internal/abi.NoEscape", "internal/bytealg.MakeNoZero"], unfollowed := true, recurses := true, named := ["unicode/utf8.first", "unicode/utf8.acceptRanges", "internal/bytealg.MaxLen"], plainKeys := false, apart := false, laid := [("unicode/utf8.acceptRanges", laid_unicode_utf8_acceptRanges), ("unicode/utf8.first", laid_unicode_utf8_first)] }
def DescArraysSaid : Prop := descArraysRow.holds Tryd.pinned (OpenSpec.ofChange descArraysSpec)

/-- ITS FALSE NEIGHBOUR: 'it returns false'. Refute it at one input. -/
def descArraysWrong : ChangeSpec := { name := "descArrays", fn := fun _ => fun
  | [d] => { results := [.lit (.bool false)], args := [d] }
  | _ => none }
def DescArraysWrongFalsely : Prop := descArraysRow.holds Tryd.pinned (OpenSpec.ofChange descArraysWrong)

/-- 'cruciblelaw2.DescMethods': WHATEVER THE INPUT: true; the input reads as it did. -/
def descMethodsSpec : ChangeSpec := { name := "descMethods", fn := fun _ => fun
  | [d1, d2] => { results := [.lit (.bool true)], args := [d1, d2] }
  | _ => none }
def descMethodsRow : OpenClaim := { program := "ythpfknlgfkecpaadoor", sum := "285cdb8bb83e2fe96c41f6f8a5568170626c00b2ca71877843974934f583715b", func := "crucible/cruciblelaw2.DescMethods", spec := "descMethods", inPlace := ["internal/bytealg.IndexByteString", "internal/bytealg.IndexString", "internal/abi.NoEscape", "internal/bytealg.MakeNoZero"], unfollowed := true, recurses := true, named := ["unicode/utf8.first", "unicode/utf8.acceptRanges", "internal/bytealg.MaxLen"], plainKeys := false, apart := false, laid := [("unicode/utf8.acceptRanges", laid_unicode_utf8_acceptRanges), ("unicode/utf8.first", laid_unicode_utf8_first)] }
def DescMethodsSaid : Prop := descMethodsRow.holds Tryd.pinned (OpenSpec.ofChange descMethodsSpec)

/-- ITS FALSE NEIGHBOUR: 'it returns false'. Refute it at one input. -/
def descMethodsWrong : ChangeSpec := { name := "descMethods", fn := fun _ => fun
  | [d1, d2] => { results := [.lit (.bool false)], args := [d1, d2] }
  | _ => none }
def DescMethodsWrongFalsely : Prop := descMethodsRow.holds Tryd.pinned (OpenSpec.ofChange descMethodsWrong)

/-- 'cruciblelaw2.DescBack': WHATEVER THE INPUT: true; the input reads as it did. -/
def descBackSpec : ChangeSpec := { name := "descBack", fn := fun _ => fun
  | [d1, d2] => { results := [.lit (.bool true)], args := [d1, d2] }
  | _ => none }
def descBackRow : OpenClaim := { program := "ythpfknlgfkecpaadoor", sum := "285cdb8bb83e2fe96c41f6f8a5568170626c00b2ca71877843974934f583715b", func := "crucible/cruciblelaw2.DescBack", spec := "descBack", inPlace := ["internal/bytealg.IndexByteString", "internal/bytealg.IndexString", "internal/abi.NoEscape", "internal/bytealg.MakeNoZero"], unfollowed := true, recurses := true, named := ["unicode/utf8.first", "unicode/utf8.acceptRanges", "internal/bytealg.MaxLen"], plainKeys := false, apart := false, laid := [("unicode/utf8.acceptRanges", laid_unicode_utf8_acceptRanges), ("unicode/utf8.first", laid_unicode_utf8_first)] }
def DescBackSaid : Prop := descBackRow.holds Tryd.pinned (OpenSpec.ofChange descBackSpec)

/-- ITS FALSE NEIGHBOUR: 'it returns false'. Refute it at one input. -/
def descBackWrong : ChangeSpec := { name := "descBack", fn := fun _ => fun
  | [d1, d2] => { results := [.lit (.bool false)], args := [d1, d2] }
  | _ => none }
def DescBackWrongFalsely : Prop := descBackRow.holds Tryd.pinned (OpenSpec.ofChange descBackWrong)

/-- 'cruciblelaw2.DescParts': WHATEVER THE INPUT: true; the input reads as it did. -/
def descPartsSpec : ChangeSpec := { name := "descParts", fn := fun _ => fun
  | [d1, d2, d3] => { results := [.lit (.bool true)], args := [d1, d2, d3] }
  | _ => none }
def descPartsRow : OpenClaim := { program := "ythpfknlgfkecpaadoor", sum := "285cdb8bb83e2fe96c41f6f8a5568170626c00b2ca71877843974934f583715b", func := "crucible/cruciblelaw2.DescParts", spec := "descParts", inPlace := ["internal/bytealg.IndexByteString", "internal/bytealg.IndexString", "internal/abi.NoEscape", "internal/bytealg.MakeNoZero"], unfollowed := true, recurses := true, named := ["unicode/utf8.first", "unicode/utf8.acceptRanges", "internal/bytealg.MaxLen"], plainKeys := false, apart := false, laid := [("unicode/utf8.acceptRanges", laid_unicode_utf8_acceptRanges), ("unicode/utf8.first", laid_unicode_utf8_first)] }
def DescPartsSaid : Prop := descPartsRow.holds Tryd.pinned (OpenSpec.ofChange descPartsSpec)

/-- ITS FALSE NEIGHBOUR: 'it returns false'. Refute it at one input. -/
def descPartsWrong : ChangeSpec := { name := "descParts", fn := fun _ => fun
  | [d1, d2, d3] => { results := [.lit (.bool false)], args := [d1, d2, d3] }
  | _ => none }
def DescPartsWrongFalsely : Prop := descPartsRow.holds Tryd.pinned (OpenSpec.ofChange descPartsWrong)

/-- 'cruciblelaw3.FileWrites': WHATEVER THE INPUT: true; the input reads as it did. -/
def fileWritesSpec : ChangeSpec := { name := "fileWrites", fn := fun _ => fun
  | [d] => { results := [.lit (.bool true)], args := [d] }
  | _ => none }
def fileWritesRow : OpenClaim := { program := "ythpfknlgfkecpaadoor", sum := "285cdb8bb83e2fe96c41f6f8a5568170626c00b2ca71877843974934f583715b", func := "crucible/cruciblelaw3.FileWrites", spec := "fileWrites", inPlace := ["internal/bytealg.IndexByteString", "internal/bytealg.IndexString"], unfollowed := true, recurses := true, named := ["unicode/utf8.first", "unicode/utf8.acceptRanges", "internal/bytealg.MaxLen"], plainKeys := false, apart := false, laid := [("unicode/utf8.acceptRanges", laid_unicode_utf8_acceptRanges), ("unicode/utf8.first", laid_unicode_utf8_first)] }
def FileWritesSaid : Prop := fileWritesRow.holds Tryd.pinned (OpenSpec.ofChange fileWritesSpec)

/-- ITS FALSE NEIGHBOUR: 'it returns false'. Refute it at one input. -/
def fileWritesWrong : ChangeSpec := { name := "fileWrites", fn := fun _ => fun
  | [d] => { results := [.lit (.bool false)], args := [d] }
  | _ => none }
def FileWritesWrongFalsely : Prop := fileWritesRow.holds Tryd.pinned (OpenSpec.ofChange fileWritesWrong)

/-- 'cruciblelaw3.FileGrows': WHATEVER THE INPUT: true; the input reads as it did. -/
def fileGrowsSpec : ChangeSpec := { name := "fileGrows", fn := fun _ => fun
  | [d1, d2, d3] => { results := [.lit (.bool true)], args := [d1, d2, d3] }
  | _ => none }
def fileGrowsRow : OpenClaim := { program := "ythpfknlgfkecpaadoor", sum := "285cdb8bb83e2fe96c41f6f8a5568170626c00b2ca71877843974934f583715b", func := "crucible/cruciblelaw3.FileGrows", spec := "fileGrows", inPlace := ["internal/bytealg.IndexByteString", "internal/bytealg.IndexString"], unfollowed := true, recurses := true, named := ["unicode/utf8.first", "unicode/utf8.acceptRanges", "internal/bytealg.MaxLen"], plainKeys := false, apart := false, laid := [("unicode/utf8.acceptRanges", laid_unicode_utf8_acceptRanges), ("unicode/utf8.first", laid_unicode_utf8_first)] }
def FileGrowsSaid : Prop := fileGrowsRow.holds Tryd.pinned (OpenSpec.ofChange fileGrowsSpec)

/-- ITS FALSE NEIGHBOUR: 'it returns false'. Refute it at one input. -/
def fileGrowsWrong : ChangeSpec := { name := "fileGrows", fn := fun _ => fun
  | [d1, d2, d3] => { results := [.lit (.bool false)], args := [d1, d2, d3] }
  | _ => none }
def FileGrowsWrongFalsely : Prop := fileGrowsRow.holds Tryd.pinned (OpenSpec.ofChange fileGrowsWrong)

/-- 'cruciblelaw3.FileNames': WHATEVER THE INPUT: true; the input reads as it did. -/
def fileNamesSpec : ChangeSpec := { name := "fileNames", fn := fun _ => fun
  | [d1, d2, d3] => { results := [.lit (.bool true)], args := [d1, d2, d3] }
  | _ => none }
def fileNamesRow : OpenClaim := { program := "ythpfknlgfkecpaadoor", sum := "285cdb8bb83e2fe96c41f6f8a5568170626c00b2ca71877843974934f583715b", func := "crucible/cruciblelaw3.FileNames", spec := "fileNames", inPlace := ["internal/bytealg.IndexByteString", "internal/bytealg.IndexString"], unfollowed := true, recurses := true, named := ["unicode/utf8.first", "unicode/utf8.acceptRanges", "internal/bytealg.MaxLen"], plainKeys := false, apart := false, laid := [("unicode/utf8.acceptRanges", laid_unicode_utf8_acceptRanges), ("unicode/utf8.first", laid_unicode_utf8_first)] }
def FileNamesSaid : Prop := fileNamesRow.holds Tryd.pinned (OpenSpec.ofChange fileNamesSpec)

/-- ITS FALSE NEIGHBOUR: 'it returns false'. Refute it at one input. -/
def fileNamesWrong : ChangeSpec := { name := "fileNames", fn := fun _ => fun
  | [d1, d2, d3] => { results := [.lit (.bool false)], args := [d1, d2, d3] }
  | _ => none }
def FileNamesWrongFalsely : Prop := fileNamesRow.holds Tryd.pinned (OpenSpec.ofChange fileNamesWrong)

/-- 'cruciblelaw3.FileFinds': WHATEVER THE INPUT: true; the input reads as it did. -/
def fileFindsSpec : ChangeSpec := { name := "fileFinds", fn := fun _ => fun
  | [d1, d2, d3, d4] => { results := [.lit (.bool true)], args := [d1, d2, d3, d4] }
  | _ => none }
def fileFindsRow : OpenClaim := { program := "ythpfknlgfkecpaadoor", sum := "285cdb8bb83e2fe96c41f6f8a5568170626c00b2ca71877843974934f583715b", func := "crucible/cruciblelaw3.FileFinds", spec := "fileFinds", inPlace := ["internal/bytealg.IndexByteString", "internal/bytealg.IndexString"], unfollowed := true, recurses := true, named := ["unicode/utf8.first", "unicode/utf8.acceptRanges", "internal/bytealg.MaxLen"], plainKeys := false, apart := false, laid := [("unicode/utf8.acceptRanges", laid_unicode_utf8_acceptRanges), ("unicode/utf8.first", laid_unicode_utf8_first)] }
def FileFindsSaid : Prop := fileFindsRow.holds Tryd.pinned (OpenSpec.ofChange fileFindsSpec)

/-- ITS FALSE NEIGHBOUR: 'it returns false'. Refute it at one input. -/
def fileFindsWrong : ChangeSpec := { name := "fileFinds", fn := fun _ => fun
  | [d1, d2, d3, d4] => { results := [.lit (.bool false)], args := [d1, d2, d3, d4] }
  | _ => none }
def FileFindsWrongFalsely : Prop := fileFindsRow.holds Tryd.pinned (OpenSpec.ofChange fileFindsWrong)

/-- 'cruciblelaw3.FileBack': WHATEVER THE INPUT: true; the input reads as it did. -/
def fileBackSpec : ChangeSpec := { name := "fileBack", fn := fun _ => fun
  | [d1, d2] => { results := [.lit (.bool true)], args := [d1, d2] }
  | _ => none }
def fileBackRow : OpenClaim := { program := "ythpfknlgfkecpaadoor", sum := "285cdb8bb83e2fe96c41f6f8a5568170626c00b2ca71877843974934f583715b", func := "crucible/cruciblelaw3.FileBack", spec := "fileBack", inPlace := ["internal/bytealg.IndexByteString", "internal/bytealg.IndexString", "internal/abi.NoEscape"], unfollowed := true, recurses := true, named := ["unicode/utf8.first", "unicode/utf8.acceptRanges", "internal/bytealg.MaxLen"], plainKeys := false, apart := false, laid := [("unicode/utf8.acceptRanges", laid_unicode_utf8_acceptRanges), ("unicode/utf8.first", laid_unicode_utf8_first)] }
def FileBackSaid : Prop := fileBackRow.holds Tryd.pinned (OpenSpec.ofChange fileBackSpec)

/-- ITS FALSE NEIGHBOUR: 'it returns false'. Refute it at one input. -/
def fileBackWrong : ChangeSpec := { name := "fileBack", fn := fun _ => fun
  | [d1, d2] => { results := [.lit (.bool false)], args := [d1, d2] }
  | _ => none }
def FileBackWrongFalsely : Prop := fileBackRow.holds Tryd.pinned (OpenSpec.ofChange fileBackWrong)

/-- 'cruciblelaw3.FileAgain': WHATEVER THE INPUT: true; the input reads as it did. -/
def fileAgainSpec : ChangeSpec := { name := "fileAgain", fn := fun _ => fun
  | [d] => { results := [.lit (.bool true)], args := [d] }
  | _ => none }
def fileAgainRow : OpenClaim := { program := "ythpfknlgfkecpaadoor", sum := "285cdb8bb83e2fe96c41f6f8a5568170626c00b2ca71877843974934f583715b", func := "crucible/cruciblelaw3.FileAgain", spec := "fileAgain", inPlace := ["internal/bytealg.IndexByteString", "internal/bytealg.IndexString", "internal/abi.NoEscape"], unfollowed := true, recurses := true, named := ["unicode/utf8.first", "unicode/utf8.acceptRanges", "internal/bytealg.MaxLen"], plainKeys := false, apart := false, laid := [("unicode/utf8.acceptRanges", laid_unicode_utf8_acceptRanges), ("unicode/utf8.first", laid_unicode_utf8_first)] }
def FileAgainSaid : Prop := fileAgainRow.holds Tryd.pinned (OpenSpec.ofChange fileAgainSpec)

/-- ITS FALSE NEIGHBOUR: 'it returns false'. Refute it at one input. -/
def fileAgainWrong : ChangeSpec := { name := "fileAgain", fn := fun _ => fun
  | [d] => { results := [.lit (.bool false)], args := [d] }
  | _ => none }
def FileAgainWrongFalsely : Prop := fileAgainRow.holds Tryd.pinned (OpenSpec.ofChange fileAgainWrong)

/-- 'cruciblelaw3.FileTurns': WHATEVER THE INPUT: true; the input reads as it did. -/
def fileTurnsSpec : ChangeSpec := { name := "fileTurns", fn := fun _ => fun
  | [d1, d2, d3] => { results := [.lit (.bool true)], args := [d1, d2, d3] }
  | _ => none }
def fileTurnsRow : OpenClaim := { program := "ythpfknlgfkecpaadoor", sum := "285cdb8bb83e2fe96c41f6f8a5568170626c00b2ca71877843974934f583715b", func := "crucible/cruciblelaw3.FileTurns", spec := "fileTurns", inPlace := ["internal/bytealg.IndexByteString", "internal/bytealg.IndexString", "internal/abi.NoEscape"], unfollowed := true, recurses := true, named := ["unicode/utf8.first", "unicode/utf8.acceptRanges", "internal/bytealg.MaxLen"], plainKeys := false, apart := false, laid := [("unicode/utf8.acceptRanges", laid_unicode_utf8_acceptRanges), ("unicode/utf8.first", laid_unicode_utf8_first)] }
def FileTurnsSaid : Prop := fileTurnsRow.holds Tryd.pinned (OpenSpec.ofChange fileTurnsSpec)

/-- ITS FALSE NEIGHBOUR: 'it returns false'. Refute it at one input. -/
def fileTurnsWrong : ChangeSpec := { name := "fileTurns", fn := fun _ => fun
  | [d1, d2, d3] => { results := [.lit (.bool false)], args := [d1, d2, d3] }
  | _ => none }
def FileTurnsWrongFalsely : Prop := fileTurnsRow.holds Tryd.pinned (OpenSpec.ofChange fileTurnsWrong)

/- THE SECOND FORM. 'bulk': how many values and letters a reading holds, each counted each time it is reached (what is shared counts as often as it is met; a slice's spare places count too). A statement '..UptoSaid' is the law's where the arguments, and the package variables that the reading takes, are together of bulk at most 1048576: NARROWER than '..Said'. Prove '..Said' where nothing that the law and all that it calls make is longer than what came in: it says more and counts as full. Else prove '..UptoSaid'. A law counts once. -/
mutual
def uptoBulk {H : Type} : DataW H → Nat
  | .lit (.string bytes) => bytes.length + 1
  | .lit _ => 1
  | .nil => 1
  | .ptr d => uptoBulk d + 1
  | .slice elems spare => uptoBulkAll elems + uptoBulkAll spare + 1
  | .agg parts => uptoBulkAll parts + 1
  | .iface _ d => uptoBulk d + 1
  | .map entries => uptoBulkEntries entries + 1
  | .held _ => 1
def uptoBulkAll {H : Type} : List (DataW H) → Nat
  | [] => 0
  | d :: r => uptoBulk d + uptoBulkAll r
def uptoBulkEntries {H : Type} : List (Lit × DataW H) → Nat
  | [] => 0
  | x :: r => uptoBulkEntry x + uptoBulkEntries r
def uptoBulkEntry {H : Type} : Lit × DataW H → Nat
  | (.string bytes, d) => bytes.length + uptoBulk d + 1
  | (_, d) => uptoBulk d + 1
 end
def uptoSmall : (H : Type) → List (DataW H) → Bool := fun _ ds => decide (uptoBulkAll ds ≤ 1048576)
def OpenSpec.upto (s : _root_.Go.ChangeSpec) : _root_.Go.OpenSpec := { _root_.Go.OpenSpec.ofChange s with cond := some uptoSmall }

/-- 'cruciblelaw2.DescCuts', WHERE WHAT IT READS IS OF BULK AT MOST 1048576: true; the input reads as it did. -/
def descCutsUptoRow : OpenClaim := { program := "ythpfknlgfkecpaadoor", sum := "285cdb8bb83e2fe96c41f6f8a5568170626c00b2ca71877843974934f583715b", func := "crucible/cruciblelaw2.DescCuts", spec := "descCuts", inPlace := ["internal/bytealg.IndexByteString", "internal/bytealg.IndexString", "internal/abi.NoEscape", "internal/bytealg.MakeNoZero"], unfollowed := true, recurses := true, named := ["unicode/utf8.first", "unicode/utf8.acceptRanges", "internal/bytealg.MaxLen"], plainKeys := false, apart := false, laid := [("unicode/utf8.acceptRanges", laid_unicode_utf8_acceptRanges), ("unicode/utf8.first", laid_unicode_utf8_first)], narrowed := true }
def DescCutsUptoSaid : Prop := descCutsUptoRow.holds Tryd.pinned (OpenSpec.upto descCutsSpec)

/-- 'cruciblelaw2.DescFields', WHERE WHAT IT READS IS OF BULK AT MOST 1048576: true; the input reads as it did. -/
def descFieldsUptoRow : OpenClaim := { program := "ythpfknlgfkecpaadoor", sum := "285cdb8bb83e2fe96c41f6f8a5568170626c00b2ca71877843974934f583715b", func := "crucible/cruciblelaw2.DescFields", spec := "descFields", inPlace := ["internal/bytealg.IndexByteString", "internal/bytealg.IndexString", "internal/abi.NoEscape", "internal/bytealg.MakeNoZero"], unfollowed := true, recurses := true, named := ["unicode/utf8.first", "unicode/utf8.acceptRanges", "internal/bytealg.MaxLen"], plainKeys := false, apart := false, laid := [("unicode/utf8.acceptRanges", laid_unicode_utf8_acceptRanges), ("unicode/utf8.first", laid_unicode_utf8_first)], narrowed := true }
def DescFieldsUptoSaid : Prop := descFieldsUptoRow.holds Tryd.pinned (OpenSpec.upto descFieldsSpec)

/-- 'cruciblelaw2.DescArrays', WHERE WHAT IT READS IS OF BULK AT MOST 1048576: true; the input reads as it did. -/
def descArraysUptoRow : OpenClaim := { program := "ythpfknlgfkecpaadoor", sum := "285cdb8bb83e2fe96c41f6f8a5568170626c00b2ca71877843974934f583715b", func := "crucible/cruciblelaw2.DescArrays", spec := "descArrays", inPlace := ["internal/bytealg.IndexByteString", "internal/bytealg.IndexString", "internal/abi.NoEscape", "internal/bytealg.MakeNoZero"], unfollowed := true, recurses := true, named := ["unicode/utf8.first", "unicode/utf8.acceptRanges", "internal/bytealg.MaxLen"], plainKeys := false, apart := false, laid := [("unicode/utf8.acceptRanges", laid_unicode_utf8_acceptRanges), ("unicode/utf8.first", laid_unicode_utf8_first)], narrowed := true }
def DescArraysUptoSaid : Prop := descArraysUptoRow.holds Tryd.pinned (OpenSpec.upto descArraysSpec)

/-- 'cruciblelaw2.DescMethods', WHERE WHAT IT READS IS OF BULK AT MOST 1048576: true; the input reads as it did. -/
def descMethodsUptoRow : OpenClaim := { program := "ythpfknlgfkecpaadoor", sum := "285cdb8bb83e2fe96c41f6f8a5568170626c00b2ca71877843974934f583715b", func := "crucible/cruciblelaw2.DescMethods", spec := "descMethods", inPlace := ["internal/bytealg.IndexByteString", "internal/bytealg.IndexString", "internal/abi.NoEscape", "internal/bytealg.MakeNoZero"], unfollowed := true, recurses := true, named := ["unicode/utf8.first", "unicode/utf8.acceptRanges", "internal/bytealg.MaxLen"], plainKeys := false, apart := false, laid := [("unicode/utf8.acceptRanges", laid_unicode_utf8_acceptRanges), ("unicode/utf8.first", laid_unicode_utf8_first)], narrowed := true }
def DescMethodsUptoSaid : Prop := descMethodsUptoRow.holds Tryd.pinned (OpenSpec.upto descMethodsSpec)

/-- 'cruciblelaw2.DescBack', WHERE WHAT IT READS IS OF BULK AT MOST 1048576: true; the input reads as it did. -/
def descBackUptoRow : OpenClaim := { program := "ythpfknlgfkecpaadoor", sum := "285cdb8bb83e2fe96c41f6f8a5568170626c00b2ca71877843974934f583715b", func := "crucible/cruciblelaw2.DescBack", spec := "descBack", inPlace := ["internal/bytealg.IndexByteString", "internal/bytealg.IndexString", "internal/abi.NoEscape", "internal/bytealg.MakeNoZero"], unfollowed := true, recurses := true, named := ["unicode/utf8.first", "unicode/utf8.acceptRanges", "internal/bytealg.MaxLen"], plainKeys := false, apart := false, laid := [("unicode/utf8.acceptRanges", laid_unicode_utf8_acceptRanges), ("unicode/utf8.first", laid_unicode_utf8_first)], narrowed := true }
def DescBackUptoSaid : Prop := descBackUptoRow.holds Tryd.pinned (OpenSpec.upto descBackSpec)

/-- 'cruciblelaw2.DescParts', WHERE WHAT IT READS IS OF BULK AT MOST 1048576: true; the input reads as it did. -/
def descPartsUptoRow : OpenClaim := { program := "ythpfknlgfkecpaadoor", sum := "285cdb8bb83e2fe96c41f6f8a5568170626c00b2ca71877843974934f583715b", func := "crucible/cruciblelaw2.DescParts", spec := "descParts", inPlace := ["internal/bytealg.IndexByteString", "internal/bytealg.IndexString", "internal/abi.NoEscape", "internal/bytealg.MakeNoZero"], unfollowed := true, recurses := true, named := ["unicode/utf8.first", "unicode/utf8.acceptRanges", "internal/bytealg.MaxLen"], plainKeys := false, apart := false, laid := [("unicode/utf8.acceptRanges", laid_unicode_utf8_acceptRanges), ("unicode/utf8.first", laid_unicode_utf8_first)], narrowed := true }
def DescPartsUptoSaid : Prop := descPartsUptoRow.holds Tryd.pinned (OpenSpec.upto descPartsSpec)

/-- 'cruciblelaw3.FileWrites', WHERE WHAT IT READS IS OF BULK AT MOST 1048576: true; the input reads as it did. -/
def fileWritesUptoRow : OpenClaim := { program := "ythpfknlgfkecpaadoor", sum := "285cdb8bb83e2fe96c41f6f8a5568170626c00b2ca71877843974934f583715b", func := "crucible/cruciblelaw3.FileWrites", spec := "fileWrites", inPlace := ["internal/bytealg.IndexByteString", "internal/bytealg.IndexString"], unfollowed := true, recurses := true, named := ["unicode/utf8.first", "unicode/utf8.acceptRanges", "internal/bytealg.MaxLen"], plainKeys := false, apart := false, laid := [("unicode/utf8.acceptRanges", laid_unicode_utf8_acceptRanges), ("unicode/utf8.first", laid_unicode_utf8_first)], narrowed := true }
def FileWritesUptoSaid : Prop := fileWritesUptoRow.holds Tryd.pinned (OpenSpec.upto fileWritesSpec)

/-- 'cruciblelaw3.FileGrows', WHERE WHAT IT READS IS OF BULK AT MOST 1048576: true; the input reads as it did. -/
def fileGrowsUptoRow : OpenClaim := { program := "ythpfknlgfkecpaadoor", sum := "285cdb8bb83e2fe96c41f6f8a5568170626c00b2ca71877843974934f583715b", func := "crucible/cruciblelaw3.FileGrows", spec := "fileGrows", inPlace := ["internal/bytealg.IndexByteString", "internal/bytealg.IndexString"], unfollowed := true, recurses := true, named := ["unicode/utf8.first", "unicode/utf8.acceptRanges", "internal/bytealg.MaxLen"], plainKeys := false, apart := false, laid := [("unicode/utf8.acceptRanges", laid_unicode_utf8_acceptRanges), ("unicode/utf8.first", laid_unicode_utf8_first)], narrowed := true }
def FileGrowsUptoSaid : Prop := fileGrowsUptoRow.holds Tryd.pinned (OpenSpec.upto fileGrowsSpec)

/-- 'cruciblelaw3.FileNames', WHERE WHAT IT READS IS OF BULK AT MOST 1048576: true; the input reads as it did. -/
def fileNamesUptoRow : OpenClaim := { program := "ythpfknlgfkecpaadoor", sum := "285cdb8bb83e2fe96c41f6f8a5568170626c00b2ca71877843974934f583715b", func := "crucible/cruciblelaw3.FileNames", spec := "fileNames", inPlace := ["internal/bytealg.IndexByteString", "internal/bytealg.IndexString"], unfollowed := true, recurses := true, named := ["unicode/utf8.first", "unicode/utf8.acceptRanges", "internal/bytealg.MaxLen"], plainKeys := false, apart := false, laid := [("unicode/utf8.acceptRanges", laid_unicode_utf8_acceptRanges), ("unicode/utf8.first", laid_unicode_utf8_first)], narrowed := true }
def FileNamesUptoSaid : Prop := fileNamesUptoRow.holds Tryd.pinned (OpenSpec.upto fileNamesSpec)

/-- 'cruciblelaw3.FileFinds', WHERE WHAT IT READS IS OF BULK AT MOST 1048576: true; the input reads as it did. -/
def fileFindsUptoRow : OpenClaim := { program := "ythpfknlgfkecpaadoor", sum := "285cdb8bb83e2fe96c41f6f8a5568170626c00b2ca71877843974934f583715b", func := "crucible/cruciblelaw3.FileFinds", spec := "fileFinds", inPlace := ["internal/bytealg.IndexByteString", "internal/bytealg.IndexString"], unfollowed := true, recurses := true, named := ["unicode/utf8.first", "unicode/utf8.acceptRanges", "internal/bytealg.MaxLen"], plainKeys := false, apart := false, laid := [("unicode/utf8.acceptRanges", laid_unicode_utf8_acceptRanges), ("unicode/utf8.first", laid_unicode_utf8_first)], narrowed := true }
def FileFindsUptoSaid : Prop := fileFindsUptoRow.holds Tryd.pinned (OpenSpec.upto fileFindsSpec)

/-- 'cruciblelaw3.FileBack', WHERE WHAT IT READS IS OF BULK AT MOST 1048576: true; the input reads as it did. -/
def fileBackUptoRow : OpenClaim := { program := "ythpfknlgfkecpaadoor", sum := "285cdb8bb83e2fe96c41f6f8a5568170626c00b2ca71877843974934f583715b", func := "crucible/cruciblelaw3.FileBack", spec := "fileBack", inPlace := ["internal/bytealg.IndexByteString", "internal/bytealg.IndexString", "internal/abi.NoEscape"], unfollowed := true, recurses := true, named := ["unicode/utf8.first", "unicode/utf8.acceptRanges", "internal/bytealg.MaxLen"], plainKeys := false, apart := false, laid := [("unicode/utf8.acceptRanges", laid_unicode_utf8_acceptRanges), ("unicode/utf8.first", laid_unicode_utf8_first)], narrowed := true }
def FileBackUptoSaid : Prop := fileBackUptoRow.holds Tryd.pinned (OpenSpec.upto fileBackSpec)

/-- 'cruciblelaw3.FileAgain', WHERE WHAT IT READS IS OF BULK AT MOST 1048576: true; the input reads as it did. -/
def fileAgainUptoRow : OpenClaim := { program := "ythpfknlgfkecpaadoor", sum := "285cdb8bb83e2fe96c41f6f8a5568170626c00b2ca71877843974934f583715b", func := "crucible/cruciblelaw3.FileAgain", spec := "fileAgain", inPlace := ["internal/bytealg.IndexByteString", "internal/bytealg.IndexString", "internal/abi.NoEscape"], unfollowed := true, recurses := true, named := ["unicode/utf8.first", "unicode/utf8.acceptRanges", "internal/bytealg.MaxLen"], plainKeys := false, apart := false, laid := [("unicode/utf8.acceptRanges", laid_unicode_utf8_acceptRanges), ("unicode/utf8.first", laid_unicode_utf8_first)], narrowed := true }
def FileAgainUptoSaid : Prop := fileAgainUptoRow.holds Tryd.pinned (OpenSpec.upto fileAgainSpec)

/-- 'cruciblelaw3.FileTurns', WHERE WHAT IT READS IS OF BULK AT MOST 1048576: true; the input reads as it did. -/
def fileTurnsUptoRow : OpenClaim := { program := "ythpfknlgfkecpaadoor", sum := "285cdb8bb83e2fe96c41f6f8a5568170626c00b2ca71877843974934f583715b", func := "crucible/cruciblelaw3.FileTurns", spec := "fileTurns", inPlace := ["internal/bytealg.IndexByteString", "internal/bytealg.IndexString", "internal/abi.NoEscape"], unfollowed := true, recurses := true, named := ["unicode/utf8.first", "unicode/utf8.acceptRanges", "internal/bytealg.MaxLen"], plainKeys := false, apart := false, laid := [("unicode/utf8.acceptRanges", laid_unicode_utf8_acceptRanges), ("unicode/utf8.first", laid_unicode_utf8_first)], narrowed := true }
def FileTurnsUptoSaid : Prop := fileTurnsUptoRow.holds Tryd.pinned (OpenSpec.upto fileTurnsSpec)

end Rows
end Go.Proofs.YthpfknlgfkecpaaDoor
