/-
  NARROWER THAN 'FOR EVERY INPUT', by the rows' own cells (each row's printed sentence says how): StrtabPlays: laid · StrtabKeeps: laid · MutfWrites: laid · MutfReads: laid · MutfNames: laid · MutfAgain: laid · MutfJoins: laid · MutfCuts: laid · MutfRunes: laid · MutfRuns: laid · MutfMakes: laid · MutfBack: laid.
  DERIVED. THE GIVEN ROWS OF THIS SEAT. 12 by the template 'for every input the law returns true; each argument reads behind the call as it read before'; 0 by the template 'total and deterministic' (their statements: YtkppjehpfjalbaaDoorTotals.lean).
  GIVEN WITH THE SEED: the statements are not yours to turn. If you find one false, say at which input.
  Laid BY PROGRAM, IN A SANDBOX (cutbox-rows.mjs): the forced cells as the released guide's own fill.sh prints them over the translation 729168e72846b946… (all of the seat's roots in one cut). By AI agents, Wed Nov 11 2026. No macro, syntax, notation, axiom, sorry.
-/
import Derived.Test.YtkppjehpfjalbaaDoorChecked
import GoSem.PinnedTables
import GoSem.Claim
import GoSem.ClaimJoined
import GoSem.ClaimMapViews
import Derived.JoinedTies
import Derived.KernelRfl
namespace Go.Proofs.YtkppjehpfjalbaaDoor
/- THE CELL 'sum', in the pinned program and in every row, IS THE sha256 OF THE DUMP (.gsa) THAT YtkppjehpfjalbaaDoorProg.lean LOADS. Nothing in Lean hashes anything: it is a label: what it is worth is what the hold of that sum in a sandbox is worth. -/
noncomputable def Tryd.pinned : Pinned := { name := "ytkppjehpfjalbaadoor", sum := "729168e72846b94645cafb1750d2f63c3c731ca039808001e2881fbe7893809d", checked := Tryd.checked }
namespace Rows
def none {H : Type} : Left H := { results := [], args := [] }

/- WHAT THE LISTED PACKAGE-LEVEL VARIABLES READ AS WHEN THE CALL BEGINS. Each datum BY PROGRAM (the guide's laid-datum.mjs) off the statement by which the dump's own 'gosem.cut.vars' lays the variable. In a bare row this is a premise. The card (YtkppjehpfjalbaaDoorCards.lean) ties it to the program's text. -/
def laid_unicode_utf8_acceptRanges {H : Type} : DataW H := .agg [.agg [.lit (.int .u8 128), .lit (.int .u8 191)], .agg [.lit (.int .u8 160), .lit (.int .u8 191)], .agg [.lit (.int .u8 128), .lit (.int .u8 159)], .agg [.lit (.int .u8 144), .lit (.int .u8 191)], .agg [.lit (.int .u8 128), .lit (.int .u8 143)], .agg [.lit (.int .u8 0), .lit (.int .u8 0)], .agg [.lit (.int .u8 0), .lit (.int .u8 0)], .agg [.lit (.int .u8 0), .lit (.int .u8 0)], .agg [.lit (.int .u8 0), .lit (.int .u8 0)], .agg [.lit (.int .u8 0), .lit (.int .u8 0)], .agg [.lit (.int .u8 0), .lit (.int .u8 0)], .agg [.lit (.int .u8 0), .lit (.int .u8 0)], .agg [.lit (.int .u8 0), .lit (.int .u8 0)], .agg [.lit (.int .u8 0), .lit (.int .u8 0)], .agg [.lit (.int .u8 0), .lit (.int .u8 0)], .agg [.lit (.int .u8 0), .lit (.int .u8 0)]]
/-- One of Go's own tables, pinned by name: the form's constant. -/
def laid_unicode_utf8_first : DataW Unit := Go.Pinned.utf8First

/-- 'cruciblelaw16.StrtabPlays': WHATEVER THE INPUT: true; the input reads as it did. -/
def strtabPlaysSpec : ChangeSpec := { name := "strtabPlays", fn := fun _ => fun
  | [d] => { results := [.lit (.bool true)], args := [d] }
  | _ => none }
def strtabPlaysRow : OpenClaim := { program := "ytkppjehpfjalbaadoor", sum := "729168e72846b94645cafb1750d2f63c3c731ca039808001e2881fbe7893809d", func := "crucible/cruciblelaw16.StrtabPlays", spec := "strtabPlays", unfollowed := true, recurses := true, named := ["unicode/utf8.first", "unicode/utf8.acceptRanges"], apart := false, laid := [("unicode/utf8.acceptRanges", laid_unicode_utf8_acceptRanges), ("unicode/utf8.first", laid_unicode_utf8_first)] }
def StrtabPlaysSaid : Prop := strtabPlaysRow.holds Tryd.pinned (OpenSpec.ofChange strtabPlaysSpec)

/-- ITS FALSE NEIGHBOUR: 'it returns false'. Refute it at one input. -/
def strtabPlaysWrong : ChangeSpec := { name := "strtabPlays", fn := fun _ => fun
  | [d] => { results := [.lit (.bool false)], args := [d] }
  | _ => none }
def StrtabPlaysWrongFalsely : Prop := strtabPlaysRow.holds Tryd.pinned (OpenSpec.ofChange strtabPlaysWrong)

/-- 'cruciblelaw16.StrtabKeeps': WHATEVER THE INPUT: true; the input reads as it did. -/
def strtabKeepsSpec : ChangeSpec := { name := "strtabKeeps", fn := fun _ => fun
  | [d1, d2] => { results := [.lit (.bool true)], args := [d1, d2] }
  | _ => none }
def strtabKeepsRow : OpenClaim := { program := "ytkppjehpfjalbaadoor", sum := "729168e72846b94645cafb1750d2f63c3c731ca039808001e2881fbe7893809d", func := "crucible/cruciblelaw16.StrtabKeeps", spec := "strtabKeeps", unfollowed := true, recurses := true, named := ["unicode/utf8.first", "unicode/utf8.acceptRanges"], apart := false, laid := [("unicode/utf8.acceptRanges", laid_unicode_utf8_acceptRanges), ("unicode/utf8.first", laid_unicode_utf8_first)] }
def StrtabKeepsSaid : Prop := strtabKeepsRow.holds Tryd.pinned (OpenSpec.ofChange strtabKeepsSpec)

/-- ITS FALSE NEIGHBOUR: 'it returns false'. Refute it at one input. -/
def strtabKeepsWrong : ChangeSpec := { name := "strtabKeeps", fn := fun _ => fun
  | [d1, d2] => { results := [.lit (.bool false)], args := [d1, d2] }
  | _ => none }
def StrtabKeepsWrongFalsely : Prop := strtabKeepsRow.holds Tryd.pinned (OpenSpec.ofChange strtabKeepsWrong)

/-- 'cruciblelaw1.MutfWrites': WHATEVER THE INPUT: true; the input reads as it did. -/
def mutfWritesSpec : ChangeSpec := { name := "mutfWrites", fn := fun _ => fun
  | [d] => { results := [.lit (.bool true)], args := [d] }
  | _ => none }
def mutfWritesRow : OpenClaim := { program := "ytkppjehpfjalbaadoor", sum := "729168e72846b94645cafb1750d2f63c3c731ca039808001e2881fbe7893809d", func := "crucible/cruciblelaw1.MutfWrites", spec := "mutfWrites", inPlace := ["internal/abi.NoEscape"], unfollowed := true, recurses := true, named := ["unicode/utf8.first", "unicode/utf8.acceptRanges"], apart := false, laid := [("unicode/utf8.acceptRanges", laid_unicode_utf8_acceptRanges), ("unicode/utf8.first", laid_unicode_utf8_first)] }
def MutfWritesSaid : Prop := mutfWritesRow.holds Tryd.pinned (OpenSpec.ofChange mutfWritesSpec)

/-- ITS FALSE NEIGHBOUR: 'it returns false'. Refute it at one input. -/
def mutfWritesWrong : ChangeSpec := { name := "mutfWrites", fn := fun _ => fun
  | [d] => { results := [.lit (.bool false)], args := [d] }
  | _ => none }
def MutfWritesWrongFalsely : Prop := mutfWritesRow.holds Tryd.pinned (OpenSpec.ofChange mutfWritesWrong)

/-- 'cruciblelaw1.MutfReads': WHATEVER THE INPUT: true; the input reads as it did. -/
def mutfReadsSpec : ChangeSpec := { name := "mutfReads", fn := fun _ => fun
  | [d] => { results := [.lit (.bool true)], args := [d] }
  | _ => none }
def mutfReadsRow : OpenClaim := { program := "ytkppjehpfjalbaadoor", sum := "729168e72846b94645cafb1750d2f63c3c731ca039808001e2881fbe7893809d", func := "crucible/cruciblelaw1.MutfReads", spec := "mutfReads", inPlace := ["internal/abi.NoEscape"], unfollowed := true, recurses := true, named := ["unicode/utf8.first", "unicode/utf8.acceptRanges"], apart := false, laid := [("unicode/utf8.acceptRanges", laid_unicode_utf8_acceptRanges), ("unicode/utf8.first", laid_unicode_utf8_first)] }
def MutfReadsSaid : Prop := mutfReadsRow.holds Tryd.pinned (OpenSpec.ofChange mutfReadsSpec)

/-- ITS FALSE NEIGHBOUR: 'it returns false'. Refute it at one input. -/
def mutfReadsWrong : ChangeSpec := { name := "mutfReads", fn := fun _ => fun
  | [d] => { results := [.lit (.bool false)], args := [d] }
  | _ => none }
def MutfReadsWrongFalsely : Prop := mutfReadsRow.holds Tryd.pinned (OpenSpec.ofChange mutfReadsWrong)

/-- 'cruciblelaw1.MutfNames': WHATEVER THE INPUT: true; the input reads as it did. -/
def mutfNamesSpec : ChangeSpec := { name := "mutfNames", fn := fun _ => fun
  | [d] => { results := [.lit (.bool true)], args := [d] }
  | _ => none }
def mutfNamesRow : OpenClaim := { program := "ytkppjehpfjalbaadoor", sum := "729168e72846b94645cafb1750d2f63c3c731ca039808001e2881fbe7893809d", func := "crucible/cruciblelaw1.MutfNames", spec := "mutfNames", inPlace := ["internal/abi.NoEscape"], unfollowed := true, recurses := true, named := ["unicode/utf8.first", "unicode/utf8.acceptRanges"], apart := false, laid := [("unicode/utf8.acceptRanges", laid_unicode_utf8_acceptRanges), ("unicode/utf8.first", laid_unicode_utf8_first)] }
def MutfNamesSaid : Prop := mutfNamesRow.holds Tryd.pinned (OpenSpec.ofChange mutfNamesSpec)

/-- ITS FALSE NEIGHBOUR: 'it returns false'. Refute it at one input. -/
def mutfNamesWrong : ChangeSpec := { name := "mutfNames", fn := fun _ => fun
  | [d] => { results := [.lit (.bool false)], args := [d] }
  | _ => none }
def MutfNamesWrongFalsely : Prop := mutfNamesRow.holds Tryd.pinned (OpenSpec.ofChange mutfNamesWrong)

/-- 'cruciblelaw1.MutfAgain': WHATEVER THE INPUT: true; the input reads as it did. -/
def mutfAgainSpec : ChangeSpec := { name := "mutfAgain", fn := fun _ => fun
  | [d] => { results := [.lit (.bool true)], args := [d] }
  | _ => none }
def mutfAgainRow : OpenClaim := { program := "ytkppjehpfjalbaadoor", sum := "729168e72846b94645cafb1750d2f63c3c731ca039808001e2881fbe7893809d", func := "crucible/cruciblelaw1.MutfAgain", spec := "mutfAgain", inPlace := ["internal/abi.NoEscape"], unfollowed := true, recurses := true, named := ["unicode/utf8.first", "unicode/utf8.acceptRanges"], apart := false, laid := [("unicode/utf8.acceptRanges", laid_unicode_utf8_acceptRanges), ("unicode/utf8.first", laid_unicode_utf8_first)] }
def MutfAgainSaid : Prop := mutfAgainRow.holds Tryd.pinned (OpenSpec.ofChange mutfAgainSpec)

/-- ITS FALSE NEIGHBOUR: 'it returns false'. Refute it at one input. -/
def mutfAgainWrong : ChangeSpec := { name := "mutfAgain", fn := fun _ => fun
  | [d] => { results := [.lit (.bool false)], args := [d] }
  | _ => none }
def MutfAgainWrongFalsely : Prop := mutfAgainRow.holds Tryd.pinned (OpenSpec.ofChange mutfAgainWrong)

/-- 'cruciblelaw1.MutfJoins': WHATEVER THE INPUT: true; the input reads as it did. -/
def mutfJoinsSpec : ChangeSpec := { name := "mutfJoins", fn := fun _ => fun
  | [d1, d2, d3] => { results := [.lit (.bool true)], args := [d1, d2, d3] }
  | _ => none }
def mutfJoinsRow : OpenClaim := { program := "ytkppjehpfjalbaadoor", sum := "729168e72846b94645cafb1750d2f63c3c731ca039808001e2881fbe7893809d", func := "crucible/cruciblelaw1.MutfJoins", spec := "mutfJoins", inPlace := ["internal/abi.NoEscape"], unfollowed := true, recurses := true, named := ["unicode/utf8.first", "unicode/utf8.acceptRanges"], apart := false, laid := [("unicode/utf8.acceptRanges", laid_unicode_utf8_acceptRanges), ("unicode/utf8.first", laid_unicode_utf8_first)] }
def MutfJoinsSaid : Prop := mutfJoinsRow.holds Tryd.pinned (OpenSpec.ofChange mutfJoinsSpec)

/-- ITS FALSE NEIGHBOUR: 'it returns false'. Refute it at one input. -/
def mutfJoinsWrong : ChangeSpec := { name := "mutfJoins", fn := fun _ => fun
  | [d1, d2, d3] => { results := [.lit (.bool false)], args := [d1, d2, d3] }
  | _ => none }
def MutfJoinsWrongFalsely : Prop := mutfJoinsRow.holds Tryd.pinned (OpenSpec.ofChange mutfJoinsWrong)

/-- 'cruciblelaw1.MutfCuts': WHATEVER THE INPUT: true; the input reads as it did. -/
def mutfCutsSpec : ChangeSpec := { name := "mutfCuts", fn := fun _ => fun
  | [d1, d2] => { results := [.lit (.bool true)], args := [d1, d2] }
  | _ => none }
def mutfCutsRow : OpenClaim := { program := "ytkppjehpfjalbaadoor", sum := "729168e72846b94645cafb1750d2f63c3c731ca039808001e2881fbe7893809d", func := "crucible/cruciblelaw1.MutfCuts", spec := "mutfCuts", inPlace := ["internal/abi.NoEscape"], unfollowed := true, recurses := true, named := ["unicode/utf8.first", "unicode/utf8.acceptRanges"], apart := false, laid := [("unicode/utf8.acceptRanges", laid_unicode_utf8_acceptRanges), ("unicode/utf8.first", laid_unicode_utf8_first)] }
def MutfCutsSaid : Prop := mutfCutsRow.holds Tryd.pinned (OpenSpec.ofChange mutfCutsSpec)

/-- ITS FALSE NEIGHBOUR: 'it returns false'. Refute it at one input. -/
def mutfCutsWrong : ChangeSpec := { name := "mutfCuts", fn := fun _ => fun
  | [d1, d2] => { results := [.lit (.bool false)], args := [d1, d2] }
  | _ => none }
def MutfCutsWrongFalsely : Prop := mutfCutsRow.holds Tryd.pinned (OpenSpec.ofChange mutfCutsWrong)

/-- 'cruciblelaw1.MutfRunes': WHATEVER THE INPUT: true; the input reads as it did. -/
def mutfRunesSpec : ChangeSpec := { name := "mutfRunes", fn := fun _ => fun
  | [d1, d2] => { results := [.lit (.bool true)], args := [d1, d2] }
  | _ => none }
def mutfRunesRow : OpenClaim := { program := "ytkppjehpfjalbaadoor", sum := "729168e72846b94645cafb1750d2f63c3c731ca039808001e2881fbe7893809d", func := "crucible/cruciblelaw1.MutfRunes", spec := "mutfRunes", inPlace := ["internal/abi.NoEscape"], unfollowed := true, recurses := true, named := ["unicode/utf8.first", "unicode/utf8.acceptRanges"], apart := false, laid := [("unicode/utf8.acceptRanges", laid_unicode_utf8_acceptRanges), ("unicode/utf8.first", laid_unicode_utf8_first)] }
def MutfRunesSaid : Prop := mutfRunesRow.holds Tryd.pinned (OpenSpec.ofChange mutfRunesSpec)

/-- ITS FALSE NEIGHBOUR: 'it returns false'. Refute it at one input. -/
def mutfRunesWrong : ChangeSpec := { name := "mutfRunes", fn := fun _ => fun
  | [d1, d2] => { results := [.lit (.bool false)], args := [d1, d2] }
  | _ => none }
def MutfRunesWrongFalsely : Prop := mutfRunesRow.holds Tryd.pinned (OpenSpec.ofChange mutfRunesWrong)

/-- 'cruciblelaw1.MutfRuns': WHATEVER THE INPUT: true; the input reads as it did. -/
def mutfRunsSpec : ChangeSpec := { name := "mutfRuns", fn := fun _ => fun
  | [d1, d2] => { results := [.lit (.bool true)], args := [d1, d2] }
  | _ => none }
def mutfRunsRow : OpenClaim := { program := "ytkppjehpfjalbaadoor", sum := "729168e72846b94645cafb1750d2f63c3c731ca039808001e2881fbe7893809d", func := "crucible/cruciblelaw1.MutfRuns", spec := "mutfRuns", inPlace := ["internal/abi.NoEscape"], unfollowed := true, recurses := true, named := ["unicode/utf8.first", "unicode/utf8.acceptRanges"], apart := false, laid := [("unicode/utf8.acceptRanges", laid_unicode_utf8_acceptRanges), ("unicode/utf8.first", laid_unicode_utf8_first)] }
def MutfRunsSaid : Prop := mutfRunsRow.holds Tryd.pinned (OpenSpec.ofChange mutfRunsSpec)

/-- ITS FALSE NEIGHBOUR: 'it returns false'. Refute it at one input. -/
def mutfRunsWrong : ChangeSpec := { name := "mutfRuns", fn := fun _ => fun
  | [d1, d2] => { results := [.lit (.bool false)], args := [d1, d2] }
  | _ => none }
def MutfRunsWrongFalsely : Prop := mutfRunsRow.holds Tryd.pinned (OpenSpec.ofChange mutfRunsWrong)

/-- 'cruciblelaw1.MutfMakes': WHATEVER THE INPUT: true; the input reads as it did. -/
def mutfMakesSpec : ChangeSpec := { name := "mutfMakes", fn := fun _ => fun
  | [d] => { results := [.lit (.bool true)], args := [d] }
  | _ => none }
def mutfMakesRow : OpenClaim := { program := "ytkppjehpfjalbaadoor", sum := "729168e72846b94645cafb1750d2f63c3c731ca039808001e2881fbe7893809d", func := "crucible/cruciblelaw1.MutfMakes", spec := "mutfMakes", inPlace := ["internal/abi.NoEscape"], unfollowed := true, recurses := true, named := ["unicode/utf8.first", "unicode/utf8.acceptRanges"], apart := false, laid := [("unicode/utf8.acceptRanges", laid_unicode_utf8_acceptRanges), ("unicode/utf8.first", laid_unicode_utf8_first)] }
def MutfMakesSaid : Prop := mutfMakesRow.holds Tryd.pinned (OpenSpec.ofChange mutfMakesSpec)

/-- ITS FALSE NEIGHBOUR: 'it returns false'. Refute it at one input. -/
def mutfMakesWrong : ChangeSpec := { name := "mutfMakes", fn := fun _ => fun
  | [d] => { results := [.lit (.bool false)], args := [d] }
  | _ => none }
def MutfMakesWrongFalsely : Prop := mutfMakesRow.holds Tryd.pinned (OpenSpec.ofChange mutfMakesWrong)

/-- 'cruciblelaw1.MutfBack': WHATEVER THE INPUT: true; the input reads as it did. -/
def mutfBackSpec : ChangeSpec := { name := "mutfBack", fn := fun _ => fun
  | [d1, d2] => { results := [.lit (.bool true)], args := [d1, d2] }
  | _ => none }
def mutfBackRow : OpenClaim := { program := "ytkppjehpfjalbaadoor", sum := "729168e72846b94645cafb1750d2f63c3c731ca039808001e2881fbe7893809d", func := "crucible/cruciblelaw1.MutfBack", spec := "mutfBack", inPlace := ["internal/abi.NoEscape"], unfollowed := true, recurses := true, named := ["unicode/utf8.first", "unicode/utf8.acceptRanges"], apart := false, laid := [("unicode/utf8.acceptRanges", laid_unicode_utf8_acceptRanges), ("unicode/utf8.first", laid_unicode_utf8_first)] }
def MutfBackSaid : Prop := mutfBackRow.holds Tryd.pinned (OpenSpec.ofChange mutfBackSpec)

/-- ITS FALSE NEIGHBOUR: 'it returns false'. Refute it at one input. -/
def mutfBackWrong : ChangeSpec := { name := "mutfBack", fn := fun _ => fun
  | [d1, d2] => { results := [.lit (.bool false)], args := [d1, d2] }
  | _ => none }
def MutfBackWrongFalsely : Prop := mutfBackRow.holds Tryd.pinned (OpenSpec.ofChange mutfBackWrong)

/- THE SECOND FORM. 'bulk': how many values and letters a reading holds, each counted each time it is reached (what is shared counts as often as it is met; a slice's spare places count too). A statement '..UptoSaid' is the law's where the arguments, and the package variables that the reading takes, are together of bulk at most 1048576: NARROWER than '..Said'. Prove '..Said' where nothing that the law and all that it calls make is longer than what came in: it says more and counts as full. Else prove '..UptoSaid'. A law counts once. -/
mutual
def uptoBulk {H : Type} : DataW H → Nat
  | .lit (.string bytes) => bytes.length + 1
  | .lit _ => 1
  | .nil => 1
  | .ptr d => uptoBulk d + 1
  | .slice elems spare => uptoBulkAll elems + uptoBulkAll spare + 1
  | .agg parts => uptoBulkAll parts + 1
  | .iface _ d => uptoBulk d + 1
  | .map entries => uptoBulkEntries entries + 1
  | .held _ => 1
def uptoBulkAll {H : Type} : List (DataW H) → Nat
  | [] => 0
  | d :: r => uptoBulk d + uptoBulkAll r
def uptoBulkEntries {H : Type} : List (Lit × DataW H) → Nat
  | [] => 0
  | x :: r => uptoBulkEntry x + uptoBulkEntries r
def uptoBulkEntry {H : Type} : Lit × DataW H → Nat
  | (.string bytes, d) => bytes.length + uptoBulk d + 1
  | (_, d) => uptoBulk d + 1
 end
def uptoSmall : (H : Type) → List (DataW H) → Bool := fun _ ds => decide (uptoBulkAll ds ≤ 1048576)
def OpenSpec.upto (s : _root_.Go.ChangeSpec) : _root_.Go.OpenSpec := { _root_.Go.OpenSpec.ofChange s with cond := some uptoSmall }

/-- 'cruciblelaw16.StrtabPlays', WHERE WHAT IT READS IS OF BULK AT MOST 1048576: true; the input reads as it did. -/
def strtabPlaysUptoRow : OpenClaim := { program := "ytkppjehpfjalbaadoor", sum := "729168e72846b94645cafb1750d2f63c3c731ca039808001e2881fbe7893809d", func := "crucible/cruciblelaw16.StrtabPlays", spec := "strtabPlays", unfollowed := true, recurses := true, named := ["unicode/utf8.first", "unicode/utf8.acceptRanges"], apart := false, laid := [("unicode/utf8.acceptRanges", laid_unicode_utf8_acceptRanges), ("unicode/utf8.first", laid_unicode_utf8_first)], narrowed := true }
def StrtabPlaysUptoSaid : Prop := strtabPlaysUptoRow.holds Tryd.pinned (OpenSpec.upto strtabPlaysSpec)

/-- 'cruciblelaw16.StrtabKeeps', WHERE WHAT IT READS IS OF BULK AT MOST 1048576: true; the input reads as it did. -/
def strtabKeepsUptoRow : OpenClaim := { program := "ytkppjehpfjalbaadoor", sum := "729168e72846b94645cafb1750d2f63c3c731ca039808001e2881fbe7893809d", func := "crucible/cruciblelaw16.StrtabKeeps", spec := "strtabKeeps", unfollowed := true, recurses := true, named := ["unicode/utf8.first", "unicode/utf8.acceptRanges"], apart := false, laid := [("unicode/utf8.acceptRanges", laid_unicode_utf8_acceptRanges), ("unicode/utf8.first", laid_unicode_utf8_first)], narrowed := true }
def StrtabKeepsUptoSaid : Prop := strtabKeepsUptoRow.holds Tryd.pinned (OpenSpec.upto strtabKeepsSpec)

/-- 'cruciblelaw1.MutfWrites', WHERE WHAT IT READS IS OF BULK AT MOST 1048576: true; the input reads as it did. -/
def mutfWritesUptoRow : OpenClaim := { program := "ytkppjehpfjalbaadoor", sum := "729168e72846b94645cafb1750d2f63c3c731ca039808001e2881fbe7893809d", func := "crucible/cruciblelaw1.MutfWrites", spec := "mutfWrites", inPlace := ["internal/abi.NoEscape"], unfollowed := true, recurses := true, named := ["unicode/utf8.first", "unicode/utf8.acceptRanges"], apart := false, laid := [("unicode/utf8.acceptRanges", laid_unicode_utf8_acceptRanges), ("unicode/utf8.first", laid_unicode_utf8_first)], narrowed := true }
def MutfWritesUptoSaid : Prop := mutfWritesUptoRow.holds Tryd.pinned (OpenSpec.upto mutfWritesSpec)

/-- 'cruciblelaw1.MutfReads', WHERE WHAT IT READS IS OF BULK AT MOST 1048576: true; the input reads as it did. -/
def mutfReadsUptoRow : OpenClaim := { program := "ytkppjehpfjalbaadoor", sum := "729168e72846b94645cafb1750d2f63c3c731ca039808001e2881fbe7893809d", func := "crucible/cruciblelaw1.MutfReads", spec := "mutfReads", inPlace := ["internal/abi.NoEscape"], unfollowed := true, recurses := true, named := ["unicode/utf8.first", "unicode/utf8.acceptRanges"], apart := false, laid := [("unicode/utf8.acceptRanges", laid_unicode_utf8_acceptRanges), ("unicode/utf8.first", laid_unicode_utf8_first)], narrowed := true }
def MutfReadsUptoSaid : Prop := mutfReadsUptoRow.holds Tryd.pinned (OpenSpec.upto mutfReadsSpec)

/-- 'cruciblelaw1.MutfNames', WHERE WHAT IT READS IS OF BULK AT MOST 1048576: true; the input reads as it did. -/
def mutfNamesUptoRow : OpenClaim := { program := "ytkppjehpfjalbaadoor", sum := "729168e72846b94645cafb1750d2f63c3c731ca039808001e2881fbe7893809d", func := "crucible/cruciblelaw1.MutfNames", spec := "mutfNames", inPlace := ["internal/abi.NoEscape"], unfollowed := true, recurses := true, named := ["unicode/utf8.first", "unicode/utf8.acceptRanges"], apart := false, laid := [("unicode/utf8.acceptRanges", laid_unicode_utf8_acceptRanges), ("unicode/utf8.first", laid_unicode_utf8_first)], narrowed := true }
def MutfNamesUptoSaid : Prop := mutfNamesUptoRow.holds Tryd.pinned (OpenSpec.upto mutfNamesSpec)

/-- 'cruciblelaw1.MutfAgain', WHERE WHAT IT READS IS OF BULK AT MOST 1048576: true; the input reads as it did. -/
def mutfAgainUptoRow : OpenClaim := { program := "ytkppjehpfjalbaadoor", sum := "729168e72846b94645cafb1750d2f63c3c731ca039808001e2881fbe7893809d", func := "crucible/cruciblelaw1.MutfAgain", spec := "mutfAgain", inPlace := ["internal/abi.NoEscape"], unfollowed := true, recurses := true, named := ["unicode/utf8.first", "unicode/utf8.acceptRanges"], apart := false, laid := [("unicode/utf8.acceptRanges", laid_unicode_utf8_acceptRanges), ("unicode/utf8.first", laid_unicode_utf8_first)], narrowed := true }
def MutfAgainUptoSaid : Prop := mutfAgainUptoRow.holds Tryd.pinned (OpenSpec.upto mutfAgainSpec)

/-- 'cruciblelaw1.MutfJoins', WHERE WHAT IT READS IS OF BULK AT MOST 1048576: true; the input reads as it did. -/
def mutfJoinsUptoRow : OpenClaim := { program := "ytkppjehpfjalbaadoor", sum := "729168e72846b94645cafb1750d2f63c3c731ca039808001e2881fbe7893809d", func := "crucible/cruciblelaw1.MutfJoins", spec := "mutfJoins", inPlace := ["internal/abi.NoEscape"], unfollowed := true, recurses := true, named := ["unicode/utf8.first", "unicode/utf8.acceptRanges"], apart := false, laid := [("unicode/utf8.acceptRanges", laid_unicode_utf8_acceptRanges), ("unicode/utf8.first", laid_unicode_utf8_first)], narrowed := true }
def MutfJoinsUptoSaid : Prop := mutfJoinsUptoRow.holds Tryd.pinned (OpenSpec.upto mutfJoinsSpec)

/-- 'cruciblelaw1.MutfCuts', WHERE WHAT IT READS IS OF BULK AT MOST 1048576: true; the input reads as it did. -/
def mutfCutsUptoRow : OpenClaim := { program := "ytkppjehpfjalbaadoor", sum := "729168e72846b94645cafb1750d2f63c3c731ca039808001e2881fbe7893809d", func := "crucible/cruciblelaw1.MutfCuts", spec := "mutfCuts", inPlace := ["internal/abi.NoEscape"], unfollowed := true, recurses := true, named := ["unicode/utf8.first", "unicode/utf8.acceptRanges"], apart := false, laid := [("unicode/utf8.acceptRanges", laid_unicode_utf8_acceptRanges), ("unicode/utf8.first", laid_unicode_utf8_first)], narrowed := true }
def MutfCutsUptoSaid : Prop := mutfCutsUptoRow.holds Tryd.pinned (OpenSpec.upto mutfCutsSpec)

/-- 'cruciblelaw1.MutfRunes', WHERE WHAT IT READS IS OF BULK AT MOST 1048576: true; the input reads as it did. -/
def mutfRunesUptoRow : OpenClaim := { program := "ytkppjehpfjalbaadoor", sum := "729168e72846b94645cafb1750d2f63c3c731ca039808001e2881fbe7893809d", func := "crucible/cruciblelaw1.MutfRunes", spec := "mutfRunes", inPlace := ["internal/abi.NoEscape"], unfollowed := true, recurses := true, named := ["unicode/utf8.first", "unicode/utf8.acceptRanges"], apart := false, laid := [("unicode/utf8.acceptRanges", laid_unicode_utf8_acceptRanges), ("unicode/utf8.first", laid_unicode_utf8_first)], narrowed := true }
def MutfRunesUptoSaid : Prop := mutfRunesUptoRow.holds Tryd.pinned (OpenSpec.upto mutfRunesSpec)

/-- 'cruciblelaw1.MutfRuns', WHERE WHAT IT READS IS OF BULK AT MOST 1048576: true; the input reads as it did. -/
def mutfRunsUptoRow : OpenClaim := { program := "ytkppjehpfjalbaadoor", sum := "729168e72846b94645cafb1750d2f63c3c731ca039808001e2881fbe7893809d", func := "crucible/cruciblelaw1.MutfRuns", spec := "mutfRuns", inPlace := ["internal/abi.NoEscape"], unfollowed := true, recurses := true, named := ["unicode/utf8.first", "unicode/utf8.acceptRanges"], apart := false, laid := [("unicode/utf8.acceptRanges", laid_unicode_utf8_acceptRanges), ("unicode/utf8.first", laid_unicode_utf8_first)], narrowed := true }
def MutfRunsUptoSaid : Prop := mutfRunsUptoRow.holds Tryd.pinned (OpenSpec.upto mutfRunsSpec)

/-- 'cruciblelaw1.MutfMakes', WHERE WHAT IT READS IS OF BULK AT MOST 1048576: true; the input reads as it did. -/
def mutfMakesUptoRow : OpenClaim := { program := "ytkppjehpfjalbaadoor", sum := "729168e72846b94645cafb1750d2f63c3c731ca039808001e2881fbe7893809d", func := "crucible/cruciblelaw1.MutfMakes", spec := "mutfMakes", inPlace := ["internal/abi.NoEscape"], unfollowed := true, recurses := true, named := ["unicode/utf8.first", "unicode/utf8.acceptRanges"], apart := false, laid := [("unicode/utf8.acceptRanges", laid_unicode_utf8_acceptRanges), ("unicode/utf8.first", laid_unicode_utf8_first)], narrowed := true }
def MutfMakesUptoSaid : Prop := mutfMakesUptoRow.holds Tryd.pinned (OpenSpec.upto mutfMakesSpec)

/-- 'cruciblelaw1.MutfBack', WHERE WHAT IT READS IS OF BULK AT MOST 1048576: true; the input reads as it did. -/
def mutfBackUptoRow : OpenClaim := { program := "ytkppjehpfjalbaadoor", sum := "729168e72846b94645cafb1750d2f63c3c731ca039808001e2881fbe7893809d", func := "crucible/cruciblelaw1.MutfBack", spec := "mutfBack", inPlace := ["internal/abi.NoEscape"], unfollowed := true, recurses := true, named := ["unicode/utf8.first", "unicode/utf8.acceptRanges"], apart := false, laid := [("unicode/utf8.acceptRanges", laid_unicode_utf8_acceptRanges), ("unicode/utf8.first", laid_unicode_utf8_first)], narrowed := true }
def MutfBackUptoSaid : Prop := mutfBackUptoRow.holds Tryd.pinned (OpenSpec.upto mutfBackSpec)

end Rows
end Go.Proofs.YtkppjehpfjalbaaDoor
