/-
  NARROWER THAN 'FOR EVERY INPUT', by the rows' own cells (each row's printed sentence says how): FileReads: laid · HierSubs: laid · HierOrders: laid · HierMakes: laid · HierSees: laid · HierOrderless: laid · HierClosed: laid · LatticeOrders: laid · LatticeJoins: laid · LayoutFinds: laid · LatticeSwaps: laid · LatticeStates: laid · LatticeGrows: laid · LinkOrderless: laid · LinkTables: laid · LinkOwns: laid · LinkChecks: laid.
  DERIVED. THE GIVEN ROWS OF THIS SEAT. 17 by the template 'for every input the law returns true; each argument reads behind the call as it read before'; 0 by the template 'total and deterministic' (their statements: YtjjlcoimaihdoaaGreatDoorTotals.lean).
  GIVEN WITH THE SEED: the statements are not yours to turn. If you find one false, say at which input.
  Laid BY PROGRAM, IN A SANDBOX (cutbox-rows.mjs): the forced cells as the released guide's own fill.sh prints them over the translation d751832a361d8a39… (all of the seat's roots in one cut). By AI agents, Wed Nov 11 2026. No macro, syntax, notation, axiom, sorry.
-/
import Derived.Test.YtjjlcoimaihdoaaGreatDoorChecked
import GoSem.PinnedTables
import GoSem.Claim
import GoSem.ClaimJoined
import GoSem.ClaimMapViews
import Derived.JoinedTies
import Derived.KernelRfl
namespace Go.Proofs.YtjjlcoimaihdoaaGreatDoor
/- THE CELL 'sum', in the pinned program and in every row, IS THE sha256 OF THE DUMP (.gsa) THAT YtjjlcoimaihdoaaGreatDoorProg.lean LOADS. Nothing in Lean hashes anything: it is a label: what it is worth is what the hold of that sum in a sandbox is worth. -/
noncomputable def Tryz.pinned : Pinned := { name := "ytjjlcoimaihdoaagreatdoor", sum := "d751832a361d8a398f6c12b6c1dcc38b7a9065e61d22531c7f82e503a648c9c9", checked := Tryz.checked }
namespace Rows
def none {H : Type} : Left H := { results := [], args := [] }

/- WHAT THE LISTED PACKAGE-LEVEL VARIABLES READ AS WHEN THE CALL BEGINS. Each datum BY PROGRAM (the guide's laid-datum.mjs) off the statement by which the dump's own 'gosem.cut.vars' lays the variable. In a bare row this is a premise. The card (YtjjlcoimaihdoaaGreatDoorCards.lean) ties it to the program's text. -/
def laid_unicode_utf8_acceptRanges {H : Type} : DataW H := .agg [.agg [.lit (.int .u8 128), .lit (.int .u8 191)], .agg [.lit (.int .u8 160), .lit (.int .u8 191)], .agg [.lit (.int .u8 128), .lit (.int .u8 159)], .agg [.lit (.int .u8 144), .lit (.int .u8 191)], .agg [.lit (.int .u8 128), .lit (.int .u8 143)], .agg [.lit (.int .u8 0), .lit (.int .u8 0)], .agg [.lit (.int .u8 0), .lit (.int .u8 0)], .agg [.lit (.int .u8 0), .lit (.int .u8 0)], .agg [.lit (.int .u8 0), .lit (.int .u8 0)], .agg [.lit (.int .u8 0), .lit (.int .u8 0)], .agg [.lit (.int .u8 0), .lit (.int .u8 0)], .agg [.lit (.int .u8 0), .lit (.int .u8 0)], .agg [.lit (.int .u8 0), .lit (.int .u8 0)], .agg [.lit (.int .u8 0), .lit (.int .u8 0)], .agg [.lit (.int .u8 0), .lit (.int .u8 0)], .agg [.lit (.int .u8 0), .lit (.int .u8 0)]]
/-- One of Go's own tables, pinned by name: the form's constant. -/
def laid_unicode_utf8_first : DataW Unit := Go.Pinned.utf8First
def laid_crucible_lattice_top {H : Type} : DataW H := .agg [.lit (.int .i64 0), .agg [.lit (.int .i64 0), .lit (.string [])], .lit (.int .i64 0)]

/-- 'cruciblelaw3.FileReads': WHATEVER THE INPUT: true; the input reads as it did. -/
def fileReadsSpec : ChangeSpec := { name := "fileReads", fn := fun _ => fun
  | [d1, d2, d3, d4, d5] => { results := [.lit (.bool true)], args := [d1, d2, d3, d4, d5] }
  | _ => none }
def fileReadsRow : OpenClaim := { program := "ytjjlcoimaihdoaagreatdoor", sum := "d751832a361d8a398f6c12b6c1dcc38b7a9065e61d22531c7f82e503a648c9c9", func := "crucible/cruciblelaw3.FileReads", spec := "fileReads", inPlace := ["internal/bytealg.IndexByteString", "internal/bytealg.IndexString", "internal/abi.NoEscape"], unfollowed := true, recurses := true, named := ["unicode/utf8.first", "unicode/utf8.acceptRanges", "internal/bytealg.MaxLen"], plainKeys := false, apart := false, laid := [("unicode/utf8.acceptRanges", laid_unicode_utf8_acceptRanges), ("unicode/utf8.first", laid_unicode_utf8_first)] }
def FileReadsSaid : Prop := fileReadsRow.holds Tryz.pinned (OpenSpec.ofChange fileReadsSpec)

/-- ITS FALSE NEIGHBOUR: 'it returns false'. Refute it at one input. -/
def fileReadsWrong : ChangeSpec := { name := "fileReads", fn := fun _ => fun
  | [d1, d2, d3, d4, d5] => { results := [.lit (.bool false)], args := [d1, d2, d3, d4, d5] }
  | _ => none }
def FileReadsWrongFalsely : Prop := fileReadsRow.holds Tryz.pinned (OpenSpec.ofChange fileReadsWrong)

/-- 'cruciblelaw6.HierSubs': WHATEVER THE INPUT: true; the input reads as it did. -/
def hierSubsSpec : ChangeSpec := { name := "hierSubs", fn := fun _ => fun
  | [d1, d2, d3, d4] => { results := [.lit (.bool true)], args := [d1, d2, d3, d4] }
  | _ => none }
def hierSubsRow : OpenClaim := { program := "ytjjlcoimaihdoaagreatdoor", sum := "d751832a361d8a398f6c12b6c1dcc38b7a9065e61d22531c7f82e503a648c9c9", func := "crucible/cruciblelaw6.HierSubs", spec := "hierSubs", inPlace := ["internal/bytealg.IndexByteString", "internal/bytealg.IndexString", "internal/abi.NoEscape", "internal/bytealg.MakeNoZero"], unfollowed := true, recurses := true, named := ["unicode/utf8.first", "unicode/utf8.acceptRanges", "internal/bytealg.MaxLen"], plainKeys := false, apart := false, laid := [("unicode/utf8.acceptRanges", laid_unicode_utf8_acceptRanges), ("unicode/utf8.first", laid_unicode_utf8_first)] }
def HierSubsSaid : Prop := hierSubsRow.holds Tryz.pinned (OpenSpec.ofChange hierSubsSpec)

/-- ITS FALSE NEIGHBOUR: 'it returns false'. Refute it at one input. -/
def hierSubsWrong : ChangeSpec := { name := "hierSubs", fn := fun _ => fun
  | [d1, d2, d3, d4] => { results := [.lit (.bool false)], args := [d1, d2, d3, d4] }
  | _ => none }
def HierSubsWrongFalsely : Prop := hierSubsRow.holds Tryz.pinned (OpenSpec.ofChange hierSubsWrong)

/-- 'cruciblelaw6.HierOrders': WHATEVER THE INPUT: true; the input reads as it did. -/
def hierOrdersSpec : ChangeSpec := { name := "hierOrders", fn := fun _ => fun
  | [d1, d2] => { results := [.lit (.bool true)], args := [d1, d2] }
  | _ => none }
def hierOrdersRow : OpenClaim := { program := "ytjjlcoimaihdoaagreatdoor", sum := "d751832a361d8a398f6c12b6c1dcc38b7a9065e61d22531c7f82e503a648c9c9", func := "crucible/cruciblelaw6.HierOrders", spec := "hierOrders", inPlace := ["internal/bytealg.IndexByteString", "internal/bytealg.IndexString", "internal/abi.NoEscape", "internal/bytealg.MakeNoZero"], unfollowed := true, recurses := true, named := ["unicode/utf8.first", "unicode/utf8.acceptRanges", "internal/bytealg.MaxLen"], plainKeys := false, apart := false, laid := [("unicode/utf8.acceptRanges", laid_unicode_utf8_acceptRanges), ("unicode/utf8.first", laid_unicode_utf8_first)] }
def HierOrdersSaid : Prop := hierOrdersRow.holds Tryz.pinned (OpenSpec.ofChange hierOrdersSpec)

/-- ITS FALSE NEIGHBOUR: 'it returns false'. Refute it at one input. -/
def hierOrdersWrong : ChangeSpec := { name := "hierOrders", fn := fun _ => fun
  | [d1, d2] => { results := [.lit (.bool false)], args := [d1, d2] }
  | _ => none }
def HierOrdersWrongFalsely : Prop := hierOrdersRow.holds Tryz.pinned (OpenSpec.ofChange hierOrdersWrong)

/-- 'cruciblelaw6.HierMakes': WHATEVER THE INPUT: true; the input reads as it did. -/
def hierMakesSpec : ChangeSpec := { name := "hierMakes", fn := fun _ => fun
  | [d1, d2, d3] => { results := [.lit (.bool true)], args := [d1, d2, d3] }
  | _ => none }
def hierMakesRow : OpenClaim := { program := "ytjjlcoimaihdoaagreatdoor", sum := "d751832a361d8a398f6c12b6c1dcc38b7a9065e61d22531c7f82e503a648c9c9", func := "crucible/cruciblelaw6.HierMakes", spec := "hierMakes", inPlace := ["internal/bytealg.IndexByteString", "internal/bytealg.IndexString", "internal/abi.NoEscape", "internal/bytealg.MakeNoZero"], unfollowed := true, recurses := true, named := ["unicode/utf8.first", "unicode/utf8.acceptRanges", "internal/bytealg.MaxLen"], plainKeys := false, apart := false, laid := [("unicode/utf8.acceptRanges", laid_unicode_utf8_acceptRanges), ("unicode/utf8.first", laid_unicode_utf8_first)] }
def HierMakesSaid : Prop := hierMakesRow.holds Tryz.pinned (OpenSpec.ofChange hierMakesSpec)

/-- ITS FALSE NEIGHBOUR: 'it returns false'. Refute it at one input. -/
def hierMakesWrong : ChangeSpec := { name := "hierMakes", fn := fun _ => fun
  | [d1, d2, d3] => { results := [.lit (.bool false)], args := [d1, d2, d3] }
  | _ => none }
def HierMakesWrongFalsely : Prop := hierMakesRow.holds Tryz.pinned (OpenSpec.ofChange hierMakesWrong)

/-- 'cruciblelaw6.HierSees': WHATEVER THE INPUT: true; the input reads as it did. -/
def hierSeesSpec : ChangeSpec := { name := "hierSees", fn := fun _ => fun
  | [d1, d2, d3] => { results := [.lit (.bool true)], args := [d1, d2, d3] }
  | _ => none }
def hierSeesRow : OpenClaim := { program := "ytjjlcoimaihdoaagreatdoor", sum := "d751832a361d8a398f6c12b6c1dcc38b7a9065e61d22531c7f82e503a648c9c9", func := "crucible/cruciblelaw6.HierSees", spec := "hierSees", inPlace := ["internal/bytealg.IndexByteString", "internal/bytealg.IndexString", "internal/abi.NoEscape", "internal/bytealg.MakeNoZero"], unfollowed := true, recurses := true, named := ["unicode/utf8.first", "unicode/utf8.acceptRanges", "internal/bytealg.MaxLen"], plainKeys := false, apart := false, laid := [("unicode/utf8.acceptRanges", laid_unicode_utf8_acceptRanges), ("unicode/utf8.first", laid_unicode_utf8_first)] }
def HierSeesSaid : Prop := hierSeesRow.holds Tryz.pinned (OpenSpec.ofChange hierSeesSpec)

/-- ITS FALSE NEIGHBOUR: 'it returns false'. Refute it at one input. -/
def hierSeesWrong : ChangeSpec := { name := "hierSees", fn := fun _ => fun
  | [d1, d2, d3] => { results := [.lit (.bool false)], args := [d1, d2, d3] }
  | _ => none }
def HierSeesWrongFalsely : Prop := hierSeesRow.holds Tryz.pinned (OpenSpec.ofChange hierSeesWrong)

/-- 'cruciblelaw6.HierOrderless': WHATEVER THE INPUT: true; the input reads as it did. -/
def hierOrderlessSpec : ChangeSpec := { name := "hierOrderless", fn := fun _ => fun
  | [d1, d2, d3] => { results := [.lit (.bool true)], args := [d1, d2, d3] }
  | _ => none }
def hierOrderlessRow : OpenClaim := { program := "ytjjlcoimaihdoaagreatdoor", sum := "d751832a361d8a398f6c12b6c1dcc38b7a9065e61d22531c7f82e503a648c9c9", func := "crucible/cruciblelaw6.HierOrderless", spec := "hierOrderless", inPlace := ["internal/bytealg.IndexByteString", "internal/bytealg.IndexString", "internal/abi.NoEscape", "internal/bytealg.MakeNoZero"], unfollowed := true, recurses := true, named := ["unicode/utf8.first", "unicode/utf8.acceptRanges", "internal/bytealg.MaxLen"], plainKeys := false, apart := false, laid := [("unicode/utf8.acceptRanges", laid_unicode_utf8_acceptRanges), ("unicode/utf8.first", laid_unicode_utf8_first)] }
def HierOrderlessSaid : Prop := hierOrderlessRow.holds Tryz.pinned (OpenSpec.ofChange hierOrderlessSpec)

/-- ITS FALSE NEIGHBOUR: 'it returns false'. Refute it at one input. -/
def hierOrderlessWrong : ChangeSpec := { name := "hierOrderless", fn := fun _ => fun
  | [d1, d2, d3] => { results := [.lit (.bool false)], args := [d1, d2, d3] }
  | _ => none }
def HierOrderlessWrongFalsely : Prop := hierOrderlessRow.holds Tryz.pinned (OpenSpec.ofChange hierOrderlessWrong)

/-- 'cruciblelaw6.HierClosed': WHATEVER THE INPUT: true; the input reads as it did. -/
def hierClosedSpec : ChangeSpec := { name := "hierClosed", fn := fun _ => fun
  | [d1, d2] => { results := [.lit (.bool true)], args := [d1, d2] }
  | _ => none }
def hierClosedRow : OpenClaim := { program := "ytjjlcoimaihdoaagreatdoor", sum := "d751832a361d8a398f6c12b6c1dcc38b7a9065e61d22531c7f82e503a648c9c9", func := "crucible/cruciblelaw6.HierClosed", spec := "hierClosed", inPlace := ["internal/bytealg.IndexByteString", "internal/bytealg.IndexString", "internal/abi.NoEscape", "internal/bytealg.MakeNoZero"], unfollowed := true, recurses := true, named := ["unicode/utf8.first", "unicode/utf8.acceptRanges", "internal/bytealg.MaxLen"], plainKeys := false, apart := false, laid := [("unicode/utf8.acceptRanges", laid_unicode_utf8_acceptRanges), ("unicode/utf8.first", laid_unicode_utf8_first)] }
def HierClosedSaid : Prop := hierClosedRow.holds Tryz.pinned (OpenSpec.ofChange hierClosedSpec)

/-- ITS FALSE NEIGHBOUR: 'it returns false'. Refute it at one input. -/
def hierClosedWrong : ChangeSpec := { name := "hierClosed", fn := fun _ => fun
  | [d1, d2] => { results := [.lit (.bool false)], args := [d1, d2] }
  | _ => none }
def HierClosedWrongFalsely : Prop := hierClosedRow.holds Tryz.pinned (OpenSpec.ofChange hierClosedWrong)

/-- 'cruciblelaw7.LatticeOrders': WHATEVER THE INPUT: true; the input reads as it did. -/
def latticeOrdersSpec : ChangeSpec := { name := "latticeOrders", fn := fun _ => fun
  | [d] => { results := [.lit (.bool true)], args := [d] }
  | _ => none }
def latticeOrdersRow : OpenClaim := { program := "ytjjlcoimaihdoaagreatdoor", sum := "d751832a361d8a398f6c12b6c1dcc38b7a9065e61d22531c7f82e503a648c9c9", func := "crucible/cruciblelaw7.LatticeOrders", spec := "latticeOrders", inPlace := ["internal/bytealg.IndexByteString", "internal/bytealg.IndexString", "internal/abi.NoEscape", "internal/bytealg.MakeNoZero"], unfollowed := true, recurses := true, named := ["unicode/utf8.first", "unicode/utf8.acceptRanges", "internal/bytealg.MaxLen", "crucible/lattice.top"], plainKeys := false, apart := false, laid := [("unicode/utf8.acceptRanges", laid_unicode_utf8_acceptRanges), ("crucible/lattice.top", laid_crucible_lattice_top), ("unicode/utf8.first", laid_unicode_utf8_first)] }
def LatticeOrdersSaid : Prop := latticeOrdersRow.holds Tryz.pinned (OpenSpec.ofChange latticeOrdersSpec)

/-- ITS FALSE NEIGHBOUR: 'it returns false'. Refute it at one input. -/
def latticeOrdersWrong : ChangeSpec := { name := "latticeOrders", fn := fun _ => fun
  | [d] => { results := [.lit (.bool false)], args := [d] }
  | _ => none }
def LatticeOrdersWrongFalsely : Prop := latticeOrdersRow.holds Tryz.pinned (OpenSpec.ofChange latticeOrdersWrong)

/-- 'cruciblelaw7.LatticeJoins': WHATEVER THE INPUT: true; the input reads as it did. -/
def latticeJoinsSpec : ChangeSpec := { name := "latticeJoins", fn := fun _ => fun
  | [d1, d2] => { results := [.lit (.bool true)], args := [d1, d2] }
  | _ => none }
def latticeJoinsRow : OpenClaim := { program := "ytjjlcoimaihdoaagreatdoor", sum := "d751832a361d8a398f6c12b6c1dcc38b7a9065e61d22531c7f82e503a648c9c9", func := "crucible/cruciblelaw7.LatticeJoins", spec := "latticeJoins", inPlace := ["internal/bytealg.IndexByteString", "internal/bytealg.IndexString", "internal/abi.NoEscape", "internal/bytealg.MakeNoZero"], unfollowed := true, recurses := true, named := ["unicode/utf8.first", "unicode/utf8.acceptRanges", "internal/bytealg.MaxLen", "crucible/lattice.top"], plainKeys := false, apart := false, laid := [("unicode/utf8.acceptRanges", laid_unicode_utf8_acceptRanges), ("crucible/lattice.top", laid_crucible_lattice_top), ("unicode/utf8.first", laid_unicode_utf8_first)] }
def LatticeJoinsSaid : Prop := latticeJoinsRow.holds Tryz.pinned (OpenSpec.ofChange latticeJoinsSpec)

/-- ITS FALSE NEIGHBOUR: 'it returns false'. Refute it at one input. -/
def latticeJoinsWrong : ChangeSpec := { name := "latticeJoins", fn := fun _ => fun
  | [d1, d2] => { results := [.lit (.bool false)], args := [d1, d2] }
  | _ => none }
def LatticeJoinsWrongFalsely : Prop := latticeJoinsRow.holds Tryz.pinned (OpenSpec.ofChange latticeJoinsWrong)

/-- 'cruciblelaw13.LayoutFinds': WHATEVER THE INPUT: true; the input reads as it did. -/
def layoutFindsSpec : ChangeSpec := { name := "layoutFinds", fn := fun _ => fun
  | [d1, d2, d3, d4] => { results := [.lit (.bool true)], args := [d1, d2, d3, d4] }
  | _ => none }
def layoutFindsRow : OpenClaim := { program := "ytjjlcoimaihdoaagreatdoor", sum := "d751832a361d8a398f6c12b6c1dcc38b7a9065e61d22531c7f82e503a648c9c9", func := "crucible/cruciblelaw13.LayoutFinds", spec := "layoutFinds", inPlace := ["internal/bytealg.IndexByteString", "internal/bytealg.IndexString", "internal/abi.NoEscape", "internal/bytealg.MakeNoZero"], unfollowed := true, recurses := true, named := ["unicode/utf8.first", "unicode/utf8.acceptRanges", "internal/bytealg.MaxLen"], plainKeys := false, apart := false, laid := [("unicode/utf8.acceptRanges", laid_unicode_utf8_acceptRanges), ("unicode/utf8.first", laid_unicode_utf8_first)] }
def LayoutFindsSaid : Prop := layoutFindsRow.holds Tryz.pinned (OpenSpec.ofChange layoutFindsSpec)

/-- ITS FALSE NEIGHBOUR: 'it returns false'. Refute it at one input. -/
def layoutFindsWrong : ChangeSpec := { name := "layoutFinds", fn := fun _ => fun
  | [d1, d2, d3, d4] => { results := [.lit (.bool false)], args := [d1, d2, d3, d4] }
  | _ => none }
def LayoutFindsWrongFalsely : Prop := layoutFindsRow.holds Tryz.pinned (OpenSpec.ofChange layoutFindsWrong)

/-- 'cruciblelaw7.LatticeSwaps': WHATEVER THE INPUT: true; the input reads as it did. -/
def latticeSwapsSpec : ChangeSpec := { name := "latticeSwaps", fn := fun _ => fun
  | [d1, d2, d3, d4, d5] => { results := [.lit (.bool true)], args := [d1, d2, d3, d4, d5] }
  | _ => none }
def latticeSwapsRow : OpenClaim := { program := "ytjjlcoimaihdoaagreatdoor", sum := "d751832a361d8a398f6c12b6c1dcc38b7a9065e61d22531c7f82e503a648c9c9", func := "crucible/cruciblelaw7.LatticeSwaps", spec := "latticeSwaps", inPlace := ["internal/bytealg.IndexByteString", "internal/bytealg.IndexString", "internal/abi.NoEscape", "internal/bytealg.MakeNoZero"], unfollowed := true, recurses := true, named := ["unicode/utf8.first", "unicode/utf8.acceptRanges", "internal/bytealg.MaxLen", "crucible/lattice.top"], plainKeys := false, apart := false, laid := [("unicode/utf8.acceptRanges", laid_unicode_utf8_acceptRanges), ("crucible/lattice.top", laid_crucible_lattice_top), ("unicode/utf8.first", laid_unicode_utf8_first)] }
def LatticeSwapsSaid : Prop := latticeSwapsRow.holds Tryz.pinned (OpenSpec.ofChange latticeSwapsSpec)

/-- ITS FALSE NEIGHBOUR: 'it returns false'. Refute it at one input. -/
def latticeSwapsWrong : ChangeSpec := { name := "latticeSwaps", fn := fun _ => fun
  | [d1, d2, d3, d4, d5] => { results := [.lit (.bool false)], args := [d1, d2, d3, d4, d5] }
  | _ => none }
def LatticeSwapsWrongFalsely : Prop := latticeSwapsRow.holds Tryz.pinned (OpenSpec.ofChange latticeSwapsWrong)

/-- 'cruciblelaw7.LatticeStates': WHATEVER THE INPUT: true; the input reads as it did. -/
def latticeStatesSpec : ChangeSpec := { name := "latticeStates", fn := fun _ => fun
  | [d1, d2] => { results := [.lit (.bool true)], args := [d1, d2] }
  | _ => none }
def latticeStatesRow : OpenClaim := { program := "ytjjlcoimaihdoaagreatdoor", sum := "d751832a361d8a398f6c12b6c1dcc38b7a9065e61d22531c7f82e503a648c9c9", func := "crucible/cruciblelaw7.LatticeStates", spec := "latticeStates", inPlace := ["internal/bytealg.IndexByteString", "internal/bytealg.IndexString", "internal/abi.NoEscape", "internal/bytealg.MakeNoZero"], unfollowed := true, recurses := true, named := ["unicode/utf8.first", "unicode/utf8.acceptRanges", "internal/bytealg.MaxLen", "crucible/lattice.top"], plainKeys := false, apart := false, laid := [("unicode/utf8.acceptRanges", laid_unicode_utf8_acceptRanges), ("crucible/lattice.top", laid_crucible_lattice_top), ("unicode/utf8.first", laid_unicode_utf8_first)] }
def LatticeStatesSaid : Prop := latticeStatesRow.holds Tryz.pinned (OpenSpec.ofChange latticeStatesSpec)

/-- ITS FALSE NEIGHBOUR: 'it returns false'. Refute it at one input. -/
def latticeStatesWrong : ChangeSpec := { name := "latticeStates", fn := fun _ => fun
  | [d1, d2] => { results := [.lit (.bool false)], args := [d1, d2] }
  | _ => none }
def LatticeStatesWrongFalsely : Prop := latticeStatesRow.holds Tryz.pinned (OpenSpec.ofChange latticeStatesWrong)

/-- 'cruciblelaw7.LatticeGrows': WHATEVER THE INPUT: true; the input reads as it did. -/
def latticeGrowsSpec : ChangeSpec := { name := "latticeGrows", fn := fun _ => fun
  | [d1, d2, d3] => { results := [.lit (.bool true)], args := [d1, d2, d3] }
  | _ => none }
def latticeGrowsRow : OpenClaim := { program := "ytjjlcoimaihdoaagreatdoor", sum := "d751832a361d8a398f6c12b6c1dcc38b7a9065e61d22531c7f82e503a648c9c9", func := "crucible/cruciblelaw7.LatticeGrows", spec := "latticeGrows", inPlace := ["internal/bytealg.IndexByteString", "internal/bytealg.IndexString", "internal/abi.NoEscape", "internal/bytealg.MakeNoZero"], unfollowed := true, recurses := true, named := ["unicode/utf8.first", "unicode/utf8.acceptRanges", "internal/bytealg.MaxLen", "crucible/lattice.top"], plainKeys := false, apart := false, laid := [("unicode/utf8.acceptRanges", laid_unicode_utf8_acceptRanges), ("crucible/lattice.top", laid_crucible_lattice_top), ("unicode/utf8.first", laid_unicode_utf8_first)] }
def LatticeGrowsSaid : Prop := latticeGrowsRow.holds Tryz.pinned (OpenSpec.ofChange latticeGrowsSpec)

/-- ITS FALSE NEIGHBOUR: 'it returns false'. Refute it at one input. -/
def latticeGrowsWrong : ChangeSpec := { name := "latticeGrows", fn := fun _ => fun
  | [d1, d2, d3] => { results := [.lit (.bool false)], args := [d1, d2, d3] }
  | _ => none }
def LatticeGrowsWrongFalsely : Prop := latticeGrowsRow.holds Tryz.pinned (OpenSpec.ofChange latticeGrowsWrong)

/-- 'cruciblelaw14.LinkOrderless': WHATEVER THE INPUT: true; the input reads as it did. -/
def linkOrderlessSpec : ChangeSpec := { name := "linkOrderless", fn := fun _ => fun
  | [d1, d2, d3] => { results := [.lit (.bool true)], args := [d1, d2, d3] }
  | _ => none }
def linkOrderlessRow : OpenClaim := { program := "ytjjlcoimaihdoaagreatdoor", sum := "d751832a361d8a398f6c12b6c1dcc38b7a9065e61d22531c7f82e503a648c9c9", func := "crucible/cruciblelaw14.LinkOrderless", spec := "linkOrderless", inPlace := ["internal/bytealg.IndexByteString", "internal/bytealg.IndexString", "internal/abi.NoEscape", "internal/bytealg.MakeNoZero"], unfollowed := true, recurses := true, named := ["unicode/utf8.first", "unicode/utf8.acceptRanges", "internal/bytealg.MaxLen"], plainKeys := false, apart := false, laid := [("unicode/utf8.acceptRanges", laid_unicode_utf8_acceptRanges), ("unicode/utf8.first", laid_unicode_utf8_first)] }
def LinkOrderlessSaid : Prop := linkOrderlessRow.holds Tryz.pinned (OpenSpec.ofChange linkOrderlessSpec)

/-- ITS FALSE NEIGHBOUR: 'it returns false'. Refute it at one input. -/
def linkOrderlessWrong : ChangeSpec := { name := "linkOrderless", fn := fun _ => fun
  | [d1, d2, d3] => { results := [.lit (.bool false)], args := [d1, d2, d3] }
  | _ => none }
def LinkOrderlessWrongFalsely : Prop := linkOrderlessRow.holds Tryz.pinned (OpenSpec.ofChange linkOrderlessWrong)

/-- 'cruciblelaw14.LinkTables': WHATEVER THE INPUT: true; the input reads as it did. -/
def linkTablesSpec : ChangeSpec := { name := "linkTables", fn := fun _ => fun
  | [d] => { results := [.lit (.bool true)], args := [d] }
  | _ => none }
def linkTablesRow : OpenClaim := { program := "ytjjlcoimaihdoaagreatdoor", sum := "d751832a361d8a398f6c12b6c1dcc38b7a9065e61d22531c7f82e503a648c9c9", func := "crucible/cruciblelaw14.LinkTables", spec := "linkTables", inPlace := ["internal/bytealg.IndexByteString", "internal/bytealg.IndexString", "internal/abi.NoEscape", "internal/bytealg.MakeNoZero"], unfollowed := true, recurses := true, named := ["unicode/utf8.first", "unicode/utf8.acceptRanges", "internal/bytealg.MaxLen"], plainKeys := false, apart := false, laid := [("unicode/utf8.acceptRanges", laid_unicode_utf8_acceptRanges), ("unicode/utf8.first", laid_unicode_utf8_first)] }
def LinkTablesSaid : Prop := linkTablesRow.holds Tryz.pinned (OpenSpec.ofChange linkTablesSpec)

/-- ITS FALSE NEIGHBOUR: 'it returns false'. Refute it at one input. -/
def linkTablesWrong : ChangeSpec := { name := "linkTables", fn := fun _ => fun
  | [d] => { results := [.lit (.bool false)], args := [d] }
  | _ => none }
def LinkTablesWrongFalsely : Prop := linkTablesRow.holds Tryz.pinned (OpenSpec.ofChange linkTablesWrong)

/-- 'cruciblelaw14.LinkOwns': WHATEVER THE INPUT: true; the input reads as it did. -/
def linkOwnsSpec : ChangeSpec := { name := "linkOwns", fn := fun _ => fun
  | [d] => { results := [.lit (.bool true)], args := [d] }
  | _ => none }
def linkOwnsRow : OpenClaim := { program := "ytjjlcoimaihdoaagreatdoor", sum := "d751832a361d8a398f6c12b6c1dcc38b7a9065e61d22531c7f82e503a648c9c9", func := "crucible/cruciblelaw14.LinkOwns", spec := "linkOwns", inPlace := ["internal/bytealg.IndexByteString", "internal/bytealg.IndexString", "internal/abi.NoEscape", "internal/bytealg.MakeNoZero"], unfollowed := true, recurses := true, named := ["unicode/utf8.first", "unicode/utf8.acceptRanges", "internal/bytealg.MaxLen"], plainKeys := false, apart := false, laid := [("unicode/utf8.acceptRanges", laid_unicode_utf8_acceptRanges), ("unicode/utf8.first", laid_unicode_utf8_first)] }
def LinkOwnsSaid : Prop := linkOwnsRow.holds Tryz.pinned (OpenSpec.ofChange linkOwnsSpec)

/-- ITS FALSE NEIGHBOUR: 'it returns false'. Refute it at one input. -/
def linkOwnsWrong : ChangeSpec := { name := "linkOwns", fn := fun _ => fun
  | [d] => { results := [.lit (.bool false)], args := [d] }
  | _ => none }
def LinkOwnsWrongFalsely : Prop := linkOwnsRow.holds Tryz.pinned (OpenSpec.ofChange linkOwnsWrong)

/-- 'cruciblelaw14.LinkChecks': WHATEVER THE INPUT: true; the input reads as it did. -/
def linkChecksSpec : ChangeSpec := { name := "linkChecks", fn := fun _ => fun
  | [d1, d2, d3] => { results := [.lit (.bool true)], args := [d1, d2, d3] }
  | _ => none }
def linkChecksRow : OpenClaim := { program := "ytjjlcoimaihdoaagreatdoor", sum := "d751832a361d8a398f6c12b6c1dcc38b7a9065e61d22531c7f82e503a648c9c9", func := "crucible/cruciblelaw14.LinkChecks", spec := "linkChecks", inPlace := ["internal/bytealg.IndexByteString", "internal/bytealg.IndexString", "internal/abi.NoEscape", "internal/bytealg.MakeNoZero"], unfollowed := true, recurses := true, named := ["unicode/utf8.first", "unicode/utf8.acceptRanges", "internal/bytealg.MaxLen"], plainKeys := false, apart := false, laid := [("unicode/utf8.acceptRanges", laid_unicode_utf8_acceptRanges), ("unicode/utf8.first", laid_unicode_utf8_first)] }
def LinkChecksSaid : Prop := linkChecksRow.holds Tryz.pinned (OpenSpec.ofChange linkChecksSpec)

/-- ITS FALSE NEIGHBOUR: 'it returns false'. Refute it at one input. -/
def linkChecksWrong : ChangeSpec := { name := "linkChecks", fn := fun _ => fun
  | [d1, d2, d3] => { results := [.lit (.bool false)], args := [d1, d2, d3] }
  | _ => none }
def LinkChecksWrongFalsely : Prop := linkChecksRow.holds Tryz.pinned (OpenSpec.ofChange linkChecksWrong)

/- THE SECOND FORM. 'bulk': how many values and letters a reading holds, each counted each time it is reached (what is shared counts as often as it is met; a slice's spare places count too). A statement '..UptoSaid' is the law's where the arguments, and the package variables that the reading takes, are together of bulk at most 1048576: NARROWER than '..Said'. Prove '..Said' where nothing that the law and all that it calls make is longer than what came in: it says more and counts as full. Else prove '..UptoSaid'. A law counts once. -/
mutual
def uptoBulk {H : Type} : DataW H → Nat
  | .lit (.string bytes) => bytes.length + 1
  | .lit _ => 1
  | .nil => 1
  | .ptr d => uptoBulk d + 1
  | .slice elems spare => uptoBulkAll elems + uptoBulkAll spare + 1
  | .agg parts => uptoBulkAll parts + 1
  | .iface _ d => uptoBulk d + 1
  | .map entries => uptoBulkEntries entries + 1
  | .held _ => 1
def uptoBulkAll {H : Type} : List (DataW H) → Nat
  | [] => 0
  | d :: r => uptoBulk d + uptoBulkAll r
def uptoBulkEntries {H : Type} : List (Lit × DataW H) → Nat
  | [] => 0
  | x :: r => uptoBulkEntry x + uptoBulkEntries r
def uptoBulkEntry {H : Type} : Lit × DataW H → Nat
  | (.string bytes, d) => bytes.length + uptoBulk d + 1
  | (_, d) => uptoBulk d + 1
 end
def uptoSmall : (H : Type) → List (DataW H) → Bool := fun _ ds => decide (uptoBulkAll ds ≤ 1048576)
def OpenSpec.upto (s : _root_.Go.ChangeSpec) : _root_.Go.OpenSpec := { _root_.Go.OpenSpec.ofChange s with cond := some uptoSmall }

/-- 'cruciblelaw3.FileReads', WHERE WHAT IT READS IS OF BULK AT MOST 1048576: true; the input reads as it did. -/
def fileReadsUptoRow : OpenClaim := { program := "ytjjlcoimaihdoaagreatdoor", sum := "d751832a361d8a398f6c12b6c1dcc38b7a9065e61d22531c7f82e503a648c9c9", func := "crucible/cruciblelaw3.FileReads", spec := "fileReads", inPlace := ["internal/bytealg.IndexByteString", "internal/bytealg.IndexString", "internal/abi.NoEscape"], unfollowed := true, recurses := true, named := ["unicode/utf8.first", "unicode/utf8.acceptRanges", "internal/bytealg.MaxLen"], plainKeys := false, apart := false, laid := [("unicode/utf8.acceptRanges", laid_unicode_utf8_acceptRanges), ("unicode/utf8.first", laid_unicode_utf8_first)], narrowed := true }
def FileReadsUptoSaid : Prop := fileReadsUptoRow.holds Tryz.pinned (OpenSpec.upto fileReadsSpec)

/-- 'cruciblelaw6.HierSubs', WHERE WHAT IT READS IS OF BULK AT MOST 1048576: true; the input reads as it did. -/
def hierSubsUptoRow : OpenClaim := { program := "ytjjlcoimaihdoaagreatdoor", sum := "d751832a361d8a398f6c12b6c1dcc38b7a9065e61d22531c7f82e503a648c9c9", func := "crucible/cruciblelaw6.HierSubs", spec := "hierSubs", inPlace := ["internal/bytealg.IndexByteString", "internal/bytealg.IndexString", "internal/abi.NoEscape", "internal/bytealg.MakeNoZero"], unfollowed := true, recurses := true, named := ["unicode/utf8.first", "unicode/utf8.acceptRanges", "internal/bytealg.MaxLen"], plainKeys := false, apart := false, laid := [("unicode/utf8.acceptRanges", laid_unicode_utf8_acceptRanges), ("unicode/utf8.first", laid_unicode_utf8_first)], narrowed := true }
def HierSubsUptoSaid : Prop := hierSubsUptoRow.holds Tryz.pinned (OpenSpec.upto hierSubsSpec)

/-- 'cruciblelaw6.HierOrders', WHERE WHAT IT READS IS OF BULK AT MOST 1048576: true; the input reads as it did. -/
def hierOrdersUptoRow : OpenClaim := { program := "ytjjlcoimaihdoaagreatdoor", sum := "d751832a361d8a398f6c12b6c1dcc38b7a9065e61d22531c7f82e503a648c9c9", func := "crucible/cruciblelaw6.HierOrders", spec := "hierOrders", inPlace := ["internal/bytealg.IndexByteString", "internal/bytealg.IndexString", "internal/abi.NoEscape", "internal/bytealg.MakeNoZero"], unfollowed := true, recurses := true, named := ["unicode/utf8.first", "unicode/utf8.acceptRanges", "internal/bytealg.MaxLen"], plainKeys := false, apart := false, laid := [("unicode/utf8.acceptRanges", laid_unicode_utf8_acceptRanges), ("unicode/utf8.first", laid_unicode_utf8_first)], narrowed := true }
def HierOrdersUptoSaid : Prop := hierOrdersUptoRow.holds Tryz.pinned (OpenSpec.upto hierOrdersSpec)

/-- 'cruciblelaw6.HierMakes', WHERE WHAT IT READS IS OF BULK AT MOST 1048576: true; the input reads as it did. -/
def hierMakesUptoRow : OpenClaim := { program := "ytjjlcoimaihdoaagreatdoor", sum := "d751832a361d8a398f6c12b6c1dcc38b7a9065e61d22531c7f82e503a648c9c9", func := "crucible/cruciblelaw6.HierMakes", spec := "hierMakes", inPlace := ["internal/bytealg.IndexByteString", "internal/bytealg.IndexString", "internal/abi.NoEscape", "internal/bytealg.MakeNoZero"], unfollowed := true, recurses := true, named := ["unicode/utf8.first", "unicode/utf8.acceptRanges", "internal/bytealg.MaxLen"], plainKeys := false, apart := false, laid := [("unicode/utf8.acceptRanges", laid_unicode_utf8_acceptRanges), ("unicode/utf8.first", laid_unicode_utf8_first)], narrowed := true }
def HierMakesUptoSaid : Prop := hierMakesUptoRow.holds Tryz.pinned (OpenSpec.upto hierMakesSpec)

/-- 'cruciblelaw6.HierSees', WHERE WHAT IT READS IS OF BULK AT MOST 1048576: true; the input reads as it did. -/
def hierSeesUptoRow : OpenClaim := { program := "ytjjlcoimaihdoaagreatdoor", sum := "d751832a361d8a398f6c12b6c1dcc38b7a9065e61d22531c7f82e503a648c9c9", func := "crucible/cruciblelaw6.HierSees", spec := "hierSees", inPlace := ["internal/bytealg.IndexByteString", "internal/bytealg.IndexString", "internal/abi.NoEscape", "internal/bytealg.MakeNoZero"], unfollowed := true, recurses := true, named := ["unicode/utf8.first", "unicode/utf8.acceptRanges", "internal/bytealg.MaxLen"], plainKeys := false, apart := false, laid := [("unicode/utf8.acceptRanges", laid_unicode_utf8_acceptRanges), ("unicode/utf8.first", laid_unicode_utf8_first)], narrowed := true }
def HierSeesUptoSaid : Prop := hierSeesUptoRow.holds Tryz.pinned (OpenSpec.upto hierSeesSpec)

/-- 'cruciblelaw6.HierOrderless', WHERE WHAT IT READS IS OF BULK AT MOST 1048576: true; the input reads as it did. -/
def hierOrderlessUptoRow : OpenClaim := { program := "ytjjlcoimaihdoaagreatdoor", sum := "d751832a361d8a398f6c12b6c1dcc38b7a9065e61d22531c7f82e503a648c9c9", func := "crucible/cruciblelaw6.HierOrderless", spec := "hierOrderless", inPlace := ["internal/bytealg.IndexByteString", "internal/bytealg.IndexString", "internal/abi.NoEscape", "internal/bytealg.MakeNoZero"], unfollowed := true, recurses := true, named := ["unicode/utf8.first", "unicode/utf8.acceptRanges", "internal/bytealg.MaxLen"], plainKeys := false, apart := false, laid := [("unicode/utf8.acceptRanges", laid_unicode_utf8_acceptRanges), ("unicode/utf8.first", laid_unicode_utf8_first)], narrowed := true }
def HierOrderlessUptoSaid : Prop := hierOrderlessUptoRow.holds Tryz.pinned (OpenSpec.upto hierOrderlessSpec)

/-- 'cruciblelaw6.HierClosed', WHERE WHAT IT READS IS OF BULK AT MOST 1048576: true; the input reads as it did. -/
def hierClosedUptoRow : OpenClaim := { program := "ytjjlcoimaihdoaagreatdoor", sum := "d751832a361d8a398f6c12b6c1dcc38b7a9065e61d22531c7f82e503a648c9c9", func := "crucible/cruciblelaw6.HierClosed", spec := "hierClosed", inPlace := ["internal/bytealg.IndexByteString", "internal/bytealg.IndexString", "internal/abi.NoEscape", "internal/bytealg.MakeNoZero"], unfollowed := true, recurses := true, named := ["unicode/utf8.first", "unicode/utf8.acceptRanges", "internal/bytealg.MaxLen"], plainKeys := false, apart := false, laid := [("unicode/utf8.acceptRanges", laid_unicode_utf8_acceptRanges), ("unicode/utf8.first", laid_unicode_utf8_first)], narrowed := true }
def HierClosedUptoSaid : Prop := hierClosedUptoRow.holds Tryz.pinned (OpenSpec.upto hierClosedSpec)

/-- 'cruciblelaw7.LatticeOrders', WHERE WHAT IT READS IS OF BULK AT MOST 1048576: true; the input reads as it did. -/
def latticeOrdersUptoRow : OpenClaim := { program := "ytjjlcoimaihdoaagreatdoor", sum := "d751832a361d8a398f6c12b6c1dcc38b7a9065e61d22531c7f82e503a648c9c9", func := "crucible/cruciblelaw7.LatticeOrders", spec := "latticeOrders", inPlace := ["internal/bytealg.IndexByteString", "internal/bytealg.IndexString", "internal/abi.NoEscape", "internal/bytealg.MakeNoZero"], unfollowed := true, recurses := true, named := ["unicode/utf8.first", "unicode/utf8.acceptRanges", "internal/bytealg.MaxLen", "crucible/lattice.top"], plainKeys := false, apart := false, laid := [("unicode/utf8.acceptRanges", laid_unicode_utf8_acceptRanges), ("crucible/lattice.top", laid_crucible_lattice_top), ("unicode/utf8.first", laid_unicode_utf8_first)], narrowed := true }
def LatticeOrdersUptoSaid : Prop := latticeOrdersUptoRow.holds Tryz.pinned (OpenSpec.upto latticeOrdersSpec)

/-- 'cruciblelaw7.LatticeJoins', WHERE WHAT IT READS IS OF BULK AT MOST 1048576: true; the input reads as it did. -/
def latticeJoinsUptoRow : OpenClaim := { program := "ytjjlcoimaihdoaagreatdoor", sum := "d751832a361d8a398f6c12b6c1dcc38b7a9065e61d22531c7f82e503a648c9c9", func := "crucible/cruciblelaw7.LatticeJoins", spec := "latticeJoins", inPlace := ["internal/bytealg.IndexByteString", "internal/bytealg.IndexString", "internal/abi.NoEscape", "internal/bytealg.MakeNoZero"], unfollowed := true, recurses := true, named := ["unicode/utf8.first", "unicode/utf8.acceptRanges", "internal/bytealg.MaxLen", "crucible/lattice.top"], plainKeys := false, apart := false, laid := [("unicode/utf8.acceptRanges", laid_unicode_utf8_acceptRanges), ("crucible/lattice.top", laid_crucible_lattice_top), ("unicode/utf8.first", laid_unicode_utf8_first)], narrowed := true }
def LatticeJoinsUptoSaid : Prop := latticeJoinsUptoRow.holds Tryz.pinned (OpenSpec.upto latticeJoinsSpec)

/-- 'cruciblelaw13.LayoutFinds', WHERE WHAT IT READS IS OF BULK AT MOST 1048576: true; the input reads as it did. -/
def layoutFindsUptoRow : OpenClaim := { program := "ytjjlcoimaihdoaagreatdoor", sum := "d751832a361d8a398f6c12b6c1dcc38b7a9065e61d22531c7f82e503a648c9c9", func := "crucible/cruciblelaw13.LayoutFinds", spec := "layoutFinds", inPlace := ["internal/bytealg.IndexByteString", "internal/bytealg.IndexString", "internal/abi.NoEscape", "internal/bytealg.MakeNoZero"], unfollowed := true, recurses := true, named := ["unicode/utf8.first", "unicode/utf8.acceptRanges", "internal/bytealg.MaxLen"], plainKeys := false, apart := false, laid := [("unicode/utf8.acceptRanges", laid_unicode_utf8_acceptRanges), ("unicode/utf8.first", laid_unicode_utf8_first)], narrowed := true }
def LayoutFindsUptoSaid : Prop := layoutFindsUptoRow.holds Tryz.pinned (OpenSpec.upto layoutFindsSpec)

/-- 'cruciblelaw7.LatticeSwaps', WHERE WHAT IT READS IS OF BULK AT MOST 1048576: true; the input reads as it did. -/
def latticeSwapsUptoRow : OpenClaim := { program := "ytjjlcoimaihdoaagreatdoor", sum := "d751832a361d8a398f6c12b6c1dcc38b7a9065e61d22531c7f82e503a648c9c9", func := "crucible/cruciblelaw7.LatticeSwaps", spec := "latticeSwaps", inPlace := ["internal/bytealg.IndexByteString", "internal/bytealg.IndexString", "internal/abi.NoEscape", "internal/bytealg.MakeNoZero"], unfollowed := true, recurses := true, named := ["unicode/utf8.first", "unicode/utf8.acceptRanges", "internal/bytealg.MaxLen", "crucible/lattice.top"], plainKeys := false, apart := false, laid := [("unicode/utf8.acceptRanges", laid_unicode_utf8_acceptRanges), ("crucible/lattice.top", laid_crucible_lattice_top), ("unicode/utf8.first", laid_unicode_utf8_first)], narrowed := true }
def LatticeSwapsUptoSaid : Prop := latticeSwapsUptoRow.holds Tryz.pinned (OpenSpec.upto latticeSwapsSpec)

/-- 'cruciblelaw7.LatticeStates', WHERE WHAT IT READS IS OF BULK AT MOST 1048576: true; the input reads as it did. -/
def latticeStatesUptoRow : OpenClaim := { program := "ytjjlcoimaihdoaagreatdoor", sum := "d751832a361d8a398f6c12b6c1dcc38b7a9065e61d22531c7f82e503a648c9c9", func := "crucible/cruciblelaw7.LatticeStates", spec := "latticeStates", inPlace := ["internal/bytealg.IndexByteString", "internal/bytealg.IndexString", "internal/abi.NoEscape", "internal/bytealg.MakeNoZero"], unfollowed := true, recurses := true, named := ["unicode/utf8.first", "unicode/utf8.acceptRanges", "internal/bytealg.MaxLen", "crucible/lattice.top"], plainKeys := false, apart := false, laid := [("unicode/utf8.acceptRanges", laid_unicode_utf8_acceptRanges), ("crucible/lattice.top", laid_crucible_lattice_top), ("unicode/utf8.first", laid_unicode_utf8_first)], narrowed := true }
def LatticeStatesUptoSaid : Prop := latticeStatesUptoRow.holds Tryz.pinned (OpenSpec.upto latticeStatesSpec)

/-- 'cruciblelaw7.LatticeGrows', WHERE WHAT IT READS IS OF BULK AT MOST 1048576: true; the input reads as it did. -/
def latticeGrowsUptoRow : OpenClaim := { program := "ytjjlcoimaihdoaagreatdoor", sum := "d751832a361d8a398f6c12b6c1dcc38b7a9065e61d22531c7f82e503a648c9c9", func := "crucible/cruciblelaw7.LatticeGrows", spec := "latticeGrows", inPlace := ["internal/bytealg.IndexByteString", "internal/bytealg.IndexString", "internal/abi.NoEscape", "internal/bytealg.MakeNoZero"], unfollowed := true, recurses := true, named := ["unicode/utf8.first", "unicode/utf8.acceptRanges", "internal/bytealg.MaxLen", "crucible/lattice.top"], plainKeys := false, apart := false, laid := [("unicode/utf8.acceptRanges", laid_unicode_utf8_acceptRanges), ("crucible/lattice.top", laid_crucible_lattice_top), ("unicode/utf8.first", laid_unicode_utf8_first)], narrowed := true }
def LatticeGrowsUptoSaid : Prop := latticeGrowsUptoRow.holds Tryz.pinned (OpenSpec.upto latticeGrowsSpec)

/-- 'cruciblelaw14.LinkOrderless', WHERE WHAT IT READS IS OF BULK AT MOST 1048576: true; the input reads as it did. -/
def linkOrderlessUptoRow : OpenClaim := { program := "ytjjlcoimaihdoaagreatdoor", sum := "d751832a361d8a398f6c12b6c1dcc38b7a9065e61d22531c7f82e503a648c9c9", func := "crucible/cruciblelaw14.LinkOrderless", spec := "linkOrderless", inPlace := ["internal/bytealg.IndexByteString", "internal/bytealg.IndexString", "internal/abi.NoEscape", "internal/bytealg.MakeNoZero"], unfollowed := true, recurses := true, named := ["unicode/utf8.first", "unicode/utf8.acceptRanges", "internal/bytealg.MaxLen"], plainKeys := false, apart := false, laid := [("unicode/utf8.acceptRanges", laid_unicode_utf8_acceptRanges), ("unicode/utf8.first", laid_unicode_utf8_first)], narrowed := true }
def LinkOrderlessUptoSaid : Prop := linkOrderlessUptoRow.holds Tryz.pinned (OpenSpec.upto linkOrderlessSpec)

/-- 'cruciblelaw14.LinkTables', WHERE WHAT IT READS IS OF BULK AT MOST 1048576: true; the input reads as it did. -/
def linkTablesUptoRow : OpenClaim := { program := "ytjjlcoimaihdoaagreatdoor", sum := "d751832a361d8a398f6c12b6c1dcc38b7a9065e61d22531c7f82e503a648c9c9", func := "crucible/cruciblelaw14.LinkTables", spec := "linkTables", inPlace := ["internal/bytealg.IndexByteString", "internal/bytealg.IndexString", "internal/abi.NoEscape", "internal/bytealg.MakeNoZero"], unfollowed := true, recurses := true, named := ["unicode/utf8.first", "unicode/utf8.acceptRanges", "internal/bytealg.MaxLen"], plainKeys := false, apart := false, laid := [("unicode/utf8.acceptRanges", laid_unicode_utf8_acceptRanges), ("unicode/utf8.first", laid_unicode_utf8_first)], narrowed := true }
def LinkTablesUptoSaid : Prop := linkTablesUptoRow.holds Tryz.pinned (OpenSpec.upto linkTablesSpec)

/-- 'cruciblelaw14.LinkOwns', WHERE WHAT IT READS IS OF BULK AT MOST 1048576: true; the input reads as it did. -/
def linkOwnsUptoRow : OpenClaim := { program := "ytjjlcoimaihdoaagreatdoor", sum := "d751832a361d8a398f6c12b6c1dcc38b7a9065e61d22531c7f82e503a648c9c9", func := "crucible/cruciblelaw14.LinkOwns", spec := "linkOwns", inPlace := ["internal/bytealg.IndexByteString", "internal/bytealg.IndexString", "internal/abi.NoEscape", "internal/bytealg.MakeNoZero"], unfollowed := true, recurses := true, named := ["unicode/utf8.first", "unicode/utf8.acceptRanges", "internal/bytealg.MaxLen"], plainKeys := false, apart := false, laid := [("unicode/utf8.acceptRanges", laid_unicode_utf8_acceptRanges), ("unicode/utf8.first", laid_unicode_utf8_first)], narrowed := true }
def LinkOwnsUptoSaid : Prop := linkOwnsUptoRow.holds Tryz.pinned (OpenSpec.upto linkOwnsSpec)

/-- 'cruciblelaw14.LinkChecks', WHERE WHAT IT READS IS OF BULK AT MOST 1048576: true; the input reads as it did. -/
def linkChecksUptoRow : OpenClaim := { program := "ytjjlcoimaihdoaagreatdoor", sum := "d751832a361d8a398f6c12b6c1dcc38b7a9065e61d22531c7f82e503a648c9c9", func := "crucible/cruciblelaw14.LinkChecks", spec := "linkChecks", inPlace := ["internal/bytealg.IndexByteString", "internal/bytealg.IndexString", "internal/abi.NoEscape", "internal/bytealg.MakeNoZero"], unfollowed := true, recurses := true, named := ["unicode/utf8.first", "unicode/utf8.acceptRanges", "internal/bytealg.MaxLen"], plainKeys := false, apart := false, laid := [("unicode/utf8.acceptRanges", laid_unicode_utf8_acceptRanges), ("unicode/utf8.first", laid_unicode_utf8_first)], narrowed := true }
def LinkChecksUptoSaid : Prop := linkChecksUptoRow.holds Tryz.pinned (OpenSpec.upto linkChecksSpec)

end Rows
end Go.Proofs.YtjjlcoimaihdoaaGreatDoor
