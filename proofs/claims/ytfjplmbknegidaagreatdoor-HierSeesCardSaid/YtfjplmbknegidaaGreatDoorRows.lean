/-
  NARROWER THAN 'FOR EVERY INPUT', by the rows' own cells (each row's printed sentence says how): HierSubs: laid · HierOrders: laid · HierMakes: laid · HierSees: laid · HierOrderless: laid · HierClosed: laid.
  DERIVED. THE GIVEN ROWS OF THIS SEAT. 6 by the template 'for every input the law returns true; each argument reads behind the call as it read before'; 0 by the template 'total and deterministic' (their statements: YtfjplmbknegidaaGreatDoorTotals.lean).
  GIVEN WITH THE SEED: the statements are not yours to turn. If you find one false, say at which input.
  Laid BY PROGRAM, IN A SANDBOX (cutbox-rows.mjs): the forced cells as the released guide's own fill.sh prints them over the translation c41797ceb9470e6d… (all of the seat's roots in one cut). By AI agents, Wed Nov 11 2026. No macro, syntax, notation, axiom, sorry.
-/
import Derived.Test.YtfjplmbknegidaaGreatDoorChecked
import GoSem.PinnedTables
import GoSem.Claim
import GoSem.ClaimJoined
import GoSem.ClaimMapViews
import Derived.JoinedTies
import Derived.KernelRfl
namespace Go.Proofs.YtfjplmbknegidaaGreatDoor
/- THE CELL 'sum', in the pinned program and in every row, IS THE sha256 OF THE DUMP (.gsa) THAT YtfjplmbknegidaaGreatDoorProg.lean LOADS. Nothing in Lean hashes anything: it is a label: what it is worth is what the hold of that sum in a sandbox is worth. -/
noncomputable def Tryz.pinned : Pinned := { name := "ytfjplmbknegidaagreatdoor", sum := "c41797ceb9470e6d6b1ea351db087aa0a8f40b2b09640aead9aa4d48e429d76a", checked := Tryz.checked }
namespace Rows
def none {H : Type} : Left H := { results := [], args := [] }

/- WHAT THE LISTED PACKAGE-LEVEL VARIABLES READ AS WHEN THE CALL BEGINS. Each datum BY PROGRAM (the guide's laid-datum.mjs) off the statement by which the dump's own 'gosem.cut.vars' lays the variable. In a bare row this is a premise. The card (YtfjplmbknegidaaGreatDoorCards.lean) ties it to the program's text. -/
def laid_unicode_utf8_acceptRanges {H : Type} : DataW H := .agg [.agg [.lit (.int .u8 128), .lit (.int .u8 191)], .agg [.lit (.int .u8 160), .lit (.int .u8 191)], .agg [.lit (.int .u8 128), .lit (.int .u8 159)], .agg [.lit (.int .u8 144), .lit (.int .u8 191)], .agg [.lit (.int .u8 128), .lit (.int .u8 143)], .agg [.lit (.int .u8 0), .lit (.int .u8 0)], .agg [.lit (.int .u8 0), .lit (.int .u8 0)], .agg [.lit (.int .u8 0), .lit (.int .u8 0)], .agg [.lit (.int .u8 0), .lit (.int .u8 0)], .agg [.lit (.int .u8 0), .lit (.int .u8 0)], .agg [.lit (.int .u8 0), .lit (.int .u8 0)], .agg [.lit (.int .u8 0), .lit (.int .u8 0)], .agg [.lit (.int .u8 0), .lit (.int .u8 0)], .agg [.lit (.int .u8 0), .lit (.int .u8 0)], .agg [.lit (.int .u8 0), .lit (.int .u8 0)], .agg [.lit (.int .u8 0), .lit (.int .u8 0)]]
/-- One of Go's own tables, pinned by name: the form's constant. -/
def laid_unicode_utf8_first : DataW Unit := Go.Pinned.utf8First

/-- 'cruciblelaw6.HierSubs': WHATEVER THE INPUT: true; the input reads as it did. -/
def hierSubsSpec : ChangeSpec := { name := "hierSubs", fn := fun _ => fun
  | [d1, d2, d3, d4] => { results := [.lit (.bool true)], args := [d1, d2, d3, d4] }
  | _ => none }
def hierSubsRow : OpenClaim := { program := "ytfjplmbknegidaagreatdoor", sum := "c41797ceb9470e6d6b1ea351db087aa0a8f40b2b09640aead9aa4d48e429d76a", func := "crucible/cruciblelaw6.HierSubs", spec := "hierSubs", inPlace := ["internal/bytealg.IndexByteString", "internal/bytealg.IndexString", "internal/abi.NoEscape", "internal/bytealg.MakeNoZero"], unfollowed := true, recurses := true, named := ["unicode/utf8.first", "unicode/utf8.acceptRanges", "internal/bytealg.MaxLen"], plainKeys := false, apart := false, laid := [("unicode/utf8.acceptRanges", laid_unicode_utf8_acceptRanges), ("unicode/utf8.first", laid_unicode_utf8_first)] }
def HierSubsSaid : Prop := hierSubsRow.holds Tryz.pinned (OpenSpec.ofChange hierSubsSpec)

/-- ITS FALSE NEIGHBOUR: 'it returns false'. Refute it at one input. -/
def hierSubsWrong : ChangeSpec := { name := "hierSubs", fn := fun _ => fun
  | [d1, d2, d3, d4] => { results := [.lit (.bool false)], args := [d1, d2, d3, d4] }
  | _ => none }
def HierSubsWrongFalsely : Prop := hierSubsRow.holds Tryz.pinned (OpenSpec.ofChange hierSubsWrong)

/-- 'cruciblelaw6.HierOrders': WHATEVER THE INPUT: true; the input reads as it did. -/
def hierOrdersSpec : ChangeSpec := { name := "hierOrders", fn := fun _ => fun
  | [d1, d2] => { results := [.lit (.bool true)], args := [d1, d2] }
  | _ => none }
def hierOrdersRow : OpenClaim := { program := "ytfjplmbknegidaagreatdoor", sum := "c41797ceb9470e6d6b1ea351db087aa0a8f40b2b09640aead9aa4d48e429d76a", func := "crucible/cruciblelaw6.HierOrders", spec := "hierOrders", inPlace := ["internal/bytealg.IndexByteString", "internal/bytealg.IndexString", "internal/abi.NoEscape", "internal/bytealg.MakeNoZero"], unfollowed := true, recurses := true, named := ["unicode/utf8.first", "unicode/utf8.acceptRanges", "internal/bytealg.MaxLen"], plainKeys := false, apart := false, laid := [("unicode/utf8.acceptRanges", laid_unicode_utf8_acceptRanges), ("unicode/utf8.first", laid_unicode_utf8_first)] }
def HierOrdersSaid : Prop := hierOrdersRow.holds Tryz.pinned (OpenSpec.ofChange hierOrdersSpec)

/-- ITS FALSE NEIGHBOUR: 'it returns false'. Refute it at one input. -/
def hierOrdersWrong : ChangeSpec := { name := "hierOrders", fn := fun _ => fun
  | [d1, d2] => { results := [.lit (.bool false)], args := [d1, d2] }
  | _ => none }
def HierOrdersWrongFalsely : Prop := hierOrdersRow.holds Tryz.pinned (OpenSpec.ofChange hierOrdersWrong)

/-- 'cruciblelaw6.HierMakes': WHATEVER THE INPUT: true; the input reads as it did. -/
def hierMakesSpec : ChangeSpec := { name := "hierMakes", fn := fun _ => fun
  | [d1, d2, d3] => { results := [.lit (.bool true)], args := [d1, d2, d3] }
  | _ => none }
def hierMakesRow : OpenClaim := { program := "ytfjplmbknegidaagreatdoor", sum := "c41797ceb9470e6d6b1ea351db087aa0a8f40b2b09640aead9aa4d48e429d76a", func := "crucible/cruciblelaw6.HierMakes", spec := "hierMakes", inPlace := ["internal/bytealg.IndexByteString", "internal/bytealg.IndexString", "internal/abi.NoEscape", "internal/bytealg.MakeNoZero"], unfollowed := true, recurses := true, named := ["unicode/utf8.first", "unicode/utf8.acceptRanges", "internal/bytealg.MaxLen"], plainKeys := false, apart := false, laid := [("unicode/utf8.acceptRanges", laid_unicode_utf8_acceptRanges), ("unicode/utf8.first", laid_unicode_utf8_first)] }
def HierMakesSaid : Prop := hierMakesRow.holds Tryz.pinned (OpenSpec.ofChange hierMakesSpec)

/-- ITS FALSE NEIGHBOUR: 'it returns false'. Refute it at one input. -/
def hierMakesWrong : ChangeSpec := { name := "hierMakes", fn := fun _ => fun
  | [d1, d2, d3] => { results := [.lit (.bool false)], args := [d1, d2, d3] }
  | _ => none }
def HierMakesWrongFalsely : Prop := hierMakesRow.holds Tryz.pinned (OpenSpec.ofChange hierMakesWrong)

/-- 'cruciblelaw6.HierSees': WHATEVER THE INPUT: true; the input reads as it did. -/
def hierSeesSpec : ChangeSpec := { name := "hierSees", fn := fun _ => fun
  | [d1, d2, d3] => { results := [.lit (.bool true)], args := [d1, d2, d3] }
  | _ => none }
def hierSeesRow : OpenClaim := { program := "ytfjplmbknegidaagreatdoor", sum := "c41797ceb9470e6d6b1ea351db087aa0a8f40b2b09640aead9aa4d48e429d76a", func := "crucible/cruciblelaw6.HierSees", spec := "hierSees", inPlace := ["internal/bytealg.IndexByteString", "internal/bytealg.IndexString", "internal/abi.NoEscape", "internal/bytealg.MakeNoZero"], unfollowed := true, recurses := true, named := ["unicode/utf8.first", "unicode/utf8.acceptRanges", "internal/bytealg.MaxLen"], plainKeys := false, apart := false, laid := [("unicode/utf8.acceptRanges", laid_unicode_utf8_acceptRanges), ("unicode/utf8.first", laid_unicode_utf8_first)] }
def HierSeesSaid : Prop := hierSeesRow.holds Tryz.pinned (OpenSpec.ofChange hierSeesSpec)

/-- ITS FALSE NEIGHBOUR: 'it returns false'. Refute it at one input. -/
def hierSeesWrong : ChangeSpec := { name := "hierSees", fn := fun _ => fun
  | [d1, d2, d3] => { results := [.lit (.bool false)], args := [d1, d2, d3] }
  | _ => none }
def HierSeesWrongFalsely : Prop := hierSeesRow.holds Tryz.pinned (OpenSpec.ofChange hierSeesWrong)

/-- 'cruciblelaw6.HierOrderless': WHATEVER THE INPUT: true; the input reads as it did. -/
def hierOrderlessSpec : ChangeSpec := { name := "hierOrderless", fn := fun _ => fun
  | [d1, d2, d3] => { results := [.lit (.bool true)], args := [d1, d2, d3] }
  | _ => none }
def hierOrderlessRow : OpenClaim := { program := "ytfjplmbknegidaagreatdoor", sum := "c41797ceb9470e6d6b1ea351db087aa0a8f40b2b09640aead9aa4d48e429d76a", func := "crucible/cruciblelaw6.HierOrderless", spec := "hierOrderless", inPlace := ["internal/bytealg.IndexByteString", "internal/bytealg.IndexString", "internal/abi.NoEscape", "internal/bytealg.MakeNoZero"], unfollowed := true, recurses := true, named := ["unicode/utf8.first", "unicode/utf8.acceptRanges", "internal/bytealg.MaxLen"], plainKeys := false, apart := false, laid := [("unicode/utf8.acceptRanges", laid_unicode_utf8_acceptRanges), ("unicode/utf8.first", laid_unicode_utf8_first)] }
def HierOrderlessSaid : Prop := hierOrderlessRow.holds Tryz.pinned (OpenSpec.ofChange hierOrderlessSpec)

/-- ITS FALSE NEIGHBOUR: 'it returns false'. Refute it at one input. -/
def hierOrderlessWrong : ChangeSpec := { name := "hierOrderless", fn := fun _ => fun
  | [d1, d2, d3] => { results := [.lit (.bool false)], args := [d1, d2, d3] }
  | _ => none }
def HierOrderlessWrongFalsely : Prop := hierOrderlessRow.holds Tryz.pinned (OpenSpec.ofChange hierOrderlessWrong)

/-- 'cruciblelaw6.HierClosed': WHATEVER THE INPUT: true; the input reads as it did. -/
def hierClosedSpec : ChangeSpec := { name := "hierClosed", fn := fun _ => fun
  | [d1, d2] => { results := [.lit (.bool true)], args := [d1, d2] }
  | _ => none }
def hierClosedRow : OpenClaim := { program := "ytfjplmbknegidaagreatdoor", sum := "c41797ceb9470e6d6b1ea351db087aa0a8f40b2b09640aead9aa4d48e429d76a", func := "crucible/cruciblelaw6.HierClosed", spec := "hierClosed", inPlace := ["internal/bytealg.IndexByteString", "internal/bytealg.IndexString", "internal/abi.NoEscape", "internal/bytealg.MakeNoZero"], unfollowed := true, recurses := true, named := ["unicode/utf8.first", "unicode/utf8.acceptRanges", "internal/bytealg.MaxLen"], plainKeys := false, apart := false, laid := [("unicode/utf8.acceptRanges", laid_unicode_utf8_acceptRanges), ("unicode/utf8.first", laid_unicode_utf8_first)] }
def HierClosedSaid : Prop := hierClosedRow.holds Tryz.pinned (OpenSpec.ofChange hierClosedSpec)

/-- ITS FALSE NEIGHBOUR: 'it returns false'. Refute it at one input. -/
def hierClosedWrong : ChangeSpec := { name := "hierClosed", fn := fun _ => fun
  | [d1, d2] => { results := [.lit (.bool false)], args := [d1, d2] }
  | _ => none }
def HierClosedWrongFalsely : Prop := hierClosedRow.holds Tryz.pinned (OpenSpec.ofChange hierClosedWrong)

/- THE SECOND FORM. 'bulk': how many values and letters a reading holds, each counted each time it is reached (what is shared counts as often as it is met; a slice's spare places count too). A statement '..UptoSaid' is the law's where the arguments, and the package variables that the reading takes, are together of bulk at most 1048576: NARROWER than '..Said'. Prove '..Said' where nothing that the law and all that it calls make is longer than what came in: it says more and counts as full. Else prove '..UptoSaid'. A law counts once. -/
mutual
def uptoBulk {H : Type} : DataW H → Nat
  | .lit (.string bytes) => bytes.length + 1
  | .lit _ => 1
  | .nil => 1
  | .ptr d => uptoBulk d + 1
  | .slice elems spare => uptoBulkAll elems + uptoBulkAll spare + 1
  | .agg parts => uptoBulkAll parts + 1
  | .iface _ d => uptoBulk d + 1
  | .map entries => uptoBulkEntries entries + 1
  | .held _ => 1
def uptoBulkAll {H : Type} : List (DataW H) → Nat
  | [] => 0
  | d :: r => uptoBulk d + uptoBulkAll r
def uptoBulkEntries {H : Type} : List (Lit × DataW H) → Nat
  | [] => 0
  | x :: r => uptoBulkEntry x + uptoBulkEntries r
def uptoBulkEntry {H : Type} : Lit × DataW H → Nat
  | (.string bytes, d) => bytes.length + uptoBulk d + 1
  | (_, d) => uptoBulk d + 1
 end
def uptoSmall : (H : Type) → List (DataW H) → Bool := fun _ ds => decide (uptoBulkAll ds ≤ 1048576)
def OpenSpec.upto (s : _root_.Go.ChangeSpec) : _root_.Go.OpenSpec := { _root_.Go.OpenSpec.ofChange s with cond := some uptoSmall }

/-- 'cruciblelaw6.HierSubs', WHERE WHAT IT READS IS OF BULK AT MOST 1048576: true; the input reads as it did. -/
def hierSubsUptoRow : OpenClaim := { program := "ytfjplmbknegidaagreatdoor", sum := "c41797ceb9470e6d6b1ea351db087aa0a8f40b2b09640aead9aa4d48e429d76a", func := "crucible/cruciblelaw6.HierSubs", spec := "hierSubs", inPlace := ["internal/bytealg.IndexByteString", "internal/bytealg.IndexString", "internal/abi.NoEscape", "internal/bytealg.MakeNoZero"], unfollowed := true, recurses := true, named := ["unicode/utf8.first", "unicode/utf8.acceptRanges", "internal/bytealg.MaxLen"], plainKeys := false, apart := false, laid := [("unicode/utf8.acceptRanges", laid_unicode_utf8_acceptRanges), ("unicode/utf8.first", laid_unicode_utf8_first)], narrowed := true }
def HierSubsUptoSaid : Prop := hierSubsUptoRow.holds Tryz.pinned (OpenSpec.upto hierSubsSpec)

/-- 'cruciblelaw6.HierOrders', WHERE WHAT IT READS IS OF BULK AT MOST 1048576: true; the input reads as it did. -/
def hierOrdersUptoRow : OpenClaim := { program := "ytfjplmbknegidaagreatdoor", sum := "c41797ceb9470e6d6b1ea351db087aa0a8f40b2b09640aead9aa4d48e429d76a", func := "crucible/cruciblelaw6.HierOrders", spec := "hierOrders", inPlace := ["internal/bytealg.IndexByteString", "internal/bytealg.IndexString", "internal/abi.NoEscape", "internal/bytealg.MakeNoZero"], unfollowed := true, recurses := true, named := ["unicode/utf8.first", "unicode/utf8.acceptRanges", "internal/bytealg.MaxLen"], plainKeys := false, apart := false, laid := [("unicode/utf8.acceptRanges", laid_unicode_utf8_acceptRanges), ("unicode/utf8.first", laid_unicode_utf8_first)], narrowed := true }
def HierOrdersUptoSaid : Prop := hierOrdersUptoRow.holds Tryz.pinned (OpenSpec.upto hierOrdersSpec)

/-- 'cruciblelaw6.HierMakes', WHERE WHAT IT READS IS OF BULK AT MOST 1048576: true; the input reads as it did. -/
def hierMakesUptoRow : OpenClaim := { program := "ytfjplmbknegidaagreatdoor", sum := "c41797ceb9470e6d6b1ea351db087aa0a8f40b2b09640aead9aa4d48e429d76a", func := "crucible/cruciblelaw6.HierMakes", spec := "hierMakes", inPlace := ["internal/bytealg.IndexByteString", "internal/bytealg.IndexString", "internal/abi.NoEscape", "internal/bytealg.MakeNoZero"], unfollowed := true, recurses := true, named := ["unicode/utf8.first", "unicode/utf8.acceptRanges", "internal/bytealg.MaxLen"], plainKeys := false, apart := false, laid := [("unicode/utf8.acceptRanges", laid_unicode_utf8_acceptRanges), ("unicode/utf8.first", laid_unicode_utf8_first)], narrowed := true }
def HierMakesUptoSaid : Prop := hierMakesUptoRow.holds Tryz.pinned (OpenSpec.upto hierMakesSpec)

/-- 'cruciblelaw6.HierSees', WHERE WHAT IT READS IS OF BULK AT MOST 1048576: true; the input reads as it did. -/
def hierSeesUptoRow : OpenClaim := { program := "ytfjplmbknegidaagreatdoor", sum := "c41797ceb9470e6d6b1ea351db087aa0a8f40b2b09640aead9aa4d48e429d76a", func := "crucible/cruciblelaw6.HierSees", spec := "hierSees", inPlace := ["internal/bytealg.IndexByteString", "internal/bytealg.IndexString", "internal/abi.NoEscape", "internal/bytealg.MakeNoZero"], unfollowed := true, recurses := true, named := ["unicode/utf8.first", "unicode/utf8.acceptRanges", "internal/bytealg.MaxLen"], plainKeys := false, apart := false, laid := [("unicode/utf8.acceptRanges", laid_unicode_utf8_acceptRanges), ("unicode/utf8.first", laid_unicode_utf8_first)], narrowed := true }
def HierSeesUptoSaid : Prop := hierSeesUptoRow.holds Tryz.pinned (OpenSpec.upto hierSeesSpec)

/-- 'cruciblelaw6.HierOrderless', WHERE WHAT IT READS IS OF BULK AT MOST 1048576: true; the input reads as it did. -/
def hierOrderlessUptoRow : OpenClaim := { program := "ytfjplmbknegidaagreatdoor", sum := "c41797ceb9470e6d6b1ea351db087aa0a8f40b2b09640aead9aa4d48e429d76a", func := "crucible/cruciblelaw6.HierOrderless", spec := "hierOrderless", inPlace := ["internal/bytealg.IndexByteString", "internal/bytealg.IndexString", "internal/abi.NoEscape", "internal/bytealg.MakeNoZero"], unfollowed := true, recurses := true, named := ["unicode/utf8.first", "unicode/utf8.acceptRanges", "internal/bytealg.MaxLen"], plainKeys := false, apart := false, laid := [("unicode/utf8.acceptRanges", laid_unicode_utf8_acceptRanges), ("unicode/utf8.first", laid_unicode_utf8_first)], narrowed := true }
def HierOrderlessUptoSaid : Prop := hierOrderlessUptoRow.holds Tryz.pinned (OpenSpec.upto hierOrderlessSpec)

/-- 'cruciblelaw6.HierClosed', WHERE WHAT IT READS IS OF BULK AT MOST 1048576: true; the input reads as it did. -/
def hierClosedUptoRow : OpenClaim := { program := "ytfjplmbknegidaagreatdoor", sum := "c41797ceb9470e6d6b1ea351db087aa0a8f40b2b09640aead9aa4d48e429d76a", func := "crucible/cruciblelaw6.HierClosed", spec := "hierClosed", inPlace := ["internal/bytealg.IndexByteString", "internal/bytealg.IndexString", "internal/abi.NoEscape", "internal/bytealg.MakeNoZero"], unfollowed := true, recurses := true, named := ["unicode/utf8.first", "unicode/utf8.acceptRanges", "internal/bytealg.MaxLen"], plainKeys := false, apart := false, laid := [("unicode/utf8.acceptRanges", laid_unicode_utf8_acceptRanges), ("unicode/utf8.first", laid_unicode_utf8_first)], narrowed := true }
def HierClosedUptoSaid : Prop := hierClosedUptoRow.holds Tryz.pinned (OpenSpec.upto hierClosedSpec)

end Rows
end Go.Proofs.YtfjplmbknegidaaGreatDoor
