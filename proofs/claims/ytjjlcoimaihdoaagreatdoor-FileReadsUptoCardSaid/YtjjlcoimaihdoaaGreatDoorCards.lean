/-
  DERIVED. GIVEN WITH THE SEED: THE CARDS: each row of YtjjlcoimaihdoaaGreatDoorRows.lean that lists a variable, with what it lists TIED to the program's text (the seventh form; the later family's looks); each row that meets fmt, with fmt's text TOLD by the authors' own Lean function (tested against real Go, not proved from fmt's source: count such statements apart). THE CARD IS WHAT COUNTS. Prove the row's statement (the work); the ties are given (YtjjlcoimaihdoaaGreatDoorTie.lean); close each card by the builder's one call (the guide's Derived/Test/ToyasCard.lean, 'card_holds'). Laid BY PROGRAM, IN A SANDBOX (cutbox-door.mjs). By AI agents, Wed Nov 11 2026. No macro, syntax, notation, axiom, sorry.
-/
import Derived.Test.YtjjlcoimaihdoaaGreatDoorRows
import GoSem.ClaimSeven
namespace Go.Proofs.YtjjlcoimaihdoaaGreatDoor
namespace Rows

/-- THE TIED CARD OF 'cruciblelaw3.FileReads'. -/
def fileReadsCard : Claim7 := { stood := { row := fileReadsRow, standIns := [], harness := (true, "0a1aa3a6ae6dc8f1a5df66a5d056c670c0326d938f93167131a5624f7820a78d"), looks := false }, kinds := [], alts := [], laidByText := true, laidKinds := [.data, .pinned], laidTests := true, laidLooks := .later }
def FileReadsCardSaid : Prop := Claim7.holds Tryz.pinned (.plain (OpenSpec.ofChange fileReadsSpec)) fileReadsCard

/-- THE TIED CARD OF 'cruciblelaw6.HierSubs'. -/
def hierSubsCard : Claim7 := { stood := { row := hierSubsRow, standIns := [], harness := (true, "0a1aa3a6ae6dc8f1a5df66a5d056c670c0326d938f93167131a5624f7820a78d"), looks := false }, kinds := [], alts := [], laidByText := true, laidKinds := [.data, .pinned], laidTests := true, laidLooks := .later }
def HierSubsCardSaid : Prop := Claim7.holds Tryz.pinned (.plain (OpenSpec.ofChange hierSubsSpec)) hierSubsCard

/-- THE TIED CARD OF 'cruciblelaw6.HierOrders'. -/
def hierOrdersCard : Claim7 := { stood := { row := hierOrdersRow, standIns := [], harness := (true, "0a1aa3a6ae6dc8f1a5df66a5d056c670c0326d938f93167131a5624f7820a78d"), looks := false }, kinds := [], alts := [], laidByText := true, laidKinds := [.data, .pinned], laidTests := true, laidLooks := .later }
def HierOrdersCardSaid : Prop := Claim7.holds Tryz.pinned (.plain (OpenSpec.ofChange hierOrdersSpec)) hierOrdersCard

/-- THE TIED CARD OF 'cruciblelaw6.HierMakes'. -/
def hierMakesCard : Claim7 := { stood := { row := hierMakesRow, standIns := [], harness := (true, "0a1aa3a6ae6dc8f1a5df66a5d056c670c0326d938f93167131a5624f7820a78d"), looks := false }, kinds := [], alts := [], laidByText := true, laidKinds := [.data, .pinned], laidTests := true, laidLooks := .later }
def HierMakesCardSaid : Prop := Claim7.holds Tryz.pinned (.plain (OpenSpec.ofChange hierMakesSpec)) hierMakesCard

/-- THE TIED CARD OF 'cruciblelaw6.HierSees'. -/
def hierSeesCard : Claim7 := { stood := { row := hierSeesRow, standIns := [], harness := (true, "0a1aa3a6ae6dc8f1a5df66a5d056c670c0326d938f93167131a5624f7820a78d"), looks := false }, kinds := [], alts := [], laidByText := true, laidKinds := [.data, .pinned], laidTests := true, laidLooks := .later }
def HierSeesCardSaid : Prop := Claim7.holds Tryz.pinned (.plain (OpenSpec.ofChange hierSeesSpec)) hierSeesCard

/-- THE TIED CARD OF 'cruciblelaw6.HierOrderless'. -/
def hierOrderlessCard : Claim7 := { stood := { row := hierOrderlessRow, standIns := [], harness := (true, "0a1aa3a6ae6dc8f1a5df66a5d056c670c0326d938f93167131a5624f7820a78d"), looks := false }, kinds := [], alts := [], laidByText := true, laidKinds := [.data, .pinned], laidTests := true, laidLooks := .later }
def HierOrderlessCardSaid : Prop := Claim7.holds Tryz.pinned (.plain (OpenSpec.ofChange hierOrderlessSpec)) hierOrderlessCard

/-- THE TIED CARD OF 'cruciblelaw6.HierClosed'. -/
def hierClosedCard : Claim7 := { stood := { row := hierClosedRow, standIns := [], harness := (true, "0a1aa3a6ae6dc8f1a5df66a5d056c670c0326d938f93167131a5624f7820a78d"), looks := false }, kinds := [], alts := [], laidByText := true, laidKinds := [.data, .pinned], laidTests := true, laidLooks := .later }
def HierClosedCardSaid : Prop := Claim7.holds Tryz.pinned (.plain (OpenSpec.ofChange hierClosedSpec)) hierClosedCard

/-- THE TIED CARD OF 'cruciblelaw7.LatticeOrders'. -/
def latticeOrdersCard : Claim7 := { stood := { row := latticeOrdersRow, standIns := [], harness := (true, "0a1aa3a6ae6dc8f1a5df66a5d056c670c0326d938f93167131a5624f7820a78d"), looks := false }, kinds := [], alts := [], laidByText := true, laidKinds := [.data, .data, .pinned], laidTests := true, laidLooks := .later }
def LatticeOrdersCardSaid : Prop := Claim7.holds Tryz.pinned (.plain (OpenSpec.ofChange latticeOrdersSpec)) latticeOrdersCard

/-- THE TIED CARD OF 'cruciblelaw7.LatticeJoins'. -/
def latticeJoinsCard : Claim7 := { stood := { row := latticeJoinsRow, standIns := [], harness := (true, "0a1aa3a6ae6dc8f1a5df66a5d056c670c0326d938f93167131a5624f7820a78d"), looks := false }, kinds := [], alts := [], laidByText := true, laidKinds := [.data, .data, .pinned], laidTests := true, laidLooks := .later }
def LatticeJoinsCardSaid : Prop := Claim7.holds Tryz.pinned (.plain (OpenSpec.ofChange latticeJoinsSpec)) latticeJoinsCard

/-- THE TIED CARD OF 'cruciblelaw13.LayoutFinds'. -/
def layoutFindsCard : Claim7 := { stood := { row := layoutFindsRow, standIns := [], harness := (true, "0a1aa3a6ae6dc8f1a5df66a5d056c670c0326d938f93167131a5624f7820a78d"), looks := false }, kinds := [], alts := [], laidByText := true, laidKinds := [.data, .pinned], laidTests := true, laidLooks := .later }
def LayoutFindsCardSaid : Prop := Claim7.holds Tryz.pinned (.plain (OpenSpec.ofChange layoutFindsSpec)) layoutFindsCard

/-- THE TIED CARD OF 'cruciblelaw7.LatticeSwaps'. -/
def latticeSwapsCard : Claim7 := { stood := { row := latticeSwapsRow, standIns := [], harness := (true, "0a1aa3a6ae6dc8f1a5df66a5d056c670c0326d938f93167131a5624f7820a78d"), looks := false }, kinds := [], alts := [], laidByText := true, laidKinds := [.data, .data, .pinned], laidTests := true, laidLooks := .later }
def LatticeSwapsCardSaid : Prop := Claim7.holds Tryz.pinned (.plain (OpenSpec.ofChange latticeSwapsSpec)) latticeSwapsCard

/-- THE TIED CARD OF 'cruciblelaw7.LatticeStates'. -/
def latticeStatesCard : Claim7 := { stood := { row := latticeStatesRow, standIns := [], harness := (true, "0a1aa3a6ae6dc8f1a5df66a5d056c670c0326d938f93167131a5624f7820a78d"), looks := false }, kinds := [], alts := [], laidByText := true, laidKinds := [.data, .data, .pinned], laidTests := true, laidLooks := .later }
def LatticeStatesCardSaid : Prop := Claim7.holds Tryz.pinned (.plain (OpenSpec.ofChange latticeStatesSpec)) latticeStatesCard

/-- THE TIED CARD OF 'cruciblelaw7.LatticeGrows'. -/
def latticeGrowsCard : Claim7 := { stood := { row := latticeGrowsRow, standIns := [], harness := (true, "0a1aa3a6ae6dc8f1a5df66a5d056c670c0326d938f93167131a5624f7820a78d"), looks := false }, kinds := [], alts := [], laidByText := true, laidKinds := [.data, .data, .pinned], laidTests := true, laidLooks := .later }
def LatticeGrowsCardSaid : Prop := Claim7.holds Tryz.pinned (.plain (OpenSpec.ofChange latticeGrowsSpec)) latticeGrowsCard

/-- THE TIED CARD OF 'cruciblelaw14.LinkOrderless'. -/
def linkOrderlessCard : Claim7 := { stood := { row := linkOrderlessRow, standIns := [], harness := (true, "0a1aa3a6ae6dc8f1a5df66a5d056c670c0326d938f93167131a5624f7820a78d"), looks := false }, kinds := [], alts := [], laidByText := true, laidKinds := [.data, .pinned], laidTests := true, laidLooks := .later }
def LinkOrderlessCardSaid : Prop := Claim7.holds Tryz.pinned (.plain (OpenSpec.ofChange linkOrderlessSpec)) linkOrderlessCard

/-- THE TIED CARD OF 'cruciblelaw14.LinkTables'. -/
def linkTablesCard : Claim7 := { stood := { row := linkTablesRow, standIns := [], harness := (true, "0a1aa3a6ae6dc8f1a5df66a5d056c670c0326d938f93167131a5624f7820a78d"), looks := false }, kinds := [], alts := [], laidByText := true, laidKinds := [.data, .pinned], laidTests := true, laidLooks := .later }
def LinkTablesCardSaid : Prop := Claim7.holds Tryz.pinned (.plain (OpenSpec.ofChange linkTablesSpec)) linkTablesCard

/-- THE TIED CARD OF 'cruciblelaw14.LinkOwns'. -/
def linkOwnsCard : Claim7 := { stood := { row := linkOwnsRow, standIns := [], harness := (true, "0a1aa3a6ae6dc8f1a5df66a5d056c670c0326d938f93167131a5624f7820a78d"), looks := false }, kinds := [], alts := [], laidByText := true, laidKinds := [.data, .pinned], laidTests := true, laidLooks := .later }
def LinkOwnsCardSaid : Prop := Claim7.holds Tryz.pinned (.plain (OpenSpec.ofChange linkOwnsSpec)) linkOwnsCard

/-- THE TIED CARD OF 'cruciblelaw14.LinkChecks'. -/
def linkChecksCard : Claim7 := { stood := { row := linkChecksRow, standIns := [], harness := (true, "0a1aa3a6ae6dc8f1a5df66a5d056c670c0326d938f93167131a5624f7820a78d"), looks := false }, kinds := [], alts := [], laidByText := true, laidKinds := [.data, .pinned], laidTests := true, laidLooks := .later }
def LinkChecksCardSaid : Prop := Claim7.holds Tryz.pinned (.plain (OpenSpec.ofChange linkChecksSpec)) linkChecksCard

/-- THE SECOND FORM's CARD OF 'cruciblelaw3.FileReads'. -/
def fileReadsUptoCard : Claim7 := { stood := { row := fileReadsUptoRow, standIns := [], harness := (true, "0a1aa3a6ae6dc8f1a5df66a5d056c670c0326d938f93167131a5624f7820a78d"), looks := false }, kinds := [], alts := [], laidByText := true, laidKinds := [.data, .pinned], laidTests := true, laidLooks := .later }
def FileReadsUptoCardSaid : Prop := Claim7.holds Tryz.pinned (.plain (OpenSpec.upto fileReadsSpec)) fileReadsUptoCard

/-- THE SECOND FORM's CARD OF 'cruciblelaw6.HierSubs'. -/
def hierSubsUptoCard : Claim7 := { stood := { row := hierSubsUptoRow, standIns := [], harness := (true, "0a1aa3a6ae6dc8f1a5df66a5d056c670c0326d938f93167131a5624f7820a78d"), looks := false }, kinds := [], alts := [], laidByText := true, laidKinds := [.data, .pinned], laidTests := true, laidLooks := .later }
def HierSubsUptoCardSaid : Prop := Claim7.holds Tryz.pinned (.plain (OpenSpec.upto hierSubsSpec)) hierSubsUptoCard

/-- THE SECOND FORM's CARD OF 'cruciblelaw6.HierOrders'. -/
def hierOrdersUptoCard : Claim7 := { stood := { row := hierOrdersUptoRow, standIns := [], harness := (true, "0a1aa3a6ae6dc8f1a5df66a5d056c670c0326d938f93167131a5624f7820a78d"), looks := false }, kinds := [], alts := [], laidByText := true, laidKinds := [.data, .pinned], laidTests := true, laidLooks := .later }
def HierOrdersUptoCardSaid : Prop := Claim7.holds Tryz.pinned (.plain (OpenSpec.upto hierOrdersSpec)) hierOrdersUptoCard

/-- THE SECOND FORM's CARD OF 'cruciblelaw6.HierMakes'. -/
def hierMakesUptoCard : Claim7 := { stood := { row := hierMakesUptoRow, standIns := [], harness := (true, "0a1aa3a6ae6dc8f1a5df66a5d056c670c0326d938f93167131a5624f7820a78d"), looks := false }, kinds := [], alts := [], laidByText := true, laidKinds := [.data, .pinned], laidTests := true, laidLooks := .later }
def HierMakesUptoCardSaid : Prop := Claim7.holds Tryz.pinned (.plain (OpenSpec.upto hierMakesSpec)) hierMakesUptoCard

/-- THE SECOND FORM's CARD OF 'cruciblelaw6.HierSees'. -/
def hierSeesUptoCard : Claim7 := { stood := { row := hierSeesUptoRow, standIns := [], harness := (true, "0a1aa3a6ae6dc8f1a5df66a5d056c670c0326d938f93167131a5624f7820a78d"), looks := false }, kinds := [], alts := [], laidByText := true, laidKinds := [.data, .pinned], laidTests := true, laidLooks := .later }
def HierSeesUptoCardSaid : Prop := Claim7.holds Tryz.pinned (.plain (OpenSpec.upto hierSeesSpec)) hierSeesUptoCard

/-- THE SECOND FORM's CARD OF 'cruciblelaw6.HierOrderless'. -/
def hierOrderlessUptoCard : Claim7 := { stood := { row := hierOrderlessUptoRow, standIns := [], harness := (true, "0a1aa3a6ae6dc8f1a5df66a5d056c670c0326d938f93167131a5624f7820a78d"), looks := false }, kinds := [], alts := [], laidByText := true, laidKinds := [.data, .pinned], laidTests := true, laidLooks := .later }
def HierOrderlessUptoCardSaid : Prop := Claim7.holds Tryz.pinned (.plain (OpenSpec.upto hierOrderlessSpec)) hierOrderlessUptoCard

/-- THE SECOND FORM's CARD OF 'cruciblelaw6.HierClosed'. -/
def hierClosedUptoCard : Claim7 := { stood := { row := hierClosedUptoRow, standIns := [], harness := (true, "0a1aa3a6ae6dc8f1a5df66a5d056c670c0326d938f93167131a5624f7820a78d"), looks := false }, kinds := [], alts := [], laidByText := true, laidKinds := [.data, .pinned], laidTests := true, laidLooks := .later }
def HierClosedUptoCardSaid : Prop := Claim7.holds Tryz.pinned (.plain (OpenSpec.upto hierClosedSpec)) hierClosedUptoCard

/-- THE SECOND FORM's CARD OF 'cruciblelaw7.LatticeOrders'. -/
def latticeOrdersUptoCard : Claim7 := { stood := { row := latticeOrdersUptoRow, standIns := [], harness := (true, "0a1aa3a6ae6dc8f1a5df66a5d056c670c0326d938f93167131a5624f7820a78d"), looks := false }, kinds := [], alts := [], laidByText := true, laidKinds := [.data, .data, .pinned], laidTests := true, laidLooks := .later }
def LatticeOrdersUptoCardSaid : Prop := Claim7.holds Tryz.pinned (.plain (OpenSpec.upto latticeOrdersSpec)) latticeOrdersUptoCard

/-- THE SECOND FORM's CARD OF 'cruciblelaw7.LatticeJoins'. -/
def latticeJoinsUptoCard : Claim7 := { stood := { row := latticeJoinsUptoRow, standIns := [], harness := (true, "0a1aa3a6ae6dc8f1a5df66a5d056c670c0326d938f93167131a5624f7820a78d"), looks := false }, kinds := [], alts := [], laidByText := true, laidKinds := [.data, .data, .pinned], laidTests := true, laidLooks := .later }
def LatticeJoinsUptoCardSaid : Prop := Claim7.holds Tryz.pinned (.plain (OpenSpec.upto latticeJoinsSpec)) latticeJoinsUptoCard

/-- THE SECOND FORM's CARD OF 'cruciblelaw13.LayoutFinds'. -/
def layoutFindsUptoCard : Claim7 := { stood := { row := layoutFindsUptoRow, standIns := [], harness := (true, "0a1aa3a6ae6dc8f1a5df66a5d056c670c0326d938f93167131a5624f7820a78d"), looks := false }, kinds := [], alts := [], laidByText := true, laidKinds := [.data, .pinned], laidTests := true, laidLooks := .later }
def LayoutFindsUptoCardSaid : Prop := Claim7.holds Tryz.pinned (.plain (OpenSpec.upto layoutFindsSpec)) layoutFindsUptoCard

/-- THE SECOND FORM's CARD OF 'cruciblelaw7.LatticeSwaps'. -/
def latticeSwapsUptoCard : Claim7 := { stood := { row := latticeSwapsUptoRow, standIns := [], harness := (true, "0a1aa3a6ae6dc8f1a5df66a5d056c670c0326d938f93167131a5624f7820a78d"), looks := false }, kinds := [], alts := [], laidByText := true, laidKinds := [.data, .data, .pinned], laidTests := true, laidLooks := .later }
def LatticeSwapsUptoCardSaid : Prop := Claim7.holds Tryz.pinned (.plain (OpenSpec.upto latticeSwapsSpec)) latticeSwapsUptoCard

/-- THE SECOND FORM's CARD OF 'cruciblelaw7.LatticeStates'. -/
def latticeStatesUptoCard : Claim7 := { stood := { row := latticeStatesUptoRow, standIns := [], harness := (true, "0a1aa3a6ae6dc8f1a5df66a5d056c670c0326d938f93167131a5624f7820a78d"), looks := false }, kinds := [], alts := [], laidByText := true, laidKinds := [.data, .data, .pinned], laidTests := true, laidLooks := .later }
def LatticeStatesUptoCardSaid : Prop := Claim7.holds Tryz.pinned (.plain (OpenSpec.upto latticeStatesSpec)) latticeStatesUptoCard

/-- THE SECOND FORM's CARD OF 'cruciblelaw7.LatticeGrows'. -/
def latticeGrowsUptoCard : Claim7 := { stood := { row := latticeGrowsUptoRow, standIns := [], harness := (true, "0a1aa3a6ae6dc8f1a5df66a5d056c670c0326d938f93167131a5624f7820a78d"), looks := false }, kinds := [], alts := [], laidByText := true, laidKinds := [.data, .data, .pinned], laidTests := true, laidLooks := .later }
def LatticeGrowsUptoCardSaid : Prop := Claim7.holds Tryz.pinned (.plain (OpenSpec.upto latticeGrowsSpec)) latticeGrowsUptoCard

/-- THE SECOND FORM's CARD OF 'cruciblelaw14.LinkOrderless'. -/
def linkOrderlessUptoCard : Claim7 := { stood := { row := linkOrderlessUptoRow, standIns := [], harness := (true, "0a1aa3a6ae6dc8f1a5df66a5d056c670c0326d938f93167131a5624f7820a78d"), looks := false }, kinds := [], alts := [], laidByText := true, laidKinds := [.data, .pinned], laidTests := true, laidLooks := .later }
def LinkOrderlessUptoCardSaid : Prop := Claim7.holds Tryz.pinned (.plain (OpenSpec.upto linkOrderlessSpec)) linkOrderlessUptoCard

/-- THE SECOND FORM's CARD OF 'cruciblelaw14.LinkTables'. -/
def linkTablesUptoCard : Claim7 := { stood := { row := linkTablesUptoRow, standIns := [], harness := (true, "0a1aa3a6ae6dc8f1a5df66a5d056c670c0326d938f93167131a5624f7820a78d"), looks := false }, kinds := [], alts := [], laidByText := true, laidKinds := [.data, .pinned], laidTests := true, laidLooks := .later }
def LinkTablesUptoCardSaid : Prop := Claim7.holds Tryz.pinned (.plain (OpenSpec.upto linkTablesSpec)) linkTablesUptoCard

/-- THE SECOND FORM's CARD OF 'cruciblelaw14.LinkOwns'. -/
def linkOwnsUptoCard : Claim7 := { stood := { row := linkOwnsUptoRow, standIns := [], harness := (true, "0a1aa3a6ae6dc8f1a5df66a5d056c670c0326d938f93167131a5624f7820a78d"), looks := false }, kinds := [], alts := [], laidByText := true, laidKinds := [.data, .pinned], laidTests := true, laidLooks := .later }
def LinkOwnsUptoCardSaid : Prop := Claim7.holds Tryz.pinned (.plain (OpenSpec.upto linkOwnsSpec)) linkOwnsUptoCard

/-- THE SECOND FORM's CARD OF 'cruciblelaw14.LinkChecks'. -/
def linkChecksUptoCard : Claim7 := { stood := { row := linkChecksUptoRow, standIns := [], harness := (true, "0a1aa3a6ae6dc8f1a5df66a5d056c670c0326d938f93167131a5624f7820a78d"), looks := false }, kinds := [], alts := [], laidByText := true, laidKinds := [.data, .pinned], laidTests := true, laidLooks := .later }
def LinkChecksUptoCardSaid : Prop := Claim7.holds Tryz.pinned (.plain (OpenSpec.upto linkChecksSpec)) linkChecksUptoCard
end Rows
end Go.Proofs.YtjjlcoimaihdoaaGreatDoor
