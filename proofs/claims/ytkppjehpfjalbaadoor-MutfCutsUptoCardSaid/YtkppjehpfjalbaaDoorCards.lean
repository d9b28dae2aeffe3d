/-
  DERIVED. GIVEN WITH THE SEED: THE CARDS: each row of YtkppjehpfjalbaaDoorRows.lean that lists a variable, with what it lists TIED to the program's text (the seventh form; the later family's looks); each row that meets fmt, with fmt's text TOLD by the authors' own Lean function (tested against real Go, not proved from fmt's source: count such statements apart). THE CARD IS WHAT COUNTS. Prove the row's statement (the work); the ties are given (YtkppjehpfjalbaaDoorTie.lean); close each card by the builder's one call (the guide's Derived/Test/ToyasCard.lean, 'card_holds'). Laid BY PROGRAM, IN A SANDBOX (cutbox-door.mjs). By AI agents, Wed Nov 11 2026. No macro, syntax, notation, axiom, sorry.
-/
import Derived.Test.YtkppjehpfjalbaaDoorRows
import GoSem.ClaimSeven
namespace Go.Proofs.YtkppjehpfjalbaaDoor
namespace Rows

/-- THE TIED CARD OF 'cruciblelaw16.StrtabPlays'. -/
def strtabPlaysCard : Claim7 := { stood := { row := strtabPlaysRow, standIns := [], harness := (true, "ce68febcaa36f8c86df0ad819821540194cf7fdc9191284b9f6bca3f460901d2"), looks := false }, kinds := [], alts := [], laidByText := true, laidKinds := [.data, .pinned], laidTests := true, laidLooks := .later }
def StrtabPlaysCardSaid : Prop := Claim7.holds Tryd.pinned (.plain (OpenSpec.ofChange strtabPlaysSpec)) strtabPlaysCard

/-- THE TIED CARD OF 'cruciblelaw16.StrtabKeeps'. -/
def strtabKeepsCard : Claim7 := { stood := { row := strtabKeepsRow, standIns := [], harness := (true, "ce68febcaa36f8c86df0ad819821540194cf7fdc9191284b9f6bca3f460901d2"), looks := false }, kinds := [], alts := [], laidByText := true, laidKinds := [.data, .pinned], laidTests := true, laidLooks := .later }
def StrtabKeepsCardSaid : Prop := Claim7.holds Tryd.pinned (.plain (OpenSpec.ofChange strtabKeepsSpec)) strtabKeepsCard

/-- THE TIED CARD OF 'cruciblelaw1.MutfWrites'. -/
def mutfWritesCard : Claim7 := { stood := { row := mutfWritesRow, standIns := [], harness := (true, "ce68febcaa36f8c86df0ad819821540194cf7fdc9191284b9f6bca3f460901d2"), looks := false }, kinds := [], alts := [], laidByText := true, laidKinds := [.data, .pinned], laidTests := true, laidLooks := .later }
def MutfWritesCardSaid : Prop := Claim7.holds Tryd.pinned (.plain (OpenSpec.ofChange mutfWritesSpec)) mutfWritesCard

/-- THE TIED CARD OF 'cruciblelaw1.MutfReads'. -/
def mutfReadsCard : Claim7 := { stood := { row := mutfReadsRow, standIns := [], harness := (true, "ce68febcaa36f8c86df0ad819821540194cf7fdc9191284b9f6bca3f460901d2"), looks := false }, kinds := [], alts := [], laidByText := true, laidKinds := [.data, .pinned], laidTests := true, laidLooks := .later }
def MutfReadsCardSaid : Prop := Claim7.holds Tryd.pinned (.plain (OpenSpec.ofChange mutfReadsSpec)) mutfReadsCard

/-- THE TIED CARD OF 'cruciblelaw1.MutfNames'. -/
def mutfNamesCard : Claim7 := { stood := { row := mutfNamesRow, standIns := [], harness := (true, "ce68febcaa36f8c86df0ad819821540194cf7fdc9191284b9f6bca3f460901d2"), looks := false }, kinds := [], alts := [], laidByText := true, laidKinds := [.data, .pinned], laidTests := true, laidLooks := .later }
def MutfNamesCardSaid : Prop := Claim7.holds Tryd.pinned (.plain (OpenSpec.ofChange mutfNamesSpec)) mutfNamesCard

/-- THE TIED CARD OF 'cruciblelaw1.MutfAgain'. -/
def mutfAgainCard : Claim7 := { stood := { row := mutfAgainRow, standIns := [], harness := (true, "ce68febcaa36f8c86df0ad819821540194cf7fdc9191284b9f6bca3f460901d2"), looks := false }, kinds := [], alts := [], laidByText := true, laidKinds := [.data, .pinned], laidTests := true, laidLooks := .later }
def MutfAgainCardSaid : Prop := Claim7.holds Tryd.pinned (.plain (OpenSpec.ofChange mutfAgainSpec)) mutfAgainCard

/-- THE TIED CARD OF 'cruciblelaw1.MutfJoins'. -/
def mutfJoinsCard : Claim7 := { stood := { row := mutfJoinsRow, standIns := [], harness := (true, "ce68febcaa36f8c86df0ad819821540194cf7fdc9191284b9f6bca3f460901d2"), looks := false }, kinds := [], alts := [], laidByText := true, laidKinds := [.data, .pinned], laidTests := true, laidLooks := .later }
def MutfJoinsCardSaid : Prop := Claim7.holds Tryd.pinned (.plain (OpenSpec.ofChange mutfJoinsSpec)) mutfJoinsCard

/-- THE TIED CARD OF 'cruciblelaw1.MutfCuts'. -/
def mutfCutsCard : Claim7 := { stood := { row := mutfCutsRow, standIns := [], harness := (true, "ce68febcaa36f8c86df0ad819821540194cf7fdc9191284b9f6bca3f460901d2"), looks := false }, kinds := [], alts := [], laidByText := true, laidKinds := [.data, .pinned], laidTests := true, laidLooks := .later }
def MutfCutsCardSaid : Prop := Claim7.holds Tryd.pinned (.plain (OpenSpec.ofChange mutfCutsSpec)) mutfCutsCard

/-- THE TIED CARD OF 'cruciblelaw1.MutfRunes'. -/
def mutfRunesCard : Claim7 := { stood := { row := mutfRunesRow, standIns := [], harness := (true, "ce68febcaa36f8c86df0ad819821540194cf7fdc9191284b9f6bca3f460901d2"), looks := false }, kinds := [], alts := [], laidByText := true, laidKinds := [.data, .pinned], laidTests := true, laidLooks := .later }
def MutfRunesCardSaid : Prop := Claim7.holds Tryd.pinned (.plain (OpenSpec.ofChange mutfRunesSpec)) mutfRunesCard

/-- THE TIED CARD OF 'cruciblelaw1.MutfRuns'. -/
def mutfRunsCard : Claim7 := { stood := { row := mutfRunsRow, standIns := [], harness := (true, "ce68febcaa36f8c86df0ad819821540194cf7fdc9191284b9f6bca3f460901d2"), looks := false }, kinds := [], alts := [], laidByText := true, laidKinds := [.data, .pinned], laidTests := true, laidLooks := .later }
def MutfRunsCardSaid : Prop := Claim7.holds Tryd.pinned (.plain (OpenSpec.ofChange mutfRunsSpec)) mutfRunsCard

/-- THE TIED CARD OF 'cruciblelaw1.MutfMakes'. -/
def mutfMakesCard : Claim7 := { stood := { row := mutfMakesRow, standIns := [], harness := (true, "ce68febcaa36f8c86df0ad819821540194cf7fdc9191284b9f6bca3f460901d2"), looks := false }, kinds := [], alts := [], laidByText := true, laidKinds := [.data, .pinned], laidTests := true, laidLooks := .later }
def MutfMakesCardSaid : Prop := Claim7.holds Tryd.pinned (.plain (OpenSpec.ofChange mutfMakesSpec)) mutfMakesCard

/-- THE TIED CARD OF 'cruciblelaw1.MutfBack'. -/
def mutfBackCard : Claim7 := { stood := { row := mutfBackRow, standIns := [], harness := (true, "ce68febcaa36f8c86df0ad819821540194cf7fdc9191284b9f6bca3f460901d2"), looks := false }, kinds := [], alts := [], laidByText := true, laidKinds := [.data, .pinned], laidTests := true, laidLooks := .later }
def MutfBackCardSaid : Prop := Claim7.holds Tryd.pinned (.plain (OpenSpec.ofChange mutfBackSpec)) mutfBackCard

/-- THE SECOND FORM's CARD OF 'cruciblelaw16.StrtabPlays'. -/
def strtabPlaysUptoCard : Claim7 := { stood := { row := strtabPlaysUptoRow, standIns := [], harness := (true, "ce68febcaa36f8c86df0ad819821540194cf7fdc9191284b9f6bca3f460901d2"), looks := false }, kinds := [], alts := [], laidByText := true, laidKinds := [.data, .pinned], laidTests := true, laidLooks := .later }
def StrtabPlaysUptoCardSaid : Prop := Claim7.holds Tryd.pinned (.plain (OpenSpec.upto strtabPlaysSpec)) strtabPlaysUptoCard

/-- THE SECOND FORM's CARD OF 'cruciblelaw16.StrtabKeeps'. -/
def strtabKeepsUptoCard : Claim7 := { stood := { row := strtabKeepsUptoRow, standIns := [], harness := (true, "ce68febcaa36f8c86df0ad819821540194cf7fdc9191284b9f6bca3f460901d2"), looks := false }, kinds := [], alts := [], laidByText := true, laidKinds := [.data, .pinned], laidTests := true, laidLooks := .later }
def StrtabKeepsUptoCardSaid : Prop := Claim7.holds Tryd.pinned (.plain (OpenSpec.upto strtabKeepsSpec)) strtabKeepsUptoCard

/-- THE SECOND FORM's CARD OF 'cruciblelaw1.MutfWrites'. -/
def mutfWritesUptoCard : Claim7 := { stood := { row := mutfWritesUptoRow, standIns := [], harness := (true, "ce68febcaa36f8c86df0ad819821540194cf7fdc9191284b9f6bca3f460901d2"), looks := false }, kinds := [], alts := [], laidByText := true, laidKinds := [.data, .pinned], laidTests := true, laidLooks := .later }
def MutfWritesUptoCardSaid : Prop := Claim7.holds Tryd.pinned (.plain (OpenSpec.upto mutfWritesSpec)) mutfWritesUptoCard

/-- THE SECOND FORM's CARD OF 'cruciblelaw1.MutfReads'. -/
def mutfReadsUptoCard : Claim7 := { stood := { row := mutfReadsUptoRow, standIns := [], harness := (true, "ce68febcaa36f8c86df0ad819821540194cf7fdc9191284b9f6bca3f460901d2"), looks := false }, kinds := [], alts := [], laidByText := true, laidKinds := [.data, .pinned], laidTests := true, laidLooks := .later }
def MutfReadsUptoCardSaid : Prop := Claim7.holds Tryd.pinned (.plain (OpenSpec.upto mutfReadsSpec)) mutfReadsUptoCard

/-- THE SECOND FORM's CARD OF 'cruciblelaw1.MutfNames'. -/
def mutfNamesUptoCard : Claim7 := { stood := { row := mutfNamesUptoRow, standIns := [], harness := (true, "ce68febcaa36f8c86df0ad819821540194cf7fdc9191284b9f6bca3f460901d2"), looks := false }, kinds := [], alts := [], laidByText := true, laidKinds := [.data, .pinned], laidTests := true, laidLooks := .later }
def MutfNamesUptoCardSaid : Prop := Claim7.holds Tryd.pinned (.plain (OpenSpec.upto mutfNamesSpec)) mutfNamesUptoCard

/-- THE SECOND FORM's CARD OF 'cruciblelaw1.MutfAgain'. -/
def mutfAgainUptoCard : Claim7 := { stood := { row := mutfAgainUptoRow, standIns := [], harness := (true, "ce68febcaa36f8c86df0ad819821540194cf7fdc9191284b9f6bca3f460901d2"), looks := false }, kinds := [], alts := [], laidByText := true, laidKinds := [.data, .pinned], laidTests := true, laidLooks := .later }
def MutfAgainUptoCardSaid : Prop := Claim7.holds Tryd.pinned (.plain (OpenSpec.upto mutfAgainSpec)) mutfAgainUptoCard

/-- THE SECOND FORM's CARD OF 'cruciblelaw1.MutfJoins'. -/
def mutfJoinsUptoCard : Claim7 := { stood := { row := mutfJoinsUptoRow, standIns := [], harness := (true, "ce68febcaa36f8c86df0ad819821540194cf7fdc9191284b9f6bca3f460901d2"), looks := false }, kinds := [], alts := [], laidByText := true, laidKinds := [.data, .pinned], laidTests := true, laidLooks := .later }
def MutfJoinsUptoCardSaid : Prop := Claim7.holds Tryd.pinned (.plain (OpenSpec.upto mutfJoinsSpec)) mutfJoinsUptoCard

/-- THE SECOND FORM's CARD OF 'cruciblelaw1.MutfCuts'. -/
def mutfCutsUptoCard : Claim7 := { stood := { row := mutfCutsUptoRow, standIns := [], harness := (true, "ce68febcaa36f8c86df0ad819821540194cf7fdc9191284b9f6bca3f460901d2"), looks := false }, kinds := [], alts := [], laidByText := true, laidKinds := [.data, .pinned], laidTests := true, laidLooks := .later }
def MutfCutsUptoCardSaid : Prop := Claim7.holds Tryd.pinned (.plain (OpenSpec.upto mutfCutsSpec)) mutfCutsUptoCard

/-- THE SECOND FORM's CARD OF 'cruciblelaw1.MutfRunes'. -/
def mutfRunesUptoCard : Claim7 := { stood := { row := mutfRunesUptoRow, standIns := [], harness := (true, "ce68febcaa36f8c86df0ad819821540194cf7fdc9191284b9f6bca3f460901d2"), looks := false }, kinds := [], alts := [], laidByText := true, laidKinds := [.data, .pinned], laidTests := true, laidLooks := .later }
def MutfRunesUptoCardSaid : Prop := Claim7.holds Tryd.pinned (.plain (OpenSpec.upto mutfRunesSpec)) mutfRunesUptoCard

/-- THE SECOND FORM's CARD OF 'cruciblelaw1.MutfRuns'. -/
def mutfRunsUptoCard : Claim7 := { stood := { row := mutfRunsUptoRow, standIns := [], harness := (true, "ce68febcaa36f8c86df0ad819821540194cf7fdc9191284b9f6bca3f460901d2"), looks := false }, kinds := [], alts := [], laidByText := true, laidKinds := [.data, .pinned], laidTests := true, laidLooks := .later }
def MutfRunsUptoCardSaid : Prop := Claim7.holds Tryd.pinned (.plain (OpenSpec.upto mutfRunsSpec)) mutfRunsUptoCard

/-- THE SECOND FORM's CARD OF 'cruciblelaw1.MutfMakes'. -/
def mutfMakesUptoCard : Claim7 := { stood := { row := mutfMakesUptoRow, standIns := [], harness := (true, "ce68febcaa36f8c86df0ad819821540194cf7fdc9191284b9f6bca3f460901d2"), looks := false }, kinds := [], alts := [], laidByText := true, laidKinds := [.data, .pinned], laidTests := true, laidLooks := .later }
def MutfMakesUptoCardSaid : Prop := Claim7.holds Tryd.pinned (.plain (OpenSpec.upto mutfMakesSpec)) mutfMakesUptoCard

/-- THE SECOND FORM's CARD OF 'cruciblelaw1.MutfBack'. -/
def mutfBackUptoCard : Claim7 := { stood := { row := mutfBackUptoRow, standIns := [], harness := (true, "ce68febcaa36f8c86df0ad819821540194cf7fdc9191284b9f6bca3f460901d2"), looks := false }, kinds := [], alts := [], laidByText := true, laidKinds := [.data, .pinned], laidTests := true, laidLooks := .later }
def MutfBackUptoCardSaid : Prop := Claim7.holds Tryd.pinned (.plain (OpenSpec.upto mutfBackSpec)) mutfBackUptoCard
end Rows
end Go.Proofs.YtkppjehpfjalbaaDoor
