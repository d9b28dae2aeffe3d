/-
  DERIVED. GIVEN WITH THE SEED: THE CARDS: each row of YthpfknlgfkecpaaDoorRows.lean that lists a variable, with what it lists TIED to the program's text (the seventh form; the later family's looks); each row that meets fmt, with fmt's text TOLD by the authors' own Lean function (tested against real Go, not proved from fmt's source: count such statements apart). THE CARD IS WHAT COUNTS. Prove the row's statement (the work); the ties are given (YthpfknlgfkecpaaDoorTie.lean); close each card by the builder's one call (the guide's Derived/Test/ToyasCard.lean, 'card_holds'). Laid BY PROGRAM, IN A SANDBOX (cutbox-door.mjs). By AI agents, Wed Nov 11 2026. No macro, syntax, notation, axiom, sorry.
-/
import Derived.Test.YthpfknlgfkecpaaDoorRows
import GoSem.ClaimSeven
namespace Go.Proofs.YthpfknlgfkecpaaDoor
namespace Rows

/-- THE TIED CARD OF 'cruciblelaw2.DescCuts'. -/
def descCutsCard : Claim7 := { stood := { row := descCutsRow, standIns := [], harness := (true, "c2957430a271d1c6755bd08fa70044e6d4cb4914b4c23057c737926b2dfbe27a"), looks := false }, kinds := [], alts := [], laidByText := true, laidKinds := [.data, .pinned], laidTests := true, laidLooks := .later }
def DescCutsCardSaid : Prop := Claim7.holds Tryd.pinned (.plain (OpenSpec.ofChange descCutsSpec)) descCutsCard

/-- THE TIED CARD OF 'cruciblelaw2.DescFields'. -/
def descFieldsCard : Claim7 := { stood := { row := descFieldsRow, standIns := [], harness := (true, "c2957430a271d1c6755bd08fa70044e6d4cb4914b4c23057c737926b2dfbe27a"), looks := false }, kinds := [], alts := [], laidByText := true, laidKinds := [.data, .pinned], laidTests := true, laidLooks := .later }
def DescFieldsCardSaid : Prop := Claim7.holds Tryd.pinned (.plain (OpenSpec.ofChange descFieldsSpec)) descFieldsCard

/-- THE TIED CARD OF 'cruciblelaw2.DescArrays'. -/
def descArraysCard : Claim7 := { stood := { row := descArraysRow, standIns := [], harness := (true, "c2957430a271d1c6755bd08fa70044e6d4cb4914b4c23057c737926b2dfbe27a"), looks := false }, kinds := [], alts := [], laidByText := true, laidKinds := [.data, .pinned], laidTests := true, laidLooks := .later }
def DescArraysCardSaid : Prop := Claim7.holds Tryd.pinned (.plain (OpenSpec.ofChange descArraysSpec)) descArraysCard

/-- THE TIED CARD OF 'cruciblelaw2.DescMethods'. -/
def descMethodsCard : Claim7 := { stood := { row := descMethodsRow, standIns := [], harness := (true, "c2957430a271d1c6755bd08fa70044e6d4cb4914b4c23057c737926b2dfbe27a"), looks := false }, kinds := [], alts := [], laidByText := true, laidKinds := [.data, .pinned], laidTests := true, laidLooks := .later }
def DescMethodsCardSaid : Prop := Claim7.holds Tryd.pinned (.plain (OpenSpec.ofChange descMethodsSpec)) descMethodsCard

/-- THE TIED CARD OF 'cruciblelaw2.DescBack'. -/
def descBackCard : Claim7 := { stood := { row := descBackRow, standIns := [], harness := (true, "c2957430a271d1c6755bd08fa70044e6d4cb4914b4c23057c737926b2dfbe27a"), looks := false }, kinds := [], alts := [], laidByText := true, laidKinds := [.data, .pinned], laidTests := true, laidLooks := .later }
def DescBackCardSaid : Prop := Claim7.holds Tryd.pinned (.plain (OpenSpec.ofChange descBackSpec)) descBackCard

/-- THE TIED CARD OF 'cruciblelaw2.DescParts'. -/
def descPartsCard : Claim7 := { stood := { row := descPartsRow, standIns := [], harness := (true, "c2957430a271d1c6755bd08fa70044e6d4cb4914b4c23057c737926b2dfbe27a"), looks := false }, kinds := [], alts := [], laidByText := true, laidKinds := [.data, .pinned], laidTests := true, laidLooks := .later }
def DescPartsCardSaid : Prop := Claim7.holds Tryd.pinned (.plain (OpenSpec.ofChange descPartsSpec)) descPartsCard

/-- THE TIED CARD OF 'cruciblelaw3.FileWrites'. -/
def fileWritesCard : Claim7 := { stood := { row := fileWritesRow, standIns := [], harness := (true, "c2957430a271d1c6755bd08fa70044e6d4cb4914b4c23057c737926b2dfbe27a"), looks := false }, kinds := [], alts := [], laidByText := true, laidKinds := [.data, .pinned], laidTests := true, laidLooks := .later }
def FileWritesCardSaid : Prop := Claim7.holds Tryd.pinned (.plain (OpenSpec.ofChange fileWritesSpec)) fileWritesCard

/-- THE TIED CARD OF 'cruciblelaw3.FileGrows'. -/
def fileGrowsCard : Claim7 := { stood := { row := fileGrowsRow, standIns := [], harness := (true, "c2957430a271d1c6755bd08fa70044e6d4cb4914b4c23057c737926b2dfbe27a"), looks := false }, kinds := [], alts := [], laidByText := true, laidKinds := [.data, .pinned], laidTests := true, laidLooks := .later }
def FileGrowsCardSaid : Prop := Claim7.holds Tryd.pinned (.plain (OpenSpec.ofChange fileGrowsSpec)) fileGrowsCard

/-- THE TIED CARD OF 'cruciblelaw3.FileNames'. -/
def fileNamesCard : Claim7 := { stood := { row := fileNamesRow, standIns := [], harness := (true, "c2957430a271d1c6755bd08fa70044e6d4cb4914b4c23057c737926b2dfbe27a"), looks := false }, kinds := [], alts := [], laidByText := true, laidKinds := [.data, .pinned], laidTests := true, laidLooks := .later }
def FileNamesCardSaid : Prop := Claim7.holds Tryd.pinned (.plain (OpenSpec.ofChange fileNamesSpec)) fileNamesCard

/-- THE TIED CARD OF 'cruciblelaw3.FileFinds'. -/
def fileFindsCard : Claim7 := { stood := { row := fileFindsRow, standIns := [], harness := (true, "c2957430a271d1c6755bd08fa70044e6d4cb4914b4c23057c737926b2dfbe27a"), looks := false }, kinds := [], alts := [], laidByText := true, laidKinds := [.data, .pinned], laidTests := true, laidLooks := .later }
def FileFindsCardSaid : Prop := Claim7.holds Tryd.pinned (.plain (OpenSpec.ofChange fileFindsSpec)) fileFindsCard

/-- THE TIED CARD OF 'cruciblelaw3.FileBack'. -/
def fileBackCard : Claim7 := { stood := { row := fileBackRow, standIns := [], harness := (true, "c2957430a271d1c6755bd08fa70044e6d4cb4914b4c23057c737926b2dfbe27a"), looks := false }, kinds := [], alts := [], laidByText := true, laidKinds := [.data, .pinned], laidTests := true, laidLooks := .later }
def FileBackCardSaid : Prop := Claim7.holds Tryd.pinned (.plain (OpenSpec.ofChange fileBackSpec)) fileBackCard

/-- THE TIED CARD OF 'cruciblelaw3.FileAgain'. -/
def fileAgainCard : Claim7 := { stood := { row := fileAgainRow, standIns := [], harness := (true, "c2957430a271d1c6755bd08fa70044e6d4cb4914b4c23057c737926b2dfbe27a"), looks := false }, kinds := [], alts := [], laidByText := true, laidKinds := [.data, .pinned], laidTests := true, laidLooks := .later }
def FileAgainCardSaid : Prop := Claim7.holds Tryd.pinned (.plain (OpenSpec.ofChange fileAgainSpec)) fileAgainCard

/-- THE TIED CARD OF 'cruciblelaw3.FileTurns'. -/
def fileTurnsCard : Claim7 := { stood := { row := fileTurnsRow, standIns := [], harness := (true, "c2957430a271d1c6755bd08fa70044e6d4cb4914b4c23057c737926b2dfbe27a"), looks := false }, kinds := [], alts := [], laidByText := true, laidKinds := [.data, .pinned], laidTests := true, laidLooks := .later }
def FileTurnsCardSaid : Prop := Claim7.holds Tryd.pinned (.plain (OpenSpec.ofChange fileTurnsSpec)) fileTurnsCard

/-- THE SECOND FORM's CARD OF 'cruciblelaw2.DescCuts'. -/
def descCutsUptoCard : Claim7 := { stood := { row := descCutsUptoRow, standIns := [], harness := (true, "c2957430a271d1c6755bd08fa70044e6d4cb4914b4c23057c737926b2dfbe27a"), looks := false }, kinds := [], alts := [], laidByText := true, laidKinds := [.data, .pinned], laidTests := true, laidLooks := .later }
def DescCutsUptoCardSaid : Prop := Claim7.holds Tryd.pinned (.plain (OpenSpec.upto descCutsSpec)) descCutsUptoCard

/-- THE SECOND FORM's CARD OF 'cruciblelaw2.DescFields'. -/
def descFieldsUptoCard : Claim7 := { stood := { row := descFieldsUptoRow, standIns := [], harness := (true, "c2957430a271d1c6755bd08fa70044e6d4cb4914b4c23057c737926b2dfbe27a"), looks := false }, kinds := [], alts := [], laidByText := true, laidKinds := [.data, .pinned], laidTests := true, laidLooks := .later }
def DescFieldsUptoCardSaid : Prop := Claim7.holds Tryd.pinned (.plain (OpenSpec.upto descFieldsSpec)) descFieldsUptoCard

/-- THE SECOND FORM's CARD OF 'cruciblelaw2.DescArrays'. -/
def descArraysUptoCard : Claim7 := { stood := { row := descArraysUptoRow, standIns := [], harness := (true, "c2957430a271d1c6755bd08fa70044e6d4cb4914b4c23057c737926b2dfbe27a"), looks := false }, kinds := [], alts := [], laidByText := true, laidKinds := [.data, .pinned], laidTests := true, laidLooks := .later }
def DescArraysUptoCardSaid : Prop := Claim7.holds Tryd.pinned (.plain (OpenSpec.upto descArraysSpec)) descArraysUptoCard

/-- THE SECOND FORM's CARD OF 'cruciblelaw2.DescMethods'. -/
def descMethodsUptoCard : Claim7 := { stood := { row := descMethodsUptoRow, standIns := [], harness := (true, "c2957430a271d1c6755bd08fa70044e6d4cb4914b4c23057c737926b2dfbe27a"), looks := false }, kinds := [], alts := [], laidByText := true, laidKinds := [.data, .pinned], laidTests := true, laidLooks := .later }
def DescMethodsUptoCardSaid : Prop := Claim7.holds Tryd.pinned (.plain (OpenSpec.upto descMethodsSpec)) descMethodsUptoCard

/-- THE SECOND FORM's CARD OF 'cruciblelaw2.DescBack'. -/
def descBackUptoCard : Claim7 := { stood := { row := descBackUptoRow, standIns := [], harness := (true, "c2957430a271d1c6755bd08fa70044e6d4cb4914b4c23057c737926b2dfbe27a"), looks := false }, kinds := [], alts := [], laidByText := true, laidKinds := [.data, .pinned], laidTests := true, laidLooks := .later }
def DescBackUptoCardSaid : Prop := Claim7.holds Tryd.pinned (.plain (OpenSpec.upto descBackSpec)) descBackUptoCard

/-- THE SECOND FORM's CARD OF 'cruciblelaw2.DescParts'. -/
def descPartsUptoCard : Claim7 := { stood := { row := descPartsUptoRow, standIns := [], harness := (true, "c2957430a271d1c6755bd08fa70044e6d4cb4914b4c23057c737926b2dfbe27a"), looks := false }, kinds := [], alts := [], laidByText := true, laidKinds := [.data, .pinned], laidTests := true, laidLooks := .later }
def DescPartsUptoCardSaid : Prop := Claim7.holds Tryd.pinned (.plain (OpenSpec.upto descPartsSpec)) descPartsUptoCard

/-- THE SECOND FORM's CARD OF 'cruciblelaw3.FileWrites'. -/
def fileWritesUptoCard : Claim7 := { stood := { row := fileWritesUptoRow, standIns := [], harness := (true, "c2957430a271d1c6755bd08fa70044e6d4cb4914b4c23057c737926b2dfbe27a"), looks := false }, kinds := [], alts := [], laidByText := true, laidKinds := [.data, .pinned], laidTests := true, laidLooks := .later }
def FileWritesUptoCardSaid : Prop := Claim7.holds Tryd.pinned (.plain (OpenSpec.upto fileWritesSpec)) fileWritesUptoCard

/-- THE SECOND FORM's CARD OF 'cruciblelaw3.FileGrows'. -/
def fileGrowsUptoCard : Claim7 := { stood := { row := fileGrowsUptoRow, standIns := [], harness := (true, "c2957430a271d1c6755bd08fa70044e6d4cb4914b4c23057c737926b2dfbe27a"), looks := false }, kinds := [], alts := [], laidByText := true, laidKinds := [.data, .pinned], laidTests := true, laidLooks := .later }
def FileGrowsUptoCardSaid : Prop := Claim7.holds Tryd.pinned (.plain (OpenSpec.upto fileGrowsSpec)) fileGrowsUptoCard

/-- THE SECOND FORM's CARD OF 'cruciblelaw3.FileNames'. -/
def fileNamesUptoCard : Claim7 := { stood := { row := fileNamesUptoRow, standIns := [], harness := (true, "c2957430a271d1c6755bd08fa70044e6d4cb4914b4c23057c737926b2dfbe27a"), looks := false }, kinds := [], alts := [], laidByText := true, laidKinds := [.data, .pinned], laidTests := true, laidLooks := .later }
def FileNamesUptoCardSaid : Prop := Claim7.holds Tryd.pinned (.plain (OpenSpec.upto fileNamesSpec)) fileNamesUptoCard

/-- THE SECOND FORM's CARD OF 'cruciblelaw3.FileFinds'. -/
def fileFindsUptoCard : Claim7 := { stood := { row := fileFindsUptoRow, standIns := [], harness := (true, "c2957430a271d1c6755bd08fa70044e6d4cb4914b4c23057c737926b2dfbe27a"), looks := false }, kinds := [], alts := [], laidByText := true, laidKinds := [.data, .pinned], laidTests := true, laidLooks := .later }
def FileFindsUptoCardSaid : Prop := Claim7.holds Tryd.pinned (.plain (OpenSpec.upto fileFindsSpec)) fileFindsUptoCard

/-- THE SECOND FORM's CARD OF 'cruciblelaw3.FileBack'. -/
def fileBackUptoCard : Claim7 := { stood := { row := fileBackUptoRow, standIns := [], harness := (true, "c2957430a271d1c6755bd08fa70044e6d4cb4914b4c23057c737926b2dfbe27a"), looks := false }, kinds := [], alts := [], laidByText := true, laidKinds := [.data, .pinned], laidTests := true, laidLooks := .later }
def FileBackUptoCardSaid : Prop := Claim7.holds Tryd.pinned (.plain (OpenSpec.upto fileBackSpec)) fileBackUptoCard

/-- THE SECOND FORM's CARD OF 'cruciblelaw3.FileAgain'. -/
def fileAgainUptoCard : Claim7 := { stood := { row := fileAgainUptoRow, standIns := [], harness := (true, "c2957430a271d1c6755bd08fa70044e6d4cb4914b4c23057c737926b2dfbe27a"), looks := false }, kinds := [], alts := [], laidByText := true, laidKinds := [.data, .pinned], laidTests := true, laidLooks := .later }
def FileAgainUptoCardSaid : Prop := Claim7.holds Tryd.pinned (.plain (OpenSpec.upto fileAgainSpec)) fileAgainUptoCard

/-- THE SECOND FORM's CARD OF 'cruciblelaw3.FileTurns'. -/
def fileTurnsUptoCard : Claim7 := { stood := { row := fileTurnsUptoRow, standIns := [], harness := (true, "c2957430a271d1c6755bd08fa70044e6d4cb4914b4c23057c737926b2dfbe27a"), looks := false }, kinds := [], alts := [], laidByText := true, laidKinds := [.data, .pinned], laidTests := true, laidLooks := .later }
def FileTurnsUptoCardSaid : Prop := Claim7.holds Tryd.pinned (.plain (OpenSpec.upto fileTurnsSpec)) fileTurnsUptoCard
end Rows
end Go.Proofs.YthpfknlgfkecpaaDoor
