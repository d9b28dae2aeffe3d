/-
  DERIVED. GIVEN WITH THE SEED: THE CARDS: each row of YtokkpdjbgaicmaaDoorRows.lean that lists a variable, with what it lists TIED to the program's text (the seventh form; the later family's looks); each row that meets fmt, with fmt's text TOLD by the authors' own Lean function (tested against real Go, not proved from fmt's source: count such statements apart). THE CARD IS WHAT COUNTS. Prove the row's statement (the work); the ties are given (YtokkpdjbgaicmaaDoorTie.lean); close each card by the builder's one call (the guide's Derived/Test/ToyasCard.lean, 'card_holds'). Laid BY PROGRAM, IN A SANDBOX (cutbox-door.mjs). By AI agents, Wed Nov 11 2026. No macro, syntax, notation, axiom, sorry.
-/
import Derived.Test.YtokkpdjbgaicmaaDoorRows
import GoSem.ClaimSeven
namespace Go.Proofs.YtokkpdjbgaicmaaDoor
namespace Rows

/-- THE TIED CARD OF 'cruciblelaw16.StrtabPlays'. -/
def strtabPlaysCard : Claim7 := { stood := { row := strtabPlaysRow, standIns := [], harness := (true, "3e87b35d6334be1fa25c5f5d8e4427e5b11224d965f53aa63f601d0c73de5bf7"), looks := false }, kinds := [], alts := [], laidByText := true, laidKinds := [.data, .pinned], laidTests := true, laidLooks := .later }
def StrtabPlaysCardSaid : Prop := Claim7.holds Tryd.pinned (.plain (OpenSpec.ofChange strtabPlaysSpec)) strtabPlaysCard

/-- THE TIED CARD OF 'cruciblelaw16.StrtabKeeps'. -/
def strtabKeepsCard : Claim7 := { stood := { row := strtabKeepsRow, standIns := [], harness := (true, "3e87b35d6334be1fa25c5f5d8e4427e5b11224d965f53aa63f601d0c73de5bf7"), looks := false }, kinds := [], alts := [], laidByText := true, laidKinds := [.data, .pinned], laidTests := true, laidLooks := .later }
def StrtabKeepsCardSaid : Prop := Claim7.holds Tryd.pinned (.plain (OpenSpec.ofChange strtabKeepsSpec)) strtabKeepsCard

/-- THE SECOND FORM's CARD OF 'cruciblelaw16.StrtabPlays'. -/
def strtabPlaysUptoCard : Claim7 := { stood := { row := strtabPlaysUptoRow, standIns := [], harness := (true, "3e87b35d6334be1fa25c5f5d8e4427e5b11224d965f53aa63f601d0c73de5bf7"), looks := false }, kinds := [], alts := [], laidByText := true, laidKinds := [.data, .pinned], laidTests := true, laidLooks := .later }
def StrtabPlaysUptoCardSaid : Prop := Claim7.holds Tryd.pinned (.plain (OpenSpec.upto strtabPlaysSpec)) strtabPlaysUptoCard

/-- THE SECOND FORM's CARD OF 'cruciblelaw16.StrtabKeeps'. -/
def strtabKeepsUptoCard : Claim7 := { stood := { row := strtabKeepsUptoRow, standIns := [], harness := (true, "3e87b35d6334be1fa25c5f5d8e4427e5b11224d965f53aa63f601d0c73de5bf7"), looks := false }, kinds := [], alts := [], laidByText := true, laidKinds := [.data, .pinned], laidTests := true, laidLooks := .later }
def StrtabKeepsUptoCardSaid : Prop := Claim7.holds Tryd.pinned (.plain (OpenSpec.upto strtabKeepsSpec)) strtabKeepsUptoCard
end Rows
end Go.Proofs.YtokkpdjbgaicmaaDoor
