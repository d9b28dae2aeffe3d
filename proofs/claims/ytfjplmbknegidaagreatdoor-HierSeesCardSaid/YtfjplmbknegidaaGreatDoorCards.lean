/-
  DERIVED. GIVEN WITH THE SEED: THE CARDS: each row of YtfjplmbknegidaaGreatDoorRows.lean that lists a variable, with what it lists TIED to the program's text (the seventh form; the later family's looks); each row that meets fmt, with fmt's text TOLD by the authors' own Lean function (tested against real Go, not proved from fmt's source: count such statements apart). THE CARD IS WHAT COUNTS. Prove the row's statement (the work); the ties are given (YtfjplmbknegidaaGreatDoorTie.lean); close each card by the builder's one call (the guide's Derived/Test/ToyasCard.lean, 'card_holds'). Laid BY PROGRAM, IN A SANDBOX (cutbox-door.mjs). By AI agents, Wed Nov 11 2026. No macro, syntax, notation, axiom, sorry.
-/
import Derived.Test.YtfjplmbknegidaaGreatDoorRows
import GoSem.ClaimSeven
namespace Go.Proofs.YtfjplmbknegidaaGreatDoor
namespace Rows

/-- THE TIED CARD OF 'cruciblelaw6.HierSubs'. -/
def hierSubsCard : Claim7 := { stood := { row := hierSubsRow, standIns := [], harness := (true, "848ee51f999053587faec26046ec5194f1f729f6dec58b39a60d3c792cca000b"), looks := false }, kinds := [], alts := [], laidByText := true, laidKinds := [.data, .pinned], laidTests := true, laidLooks := .later }
def HierSubsCardSaid : Prop := Claim7.holds Tryz.pinned (.plain (OpenSpec.ofChange hierSubsSpec)) hierSubsCard

/-- THE TIED CARD OF 'cruciblelaw6.HierOrders'. -/
def hierOrdersCard : Claim7 := { stood := { row := hierOrdersRow, standIns := [], harness := (true, "848ee51f999053587faec26046ec5194f1f729f6dec58b39a60d3c792cca000b"), looks := false }, kinds := [], alts := [], laidByText := true, laidKinds := [.data, .pinned], laidTests := true, laidLooks := .later }
def HierOrdersCardSaid : Prop := Claim7.holds Tryz.pinned (.plain (OpenSpec.ofChange hierOrdersSpec)) hierOrdersCard

/-- THE TIED CARD OF 'cruciblelaw6.HierMakes'. -/
def hierMakesCard : Claim7 := { stood := { row := hierMakesRow, standIns := [], harness := (true, "848ee51f999053587faec26046ec5194f1f729f6dec58b39a60d3c792cca000b"), looks := false }, kinds := [], alts := [], laidByText := true, laidKinds := [.data, .pinned], laidTests := true, laidLooks := .later }
def HierMakesCardSaid : Prop := Claim7.holds Tryz.pinned (.plain (OpenSpec.ofChange hierMakesSpec)) hierMakesCard

/-- THE TIED CARD OF 'cruciblelaw6.HierSees'. -/
def hierSeesCard : Claim7 := { stood := { row := hierSeesRow, standIns := [], harness := (true, "848ee51f999053587faec26046ec5194f1f729f6dec58b39a60d3c792cca000b"), looks := false }, kinds := [], alts := [], laidByText := true, laidKinds := [.data, .pinned], laidTests := true, laidLooks := .later }
def HierSeesCardSaid : Prop := Claim7.holds Tryz.pinned (.plain (OpenSpec.ofChange hierSeesSpec)) hierSeesCard

/-- THE TIED CARD OF 'cruciblelaw6.HierOrderless'. -/
def hierOrderlessCard : Claim7 := { stood := { row := hierOrderlessRow, standIns := [], harness := (true, "848ee51f999053587faec26046ec5194f1f729f6dec58b39a60d3c792cca000b"), looks := false }, kinds := [], alts := [], laidByText := true, laidKinds := [.data, .pinned], laidTests := true, laidLooks := .later }
def HierOrderlessCardSaid : Prop := Claim7.holds Tryz.pinned (.plain (OpenSpec.ofChange hierOrderlessSpec)) hierOrderlessCard

/-- THE TIED CARD OF 'cruciblelaw6.HierClosed'. -/
def hierClosedCard : Claim7 := { stood := { row := hierClosedRow, standIns := [], harness := (true, "848ee51f999053587faec26046ec5194f1f729f6dec58b39a60d3c792cca000b"), looks := false }, kinds := [], alts := [], laidByText := true, laidKinds := [.data, .pinned], laidTests := true, laidLooks := .later }
def HierClosedCardSaid : Prop := Claim7.holds Tryz.pinned (.plain (OpenSpec.ofChange hierClosedSpec)) hierClosedCard

/-- THE SECOND FORM's CARD OF 'cruciblelaw6.HierSubs'. -/
def hierSubsUptoCard : Claim7 := { stood := { row := hierSubsUptoRow, standIns := [], harness := (true, "848ee51f999053587faec26046ec5194f1f729f6dec58b39a60d3c792cca000b"), looks := false }, kinds := [], alts := [], laidByText := true, laidKinds := [.data, .pinned], laidTests := true, laidLooks := .later }
def HierSubsUptoCardSaid : Prop := Claim7.holds Tryz.pinned (.plain (OpenSpec.upto hierSubsSpec)) hierSubsUptoCard

/-- THE SECOND FORM's CARD OF 'cruciblelaw6.HierOrders'. -/
def hierOrdersUptoCard : Claim7 := { stood := { row := hierOrdersUptoRow, standIns := [], harness := (true, "848ee51f999053587faec26046ec5194f1f729f6dec58b39a60d3c792cca000b"), looks := false }, kinds := [], alts := [], laidByText := true, laidKinds := [.data, .pinned], laidTests := true, laidLooks := .later }
def HierOrdersUptoCardSaid : Prop := Claim7.holds Tryz.pinned (.plain (OpenSpec.upto hierOrdersSpec)) hierOrdersUptoCard

/-- THE SECOND FORM's CARD OF 'cruciblelaw6.HierMakes'. -/
def hierMakesUptoCard : Claim7 := { stood := { row := hierMakesUptoRow, standIns := [], harness := (true, "848ee51f999053587faec26046ec5194f1f729f6dec58b39a60d3c792cca000b"), looks := false }, kinds := [], alts := [], laidByText := true, laidKinds := [.data, .pinned], laidTests := true, laidLooks := .later }
def HierMakesUptoCardSaid : Prop := Claim7.holds Tryz.pinned (.plain (OpenSpec.upto hierMakesSpec)) hierMakesUptoCard

/-- THE SECOND FORM's CARD OF 'cruciblelaw6.HierSees'. -/
def hierSeesUptoCard : Claim7 := { stood := { row := hierSeesUptoRow, standIns := [], harness := (true, "848ee51f999053587faec26046ec5194f1f729f6dec58b39a60d3c792cca000b"), looks := false }, kinds := [], alts := [], laidByText := true, laidKinds := [.data, .pinned], laidTests := true, laidLooks := .later }
def HierSeesUptoCardSaid : Prop := Claim7.holds Tryz.pinned (.plain (OpenSpec.upto hierSeesSpec)) hierSeesUptoCard

/-- THE SECOND FORM's CARD OF 'cruciblelaw6.HierOrderless'. -/
def hierOrderlessUptoCard : Claim7 := { stood := { row := hierOrderlessUptoRow, standIns := [], harness := (true, "848ee51f999053587faec26046ec5194f1f729f6dec58b39a60d3c792cca000b"), looks := false }, kinds := [], alts := [], laidByText := true, laidKinds := [.data, .pinned], laidTests := true, laidLooks := .later }
def HierOrderlessUptoCardSaid : Prop := Claim7.holds Tryz.pinned (.plain (OpenSpec.upto hierOrderlessSpec)) hierOrderlessUptoCard

/-- THE SECOND FORM's CARD OF 'cruciblelaw6.HierClosed'. -/
def hierClosedUptoCard : Claim7 := { stood := { row := hierClosedUptoRow, standIns := [], harness := (true, "848ee51f999053587faec26046ec5194f1f729f6dec58b39a60d3c792cca000b"), looks := false }, kinds := [], alts := [], laidByText := true, laidKinds := [.data, .pinned], laidTests := true, laidLooks := .later }
def HierClosedUptoCardSaid : Prop := Claim7.holds Tryz.pinned (.plain (OpenSpec.upto hierClosedSpec)) hierClosedUptoCard
end Rows
end Go.Proofs.YtfjplmbknegidaaGreatDoor
