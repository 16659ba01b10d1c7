/-
  DERIVED. GIVEN WITH THE SEED: THE CARDS: each row of YtiipocnfifahpaaGreatDoorRows.lean that lists a variable, with what it lists TIED to the program's text (the seventh form; the later family's looks); each row that meets fmt, with fmt's text TOLD by the authors' own Lean function (tested against real Go, not proved from fmt's source: count such statements apart). THE CARD IS WHAT COUNTS. Prove the row's statement (the work); the ties are given (YtiipocnfifahpaaGreatDoorTie.lean); close each card by the builder's one call (the guide's Derived/Test/ToyasCard.lean, 'card_holds'). Laid BY PROGRAM, IN A SANDBOX (cutbox-door.mjs). By AI agents, Wed Nov 11 2026. No macro, syntax, notation, axiom, sorry.
-/
import Derived.Test.YtiipocnfifahpaaGreatDoorRows
import GoSem.ClaimSeven
namespace Go.Proofs.YtiipocnfifahpaaGreatDoor
namespace Rows

/-- THE TIED CARD OF 'granarylaw20.PredBounds'. -/
def predBoundsCard : Claim7 := { stood := { row := predBoundsRow, standIns := [], harness := (true, "9be3e8eb6a14be9e12a7c24be9539cc1283edab27b079e5f9cdf1c9243072a73"), looks := false }, kinds := [], alts := [], laidByText := true, laidKinds := [.data, .pinned], laidTests := true, laidLooks := .later }
def PredBoundsCardSaid : Prop := Claim7.holds Tryz.pinned (.plain (OpenSpec.ofChange predBoundsSpec)) predBoundsCard

/-- THE TIED CARD OF 'granarylaw20.PredLogic'. -/
def predLogicCard : Claim7 := { stood := { row := predLogicRow, standIns := [], harness := (true, "9be3e8eb6a14be9e12a7c24be9539cc1283edab27b079e5f9cdf1c9243072a73"), looks := false }, kinds := [], alts := [], laidByText := true, laidKinds := [.data, .pinned], laidTests := true, laidLooks := .later }
def PredLogicCardSaid : Prop := Claim7.holds Tryz.pinned (.plain (OpenSpec.ofChange predLogicSpec)) predLogicCard

/-- THE TIED CARD OF 'granarylaw20.PredCols'. -/
def predColsCard : Claim7 := { stood := { row := predColsRow, standIns := [], harness := (true, "9be3e8eb6a14be9e12a7c24be9539cc1283edab27b079e5f9cdf1c9243072a73"), looks := false }, kinds := [], alts := [], laidByText := true, laidKinds := [.data, .pinned], laidTests := true, laidLooks := .later }
def PredColsCardSaid : Prop := Claim7.holds Tryz.pinned (.plain (OpenSpec.ofChange predColsSpec)) predColsCard

/-- THE TIED CARD OF 'granarylaw20.PredTrue'. -/
def predTrueCard : Claim7 := { stood := { row := predTrueRow, standIns := [], harness := (true, "9be3e8eb6a14be9e12a7c24be9539cc1283edab27b079e5f9cdf1c9243072a73"), looks := false }, kinds := [], alts := [], laidByText := true, laidKinds := [.data, .pinned], laidTests := true, laidLooks := .later }
def PredTrueCardSaid : Prop := Claim7.holds Tryz.pinned (.plain (OpenSpec.ofChange predTrueSpec)) predTrueCard

/-- THE SECOND FORM's CARD OF 'granarylaw20.PredBounds'. -/
def predBoundsUptoCard : Claim7 := { stood := { row := predBoundsUptoRow, standIns := [], harness := (true, "9be3e8eb6a14be9e12a7c24be9539cc1283edab27b079e5f9cdf1c9243072a73"), looks := false }, kinds := [], alts := [], laidByText := true, laidKinds := [.data, .pinned], laidTests := true, laidLooks := .later }
def PredBoundsUptoCardSaid : Prop := Claim7.holds Tryz.pinned (.plain (OpenSpec.upto predBoundsSpec)) predBoundsUptoCard

/-- THE SECOND FORM's CARD OF 'granarylaw20.PredLogic'. -/
def predLogicUptoCard : Claim7 := { stood := { row := predLogicUptoRow, standIns := [], harness := (true, "9be3e8eb6a14be9e12a7c24be9539cc1283edab27b079e5f9cdf1c9243072a73"), looks := false }, kinds := [], alts := [], laidByText := true, laidKinds := [.data, .pinned], laidTests := true, laidLooks := .later }
def PredLogicUptoCardSaid : Prop := Claim7.holds Tryz.pinned (.plain (OpenSpec.upto predLogicSpec)) predLogicUptoCard

/-- THE SECOND FORM's CARD OF 'granarylaw20.PredCols'. -/
def predColsUptoCard : Claim7 := { stood := { row := predColsUptoRow, standIns := [], harness := (true, "9be3e8eb6a14be9e12a7c24be9539cc1283edab27b079e5f9cdf1c9243072a73"), looks := false }, kinds := [], alts := [], laidByText := true, laidKinds := [.data, .pinned], laidTests := true, laidLooks := .later }
def PredColsUptoCardSaid : Prop := Claim7.holds Tryz.pinned (.plain (OpenSpec.upto predColsSpec)) predColsUptoCard

/-- THE SECOND FORM's CARD OF 'granarylaw20.PredTrue'. -/
def predTrueUptoCard : Claim7 := { stood := { row := predTrueUptoRow, standIns := [], harness := (true, "9be3e8eb6a14be9e12a7c24be9539cc1283edab27b079e5f9cdf1c9243072a73"), looks := false }, kinds := [], alts := [], laidByText := true, laidKinds := [.data, .pinned], laidTests := true, laidLooks := .later }
def PredTrueUptoCardSaid : Prop := Claim7.holds Tryz.pinned (.plain (OpenSpec.upto predTrueSpec)) predTrueUptoCard
end Rows
end Go.Proofs.YtiipocnfifahpaaGreatDoor
