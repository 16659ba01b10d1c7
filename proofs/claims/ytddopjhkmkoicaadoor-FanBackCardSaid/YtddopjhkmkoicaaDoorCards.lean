/-
  DERIVED. GIVEN WITH THE SEED: THE CARDS: each row of YtddopjhkmkoicaaDoorRows.lean that lists a variable, with what it lists TIED to the program's text (the seventh form; the later family's looks); each row that meets fmt, with fmt's text TOLD by the authors' own Lean function (tested against real Go, not proved from fmt's source: count such statements apart). THE CARD IS WHAT COUNTS. Prove the row's statement (the work); the ties are given (YtddopjhkmkoicaaDoorTie.lean); close each card by the builder's one call (the guide's Derived/Test/ToyasCard.lean, 'card_holds'). Laid BY PROGRAM, IN A SANDBOX (cutbox-door.mjs). By AI agents, Wed Nov 11 2026. No macro, syntax, notation, axiom, sorry.
-/
import Derived.Test.YtddopjhkmkoicaaDoorRows
import GoSem.ClaimSeven
namespace Go.Proofs.YtddopjhkmkoicaaDoor
namespace Rows

/-- THE TIED CARD OF 'granarylaw19.FanHolds'. -/
def fanHoldsCard : Claim7 := { stood := { row := fanHoldsRow, standIns := [], harness := (true, "3c01a0081ccbb60531ca1e499880e64496bc66153e222105b4c756a7c3ead9d5"), looks := false }, kinds := [], alts := [], laidByText := true, laidKinds := [.data, .pinned], laidTests := true, laidLooks := .later }
def FanHoldsCardSaid : Prop := Claim7.holds Tryd.pinned (.plain (OpenSpec.ofChange fanHoldsSpec)) fanHoldsCard

/-- THE TIED CARD OF 'granarylaw19.FanBack'. -/
def fanBackCard : Claim7 := { stood := { row := fanBackRow, standIns := [], harness := (true, "3c01a0081ccbb60531ca1e499880e64496bc66153e222105b4c756a7c3ead9d5"), looks := false }, kinds := [], alts := [], laidByText := true, laidKinds := [.data, .pinned], laidTests := true, laidLooks := .later }
def FanBackCardSaid : Prop := Claim7.holds Tryd.pinned (.plain (OpenSpec.ofChange fanBackSpec)) fanBackCard

/-- THE TIED CARD OF 'granarylaw19.FanLocks'. -/
def fanLocksCard : Claim7 := { stood := { row := fanLocksRow, standIns := [], harness := (true, "3c01a0081ccbb60531ca1e499880e64496bc66153e222105b4c756a7c3ead9d5"), looks := false }, kinds := [], alts := [], laidByText := true, laidKinds := [.data, .pinned], laidTests := true, laidLooks := .later }
def FanLocksCardSaid : Prop := Claim7.holds Tryd.pinned (.plain (OpenSpec.ofChange fanLocksSpec)) fanLocksCard

/-- THE SECOND FORM's CARD OF 'granarylaw19.FanHolds'. -/
def fanHoldsUptoCard : Claim7 := { stood := { row := fanHoldsUptoRow, standIns := [], harness := (true, "3c01a0081ccbb60531ca1e499880e64496bc66153e222105b4c756a7c3ead9d5"), looks := false }, kinds := [], alts := [], laidByText := true, laidKinds := [.data, .pinned], laidTests := true, laidLooks := .later }
def FanHoldsUptoCardSaid : Prop := Claim7.holds Tryd.pinned (.plain (OpenSpec.upto fanHoldsSpec)) fanHoldsUptoCard

/-- THE SECOND FORM's CARD OF 'granarylaw19.FanBack'. -/
def fanBackUptoCard : Claim7 := { stood := { row := fanBackUptoRow, standIns := [], harness := (true, "3c01a0081ccbb60531ca1e499880e64496bc66153e222105b4c756a7c3ead9d5"), looks := false }, kinds := [], alts := [], laidByText := true, laidKinds := [.data, .pinned], laidTests := true, laidLooks := .later }
def FanBackUptoCardSaid : Prop := Claim7.holds Tryd.pinned (.plain (OpenSpec.upto fanBackSpec)) fanBackUptoCard

/-- THE SECOND FORM's CARD OF 'granarylaw19.FanLocks'. -/
def fanLocksUptoCard : Claim7 := { stood := { row := fanLocksUptoRow, standIns := [], harness := (true, "3c01a0081ccbb60531ca1e499880e64496bc66153e222105b4c756a7c3ead9d5"), looks := false }, kinds := [], alts := [], laidByText := true, laidKinds := [.data, .pinned], laidTests := true, laidLooks := .later }
def FanLocksUptoCardSaid : Prop := Claim7.holds Tryd.pinned (.plain (OpenSpec.upto fanLocksSpec)) fanLocksUptoCard
end Rows
end Go.Proofs.YtddopjhkmkoicaaDoor
