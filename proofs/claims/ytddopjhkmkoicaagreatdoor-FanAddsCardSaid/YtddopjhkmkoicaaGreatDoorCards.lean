/-
  DERIVED. GIVEN WITH THE SEED: THE CARDS: each row of YtddopjhkmkoicaaGreatDoorRows.lean that lists a variable, with what it lists TIED to the program's text (the seventh form; the later family's looks); each row that meets fmt, with fmt's text TOLD by the authors' own Lean function (tested against real Go, not proved from fmt's source: count such statements apart). THE CARD IS WHAT COUNTS. Prove the row's statement (the work); the ties are given (YtddopjhkmkoicaaGreatDoorTie.lean); close each card by the builder's one call (the guide's Derived/Test/ToyasCard.lean, 'card_holds'). Laid BY PROGRAM, IN A SANDBOX (cutbox-door.mjs). By AI agents, Wed Nov 11 2026. No macro, syntax, notation, axiom, sorry.
-/
import Derived.Test.YtddopjhkmkoicaaGreatDoorRows
import GoSem.ClaimSeven
namespace Go.Proofs.YtddopjhkmkoicaaGreatDoor
namespace Rows

/-- THE TIED CARD OF 'granarylaw19.FanChanges'. -/
def fanChangesCard : Claim7 := { stood := { row := fanChangesRow, standIns := [], harness := (true, "cdc2d39da71e8edf345d0d0decc852c95ac1a130e828a41b8fd612e001f25b00"), looks := false }, kinds := [], alts := [], laidByText := true, laidKinds := [.data, .pinned], laidTests := true, laidLooks := .later }
def FanChangesCardSaid : Prop := Claim7.holds Tryz.pinned (.plain (OpenSpec.ofChange fanChangesSpec)) fanChangesCard

/-- THE TIED CARD OF 'granarylaw19.FanAdds'. -/
def fanAddsCard : Claim7 := { stood := { row := fanAddsRow, standIns := [], harness := (true, "cdc2d39da71e8edf345d0d0decc852c95ac1a130e828a41b8fd612e001f25b00"), looks := false }, kinds := [], alts := [], laidByText := true, laidKinds := [.data, .pinned], laidTests := true, laidLooks := .later }
def FanAddsCardSaid : Prop := Claim7.holds Tryz.pinned (.plain (OpenSpec.ofChange fanAddsSpec)) fanAddsCard

/-- THE SECOND FORM's CARD OF 'granarylaw19.FanChanges'. -/
def fanChangesUptoCard : Claim7 := { stood := { row := fanChangesUptoRow, standIns := [], harness := (true, "cdc2d39da71e8edf345d0d0decc852c95ac1a130e828a41b8fd612e001f25b00"), looks := false }, kinds := [], alts := [], laidByText := true, laidKinds := [.data, .pinned], laidTests := true, laidLooks := .later }
def FanChangesUptoCardSaid : Prop := Claim7.holds Tryz.pinned (.plain (OpenSpec.upto fanChangesSpec)) fanChangesUptoCard

/-- THE SECOND FORM's CARD OF 'granarylaw19.FanAdds'. -/
def fanAddsUptoCard : Claim7 := { stood := { row := fanAddsUptoRow, standIns := [], harness := (true, "cdc2d39da71e8edf345d0d0decc852c95ac1a130e828a41b8fd612e001f25b00"), looks := false }, kinds := [], alts := [], laidByText := true, laidKinds := [.data, .pinned], laidTests := true, laidLooks := .later }
def FanAddsUptoCardSaid : Prop := Claim7.holds Tryz.pinned (.plain (OpenSpec.upto fanAddsSpec)) fanAddsUptoCard
end Rows
end Go.Proofs.YtddopjhkmkoicaaGreatDoor
