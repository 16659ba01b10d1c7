/-
  DERIVED. GIVEN WITH THE SEED: THE CARDS: each row of YtnlnojicpchmiaaDoorRows.lean that lists a variable, with what it lists TIED to the program's text (the seventh form; the later family's looks); each row that meets fmt, with fmt's text TOLD by the authors' own Lean function (tested against real Go, not proved from fmt's source: count such statements apart). THE CARD IS WHAT COUNTS. Prove the row's statement (the work); the ties are given (YtnlnojicpchmiaaDoorTie.lean); close each card by the builder's one call (the guide's Derived/Test/ToyasCard.lean, 'card_holds'). Laid BY PROGRAM, IN A SANDBOX (cutbox-door.mjs). By AI agents, Wed Nov 11 2026. No macro, syntax, notation, axiom, sorry.
-/
import Derived.Test.YtnlnojicpchmiaaDoorRows
import GoSem.ClaimSeven
namespace Go.Proofs.YtnlnojicpchmiaaDoor
namespace Rows

/-- THE TIED CARD OF 'granarylaw07.KeyAll'. -/
def keyAllCard : Claim7 := { stood := { row := keyAllRow, standIns := [], harness := (true, "241fc335b01e2204cfdea6983aa5b77b6e432a9d54409f881f9152093d6dea3a"), looks := false }, kinds := [], alts := [], laidByText := true, laidKinds := [.data, .pinned], laidTests := true, laidLooks := .later }
def KeyAllCardSaid : Prop := Claim7.holds Tryd.pinned (.plain (OpenSpec.ofChange keyAllSpec)) keyAllCard

/-- THE TIED CARD OF 'granarylaw07.KeyBack'. -/
def keyBackCard : Claim7 := { stood := { row := keyBackRow, standIns := [], harness := (true, "241fc335b01e2204cfdea6983aa5b77b6e432a9d54409f881f9152093d6dea3a"), looks := false }, kinds := [], alts := [], laidByText := true, laidKinds := [.data, .pinned], laidTests := true, laidLooks := .later }
def KeyBackCardSaid : Prop := Claim7.holds Tryd.pinned (.plain (OpenSpec.ofChange keyBackSpec)) keyBackCard

/-- THE TIED CARD OF 'granarylaw07.KeyFree'. -/
def keyFreeCard : Claim7 := { stood := { row := keyFreeRow, standIns := [], harness := (true, "241fc335b01e2204cfdea6983aa5b77b6e432a9d54409f881f9152093d6dea3a"), looks := false }, kinds := [], alts := [], laidByText := true, laidKinds := [.data, .pinned], laidTests := true, laidLooks := .later }
def KeyFreeCardSaid : Prop := Claim7.holds Tryd.pinned (.plain (OpenSpec.ofChange keyFreeSpec)) keyFreeCard

/-- THE TIED CARD OF 'granarylaw07.KeySpans'. -/
def keySpansCard : Claim7 := { stood := { row := keySpansRow, standIns := [], harness := (true, "241fc335b01e2204cfdea6983aa5b77b6e432a9d54409f881f9152093d6dea3a"), looks := false }, kinds := [], alts := [], laidByText := true, laidKinds := [.data, .pinned], laidTests := true, laidLooks := .later }
def KeySpansCardSaid : Prop := Claim7.holds Tryd.pinned (.plain (OpenSpec.ofChange keySpansSpec)) keySpansCard

/-- THE TIED CARD OF 'granarylaw07.KeyUnder'. -/
def keyUnderCard : Claim7 := { stood := { row := keyUnderRow, standIns := [], harness := (true, "241fc335b01e2204cfdea6983aa5b77b6e432a9d54409f881f9152093d6dea3a"), looks := false }, kinds := [], alts := [], laidByText := true, laidKinds := [.data, .pinned], laidTests := true, laidLooks := .later }
def KeyUnderCardSaid : Prop := Claim7.holds Tryd.pinned (.plain (OpenSpec.ofChange keyUnderSpec)) keyUnderCard

/-- THE TIED CARD OF 'granarylaw07.KeyOrder'. -/
def keyOrderCard : Claim7 := { stood := { row := keyOrderRow, standIns := [], harness := (true, "241fc335b01e2204cfdea6983aa5b77b6e432a9d54409f881f9152093d6dea3a"), looks := false }, kinds := [], alts := [], laidByText := true, laidKinds := [.data, .pinned], laidTests := true, laidLooks := .later }
def KeyOrderCardSaid : Prop := Claim7.holds Tryd.pinned (.plain (OpenSpec.ofChange keyOrderSpec)) keyOrderCard

/-- THE SECOND FORM's CARD OF 'granarylaw07.KeyAll'. -/
def keyAllUptoCard : Claim7 := { stood := { row := keyAllUptoRow, standIns := [], harness := (true, "241fc335b01e2204cfdea6983aa5b77b6e432a9d54409f881f9152093d6dea3a"), looks := false }, kinds := [], alts := [], laidByText := true, laidKinds := [.data, .pinned], laidTests := true, laidLooks := .later }
def KeyAllUptoCardSaid : Prop := Claim7.holds Tryd.pinned (.plain (OpenSpec.upto keyAllSpec)) keyAllUptoCard

/-- THE SECOND FORM's CARD OF 'granarylaw07.KeyBack'. -/
def keyBackUptoCard : Claim7 := { stood := { row := keyBackUptoRow, standIns := [], harness := (true, "241fc335b01e2204cfdea6983aa5b77b6e432a9d54409f881f9152093d6dea3a"), looks := false }, kinds := [], alts := [], laidByText := true, laidKinds := [.data, .pinned], laidTests := true, laidLooks := .later }
def KeyBackUptoCardSaid : Prop := Claim7.holds Tryd.pinned (.plain (OpenSpec.upto keyBackSpec)) keyBackUptoCard

/-- THE SECOND FORM's CARD OF 'granarylaw07.KeyFree'. -/
def keyFreeUptoCard : Claim7 := { stood := { row := keyFreeUptoRow, standIns := [], harness := (true, "241fc335b01e2204cfdea6983aa5b77b6e432a9d54409f881f9152093d6dea3a"), looks := false }, kinds := [], alts := [], laidByText := true, laidKinds := [.data, .pinned], laidTests := true, laidLooks := .later }
def KeyFreeUptoCardSaid : Prop := Claim7.holds Tryd.pinned (.plain (OpenSpec.upto keyFreeSpec)) keyFreeUptoCard

/-- THE SECOND FORM's CARD OF 'granarylaw07.KeySpans'. -/
def keySpansUptoCard : Claim7 := { stood := { row := keySpansUptoRow, standIns := [], harness := (true, "241fc335b01e2204cfdea6983aa5b77b6e432a9d54409f881f9152093d6dea3a"), looks := false }, kinds := [], alts := [], laidByText := true, laidKinds := [.data, .pinned], laidTests := true, laidLooks := .later }
def KeySpansUptoCardSaid : Prop := Claim7.holds Tryd.pinned (.plain (OpenSpec.upto keySpansSpec)) keySpansUptoCard

/-- THE SECOND FORM's CARD OF 'granarylaw07.KeyUnder'. -/
def keyUnderUptoCard : Claim7 := { stood := { row := keyUnderUptoRow, standIns := [], harness := (true, "241fc335b01e2204cfdea6983aa5b77b6e432a9d54409f881f9152093d6dea3a"), looks := false }, kinds := [], alts := [], laidByText := true, laidKinds := [.data, .pinned], laidTests := true, laidLooks := .later }
def KeyUnderUptoCardSaid : Prop := Claim7.holds Tryd.pinned (.plain (OpenSpec.upto keyUnderSpec)) keyUnderUptoCard

/-- THE SECOND FORM's CARD OF 'granarylaw07.KeyOrder'. -/
def keyOrderUptoCard : Claim7 := { stood := { row := keyOrderUptoRow, standIns := [], harness := (true, "241fc335b01e2204cfdea6983aa5b77b6e432a9d54409f881f9152093d6dea3a"), looks := false }, kinds := [], alts := [], laidByText := true, laidKinds := [.data, .pinned], laidTests := true, laidLooks := .later }
def KeyOrderUptoCardSaid : Prop := Claim7.holds Tryd.pinned (.plain (OpenSpec.upto keyOrderSpec)) keyOrderUptoCard
end Rows
end Go.Proofs.YtnlnojicpchmiaaDoor
