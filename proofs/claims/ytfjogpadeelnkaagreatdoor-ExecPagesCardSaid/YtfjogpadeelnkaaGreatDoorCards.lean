/-
  DERIVED. GIVEN WITH THE SEED: THE CARDS: each row of YtfjogpadeelnkaaGreatDoorRows.lean that lists a variable, with what it lists TIED to the program's text (the seventh form; the later family's looks); each row that meets fmt, with fmt's text TOLD by the authors' own Lean function (tested against real Go, not proved from fmt's source: count such statements apart). THE CARD IS WHAT COUNTS. Prove the row's statement (the work); the ties are given (YtfjogpadeelnkaaGreatDoorTie.lean); close each card by the builder's one call (the guide's Derived/Test/ToyasCard.lean, 'card_holds'). Laid BY PROGRAM, IN A SANDBOX (cutbox-door.mjs). By AI agents, Wed Nov 11 2026. No macro, syntax, notation, axiom, sorry.
-/
import Derived.Test.YtfjogpadeelnkaaGreatDoorRows
import GoSem.ClaimSeven
namespace Go.Proofs.YtfjogpadeelnkaaGreatDoor
namespace Rows

/-- THE TIED CARD OF 'granarylaw22.ExecRows'. -/
def execRowsCard : Claim7 := { stood := { row := execRowsRow, standIns := [], harness := (true, "29b566599dff09b65640541cc3542fc6541789db475c58ea4f7ad84639c894b6"), looks := true }, kinds := [], alts := [], laidByText := true, laidKinds := [.data, .pinned], laidTests := true, laidLooks := .later }
def ExecRowsCardSaid : Prop := Claim7.holds Tryz.pinned (.plain (OpenSpec.ofChange execRowsSpec)) execRowsCard

/-- THE TIED CARD OF 'granarylaw22.ExecErrors'. -/
def execErrorsCard : Claim7 := { stood := { row := execErrorsRow, standIns := [], harness := (true, "29b566599dff09b65640541cc3542fc6541789db475c58ea4f7ad84639c894b6"), looks := true }, kinds := [], alts := [], laidByText := true, laidKinds := [.data, .pinned], laidTests := true, laidLooks := .later }
def ExecErrorsCardSaid : Prop := Claim7.holds Tryz.pinned (.plain (OpenSpec.ofChange execErrorsSpec)) execErrorsCard

/-- THE TIED CARD OF 'granarylaw22.ExecPages'. -/
def execPagesCard : Claim7 := { stood := { row := execPagesRow, standIns := [], harness := (true, "29b566599dff09b65640541cc3542fc6541789db475c58ea4f7ad84639c894b6"), looks := true }, kinds := [], alts := [], laidByText := true, laidKinds := [.data, .pinned], laidTests := true, laidLooks := .later }
def ExecPagesCardSaid : Prop := Claim7.holds Tryz.pinned (.plain (OpenSpec.ofChange execPagesSpec)) execPagesCard

/-- THE TIED CARD OF 'granarylaw22.ExecAlike'. -/
def execAlikeCard : Claim7 := { stood := { row := execAlikeRow, standIns := [], harness := (true, "29b566599dff09b65640541cc3542fc6541789db475c58ea4f7ad84639c894b6"), looks := true }, kinds := [], alts := [], laidByText := true, laidKinds := [.data, .pinned], laidTests := true, laidLooks := .later }
def ExecAlikeCardSaid : Prop := Claim7.holds Tryz.pinned (.plain (OpenSpec.ofChange execAlikeSpec)) execAlikeCard

/-- THE TIED CARD OF 'granarylaw22.ExecOrders'. -/
def execOrdersCard : Claim7 := { stood := { row := execOrdersRow, standIns := [], harness := (true, "29b566599dff09b65640541cc3542fc6541789db475c58ea4f7ad84639c894b6"), looks := true }, kinds := [], alts := [], laidByText := true, laidKinds := [.data, .pinned], laidTests := true, laidLooks := .later }
def ExecOrdersCardSaid : Prop := Claim7.holds Tryz.pinned (.plain (OpenSpec.ofChange execOrdersSpec)) execOrdersCard

/-- THE SECOND FORM's CARD OF 'granarylaw22.ExecRows'. -/
def execRowsUptoCard : Claim7 := { stood := { row := execRowsUptoRow, standIns := [], harness := (true, "29b566599dff09b65640541cc3542fc6541789db475c58ea4f7ad84639c894b6"), looks := true }, kinds := [], alts := [], laidByText := true, laidKinds := [.data, .pinned], laidTests := true, laidLooks := .later }
def ExecRowsUptoCardSaid : Prop := Claim7.holds Tryz.pinned (.plain (OpenSpec.upto execRowsSpec)) execRowsUptoCard

/-- THE SECOND FORM's CARD OF 'granarylaw22.ExecErrors'. -/
def execErrorsUptoCard : Claim7 := { stood := { row := execErrorsUptoRow, standIns := [], harness := (true, "29b566599dff09b65640541cc3542fc6541789db475c58ea4f7ad84639c894b6"), looks := true }, kinds := [], alts := [], laidByText := true, laidKinds := [.data, .pinned], laidTests := true, laidLooks := .later }
def ExecErrorsUptoCardSaid : Prop := Claim7.holds Tryz.pinned (.plain (OpenSpec.upto execErrorsSpec)) execErrorsUptoCard

/-- THE SECOND FORM's CARD OF 'granarylaw22.ExecPages'. -/
def execPagesUptoCard : Claim7 := { stood := { row := execPagesUptoRow, standIns := [], harness := (true, "29b566599dff09b65640541cc3542fc6541789db475c58ea4f7ad84639c894b6"), looks := true }, kinds := [], alts := [], laidByText := true, laidKinds := [.data, .pinned], laidTests := true, laidLooks := .later }
def ExecPagesUptoCardSaid : Prop := Claim7.holds Tryz.pinned (.plain (OpenSpec.upto execPagesSpec)) execPagesUptoCard

/-- THE SECOND FORM's CARD OF 'granarylaw22.ExecAlike'. -/
def execAlikeUptoCard : Claim7 := { stood := { row := execAlikeUptoRow, standIns := [], harness := (true, "29b566599dff09b65640541cc3542fc6541789db475c58ea4f7ad84639c894b6"), looks := true }, kinds := [], alts := [], laidByText := true, laidKinds := [.data, .pinned], laidTests := true, laidLooks := .later }
def ExecAlikeUptoCardSaid : Prop := Claim7.holds Tryz.pinned (.plain (OpenSpec.upto execAlikeSpec)) execAlikeUptoCard

/-- THE SECOND FORM's CARD OF 'granarylaw22.ExecOrders'. -/
def execOrdersUptoCard : Claim7 := { stood := { row := execOrdersUptoRow, standIns := [], harness := (true, "29b566599dff09b65640541cc3542fc6541789db475c58ea4f7ad84639c894b6"), looks := true }, kinds := [], alts := [], laidByText := true, laidKinds := [.data, .pinned], laidTests := true, laidLooks := .later }
def ExecOrdersUptoCardSaid : Prop := Claim7.holds Tryz.pinned (.plain (OpenSpec.upto execOrdersSpec)) execOrdersUptoCard
end Rows
end Go.Proofs.YtfjogpadeelnkaaGreatDoor
