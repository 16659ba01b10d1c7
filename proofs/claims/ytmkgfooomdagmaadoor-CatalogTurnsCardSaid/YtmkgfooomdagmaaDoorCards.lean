/-
  DERIVED. GIVEN WITH THE SEED: THE CARDS: each row of YtmkgfooomdagmaaDoorRows.lean that lists a variable, with what it lists TIED to the program's text (the seventh form; the later family's looks); each row that meets fmt, with fmt's text TOLD by the authors' own Lean function (tested against real Go, not proved from fmt's source: count such statements apart). THE CARD IS WHAT COUNTS. Prove the row's statement (the work); the ties are given (YtmkgfooomdagmaaDoorTie.lean); close each card by the builder's one call (the guide's Derived/Test/ToyasCard.lean, 'card_holds'). Laid BY PROGRAM, IN A SANDBOX (cutbox-door.mjs). By AI agents, Wed Nov 11 2026. No macro, syntax, notation, axiom, sorry.
-/
import Derived.Test.YtmkgfooomdagmaaDoorRows
import GoSem.ClaimSeven
namespace Go.Proofs.YtmkgfooomdagmaaDoor
namespace Rows

/-- THE TIED CARD OF 'granarylaw18.CatalogOps'. -/
def catalogOpsCard : Claim7 := { stood := { row := catalogOpsRow, standIns := [], harness := (true, "f05c0c79cb4dadfe47b5b5d134d2a14db3361ec8300307a115f34a2464357f73"), looks := false }, kinds := [], alts := [], laidByText := true, laidKinds := [.data, .pinned], laidTests := true, laidLooks := .later }
def CatalogOpsCardSaid : Prop := Claim7.holds Tryd.pinned (.plain (OpenSpec.ofChange catalogOpsSpec)) catalogOpsCard

/-- THE TIED CARD OF 'granarylaw18.CatalogLists'. -/
def catalogListsCard : Claim7 := { stood := { row := catalogListsRow, standIns := [], harness := (true, "f05c0c79cb4dadfe47b5b5d134d2a14db3361ec8300307a115f34a2464357f73"), looks := false }, kinds := [], alts := [], laidByText := true, laidKinds := [.data, .pinned], laidTests := true, laidLooks := .later }
def CatalogListsCardSaid : Prop := Claim7.holds Tryd.pinned (.plain (OpenSpec.ofChange catalogListsSpec)) catalogListsCard

/-- THE TIED CARD OF 'granarylaw18.CatalogTurns'. -/
def catalogTurnsCard : Claim7 := { stood := { row := catalogTurnsRow, standIns := [], harness := (true, "f05c0c79cb4dadfe47b5b5d134d2a14db3361ec8300307a115f34a2464357f73"), looks := false }, kinds := [], alts := [], laidByText := true, laidKinds := [.data, .pinned], laidTests := true, laidLooks := .later }
def CatalogTurnsCardSaid : Prop := Claim7.holds Tryd.pinned (.plain (OpenSpec.ofChange catalogTurnsSpec)) catalogTurnsCard

/-- THE SECOND FORM's CARD OF 'granarylaw18.CatalogOps'. -/
def catalogOpsUptoCard : Claim7 := { stood := { row := catalogOpsUptoRow, standIns := [], harness := (true, "f05c0c79cb4dadfe47b5b5d134d2a14db3361ec8300307a115f34a2464357f73"), looks := false }, kinds := [], alts := [], laidByText := true, laidKinds := [.data, .pinned], laidTests := true, laidLooks := .later }
def CatalogOpsUptoCardSaid : Prop := Claim7.holds Tryd.pinned (.plain (OpenSpec.upto catalogOpsSpec)) catalogOpsUptoCard

/-- THE SECOND FORM's CARD OF 'granarylaw18.CatalogLists'. -/
def catalogListsUptoCard : Claim7 := { stood := { row := catalogListsUptoRow, standIns := [], harness := (true, "f05c0c79cb4dadfe47b5b5d134d2a14db3361ec8300307a115f34a2464357f73"), looks := false }, kinds := [], alts := [], laidByText := true, laidKinds := [.data, .pinned], laidTests := true, laidLooks := .later }
def CatalogListsUptoCardSaid : Prop := Claim7.holds Tryd.pinned (.plain (OpenSpec.upto catalogListsSpec)) catalogListsUptoCard

/-- THE SECOND FORM's CARD OF 'granarylaw18.CatalogTurns'. -/
def catalogTurnsUptoCard : Claim7 := { stood := { row := catalogTurnsUptoRow, standIns := [], harness := (true, "f05c0c79cb4dadfe47b5b5d134d2a14db3361ec8300307a115f34a2464357f73"), looks := false }, kinds := [], alts := [], laidByText := true, laidKinds := [.data, .pinned], laidTests := true, laidLooks := .later }
def CatalogTurnsUptoCardSaid : Prop := Claim7.holds Tryd.pinned (.plain (OpenSpec.upto catalogTurnsSpec)) catalogTurnsUptoCard
end Rows
end Go.Proofs.YtmkgfooomdagmaaDoor
