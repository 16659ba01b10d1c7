/-
  DERIVED. GIVEN WITH THE SEED: THE CARDS: each row of YtmkgfooomdagmaaGreatDoorRows.lean that lists a variable, with what it lists TIED to the program's text (the seventh form; the later family's looks); each row that meets fmt, with fmt's text TOLD by the authors' own Lean function (tested against real Go, not proved from fmt's source: count such statements apart). THE CARD IS WHAT COUNTS. Prove the row's statement (the work); the ties are given (YtmkgfooomdagmaaGreatDoorTie.lean); close each card by the builder's one call (the guide's Derived/Test/ToyasCard.lean, 'card_holds'). Laid BY PROGRAM, IN A SANDBOX (cutbox-door.mjs). By AI agents, Wed Nov 11 2026. No macro, syntax, notation, axiom, sorry.
-/
import Derived.Test.YtmkgfooomdagmaaGreatDoorRows
import GoSem.ClaimSeven
namespace Go.Proofs.YtmkgfooomdagmaaGreatDoor
namespace Rows

/-- THE TIED CARD OF 'granarylaw18.CatalogPairs'. -/
def catalogPairsCard : Claim7 := { stood := { row := catalogPairsRow, standIns := [], harness := (true, "7bd9151382b28173ab0aae9d906abc06df4f54b57a2b6f524bf164c6737f7452"), looks := false }, kinds := [], alts := [], laidByText := true, laidKinds := [.data, .pinned], laidTests := true, laidLooks := .later }
def CatalogPairsCardSaid : Prop := Claim7.holds Tryz.pinned (.plain (OpenSpec.ofChange catalogPairsSpec)) catalogPairsCard

/-- THE TIED CARD OF 'granarylaw18.CatalogReads'. -/
def catalogReadsCard : Claim7 := { stood := { row := catalogReadsRow, standIns := [], harness := (true, "7bd9151382b28173ab0aae9d906abc06df4f54b57a2b6f524bf164c6737f7452"), looks := false }, kinds := [], alts := [], laidByText := true, laidKinds := [.data, .pinned], laidTests := true, laidLooks := .later }
def CatalogReadsCardSaid : Prop := Claim7.holds Tryz.pinned (.plain (OpenSpec.ofChange catalogReadsSpec)) catalogReadsCard

/-- THE SECOND FORM's CARD OF 'granarylaw18.CatalogPairs'. -/
def catalogPairsUptoCard : Claim7 := { stood := { row := catalogPairsUptoRow, standIns := [], harness := (true, "7bd9151382b28173ab0aae9d906abc06df4f54b57a2b6f524bf164c6737f7452"), looks := false }, kinds := [], alts := [], laidByText := true, laidKinds := [.data, .pinned], laidTests := true, laidLooks := .later }
def CatalogPairsUptoCardSaid : Prop := Claim7.holds Tryz.pinned (.plain (OpenSpec.upto catalogPairsSpec)) catalogPairsUptoCard

/-- THE SECOND FORM's CARD OF 'granarylaw18.CatalogReads'. -/
def catalogReadsUptoCard : Claim7 := { stood := { row := catalogReadsUptoRow, standIns := [], harness := (true, "7bd9151382b28173ab0aae9d906abc06df4f54b57a2b6f524bf164c6737f7452"), looks := false }, kinds := [], alts := [], laidByText := true, laidKinds := [.data, .pinned], laidTests := true, laidLooks := .later }
def CatalogReadsUptoCardSaid : Prop := Claim7.holds Tryz.pinned (.plain (OpenSpec.upto catalogReadsSpec)) catalogReadsUptoCard
end Rows
end Go.Proofs.YtmkgfooomdagmaaGreatDoor
