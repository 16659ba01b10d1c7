/-
  DERIVED. GIVEN WITH THE SEED: THE CARDS: each row of YtjnpmmiacggffaaGreatDoorRows.lean that lists a variable, with what it lists TIED to the program's text (the seventh form; the later family's looks); each row that meets fmt, with fmt's text TOLD by the authors' own Lean function (tested against real Go, not proved from fmt's source: count such statements apart). THE CARD IS WHAT COUNTS. Prove the row's statement (the work); the ties are given (YtjnpmmiacggffaaGreatDoorTie.lean); close each card by the builder's one call (the guide's Derived/Test/ToyasCard.lean, 'card_holds'). Laid BY PROGRAM, IN A SANDBOX (cutbox-door.mjs). By AI agents, Wed Nov 11 2026. No macro, syntax, notation, axiom, sorry.
-/
import Derived.Test.YtjnpmmiacggffaaGreatDoorRows
import GoSem.ClaimSeven
namespace Go.Proofs.YtjnpmmiacggffaaGreatDoor
namespace Rows

/-- THE TIED CARD OF 'granarylaw21.PlanAll'. -/
def planAllCard : Claim7 := { stood := { row := planAllRow, standIns := [], harness := (true, "fea7319ce70a6944532b80f6ce0e0712f0007b15a93e8148dcd5fb5414a38e5b"), looks := true }, kinds := [], alts := [], laidByText := true, laidKinds := [.data, .pinned], laidTests := true, laidLooks := .later }
def PlanAllCardSaid : Prop := Claim7.holds Tryz.pinned (.plain (OpenSpec.ofChange planAllSpec)) planAllCard

/-- THE TIED CARD OF 'granarylaw21.PlanBest'. -/
def planBestCard : Claim7 := { stood := { row := planBestRow, standIns := [], harness := (true, "fea7319ce70a6944532b80f6ce0e0712f0007b15a93e8148dcd5fb5414a38e5b"), looks := true }, kinds := [], alts := [], laidByText := true, laidKinds := [.data, .pinned], laidTests := true, laidLooks := .later }
def PlanBestCardSaid : Prop := Claim7.holds Tryz.pinned (.plain (OpenSpec.ofChange planBestSpec)) planBestCard

/-- THE TIED CARD OF 'granarylaw21.PlanLess'. -/
def planLessCard : Claim7 := { stood := { row := planLessRow, standIns := [], harness := (true, "fea7319ce70a6944532b80f6ce0e0712f0007b15a93e8148dcd5fb5414a38e5b"), looks := true }, kinds := [], alts := [], laidByText := true, laidKinds := [.data, .pinned], laidTests := true, laidLooks := .later }
def PlanLessCardSaid : Prop := Claim7.holds Tryz.pinned (.plain (OpenSpec.ofChange planLessSpec)) planLessCard

/-- THE TIED CARD OF 'granarylaw21.PlanSpans'. -/
def planSpansCard : Claim7 := { stood := { row := planSpansRow, standIns := [], harness := (true, "fea7319ce70a6944532b80f6ce0e0712f0007b15a93e8148dcd5fb5414a38e5b"), looks := true }, kinds := [], alts := [], laidByText := true, laidKinds := [.data, .pinned], laidTests := true, laidLooks := .later }
def PlanSpansCardSaid : Prop := Claim7.holds Tryz.pinned (.plain (OpenSpec.ofChange planSpansSpec)) planSpansCard

/-- THE SECOND FORM's CARD OF 'granarylaw21.PlanAll'. -/
def planAllUptoCard : Claim7 := { stood := { row := planAllUptoRow, standIns := [], harness := (true, "fea7319ce70a6944532b80f6ce0e0712f0007b15a93e8148dcd5fb5414a38e5b"), looks := true }, kinds := [], alts := [], laidByText := true, laidKinds := [.data, .pinned], laidTests := true, laidLooks := .later }
def PlanAllUptoCardSaid : Prop := Claim7.holds Tryz.pinned (.plain (OpenSpec.upto planAllSpec)) planAllUptoCard

/-- THE SECOND FORM's CARD OF 'granarylaw21.PlanBest'. -/
def planBestUptoCard : Claim7 := { stood := { row := planBestUptoRow, standIns := [], harness := (true, "fea7319ce70a6944532b80f6ce0e0712f0007b15a93e8148dcd5fb5414a38e5b"), looks := true }, kinds := [], alts := [], laidByText := true, laidKinds := [.data, .pinned], laidTests := true, laidLooks := .later }
def PlanBestUptoCardSaid : Prop := Claim7.holds Tryz.pinned (.plain (OpenSpec.upto planBestSpec)) planBestUptoCard

/-- THE SECOND FORM's CARD OF 'granarylaw21.PlanLess'. -/
def planLessUptoCard : Claim7 := { stood := { row := planLessUptoRow, standIns := [], harness := (true, "fea7319ce70a6944532b80f6ce0e0712f0007b15a93e8148dcd5fb5414a38e5b"), looks := true }, kinds := [], alts := [], laidByText := true, laidKinds := [.data, .pinned], laidTests := true, laidLooks := .later }
def PlanLessUptoCardSaid : Prop := Claim7.holds Tryz.pinned (.plain (OpenSpec.upto planLessSpec)) planLessUptoCard

/-- THE SECOND FORM's CARD OF 'granarylaw21.PlanSpans'. -/
def planSpansUptoCard : Claim7 := { stood := { row := planSpansUptoRow, standIns := [], harness := (true, "fea7319ce70a6944532b80f6ce0e0712f0007b15a93e8148dcd5fb5414a38e5b"), looks := true }, kinds := [], alts := [], laidByText := true, laidKinds := [.data, .pinned], laidTests := true, laidLooks := .later }
def PlanSpansUptoCardSaid : Prop := Claim7.holds Tryz.pinned (.plain (OpenSpec.upto planSpansSpec)) planSpansUptoCard
end Rows
end Go.Proofs.YtjnpmmiacggffaaGreatDoor
