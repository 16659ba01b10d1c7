/- What the rows' list gives, how arguments are read. -/
import Derived.Test.YtjnpmmiacggffaaGreatDoorXAll
import Derived.Test.YtjnpmmiacggffaaGreatDoorXOk
import Derived.Test.YtjnpmmiacggffaaGreatDoorGwSd
import Derived.Test.YtjnpmmiacggffaaGreatDoorRows
import Derived.Test.YtjnpmmiacggffaaGreatDoorTie
import Derived.Test.YtjnpmmiacggffaaGreatDoorCards
import Derived.Deep.DeepHandedRow
import Derived.Lib.LaidTab
import Derived.Lib.LaidU8T
import Derived.Lib.LaidIn
import Derived.Shelf.Vars
import Derived.WalkKit
import Derived.ProofKit
import Derived.OpenShut
import Derived.ShutString
import Derived.Below
import Derived.Lay
import Derived.SevenTiedAt
namespace Go.Proofs.YtjnpmmiacggffaaGreatDoor
open Go.ChangeShapes Go.WideShapes Go.ChangeAt Go.RowKit
set_option linter.unusedVariables false
set_option linter.unusedSimpArgs false
set_option maxRecDepth 100000
theorem own : ownKnob Tryz.prog.godebug = none := by kernel_rfl
theorem laidOut : laidOutB Tryz.prog = true := by kernel_rfl
theorem bulkAll_sum {H : Type} : ∀ l : List (DataW H), Rows.uptoBulkAll l = (l.map Rows.uptoBulk).sum
 | [] => rfl
 | d :: l => by simp only [Rows.uptoBulkAll, List.map_cons, List.sum_cons, bulkAll_sum l]
theorem bulkLaws {H : Type} : Lv.BulkLaws (Rows.uptoBulk (H := H)) where
 one d := by
  cases d with
  | lit l => cases l <;> simp [Rows.uptoBulk]
  | _ => simp [Rows.uptoBulk]
 str bs := by simp [Rows.uptoBulk]
 agg ps := by simp only [Rows.uptoBulk, bulkAll_sum]; exact Nat.le_refl _
 slice es r := by simp only [Rows.uptoBulk, bulkAll_sum]; omega
@[reducible] def mkTab (W : World) : Lv.BaseTab := ⟨fun a => W.cell? a⟩
theorem tabOk {W : World} (hT : Go.Lib.Utf8Tabs (Tryz.laysValid_ren.g 3) (Tryz.laysValid_ren.g 4) W) (hm : ∃ m, W.cell? ⟨2, 0, none⟩ = some (.int .i64 m)) : @Lv.TabOk (mkTab W) :=
 @Lv.TabOk.mk (mkTab W) (fun w hw => ⟨fun c hc => hw _ _ (hT.1 c hc), fun i hi => ⟨hw _ _ (hT.2 i hi).1, hw _ _ (hT.2 i hi).2⟩⟩) hm
theorem tabs_of {W : World} {l : List (String × DataW Unit)} (hL : laidMetH Tryz.prog l W) (h1 : ("unicode/utf8.first", Go.Lib.firstData) ∈ l) (h2 : ("unicode/utf8.acceptRanges", Go.Lib.acceptData) ∈ l) (hh : (l.all fun x => x.2.handleName?.isNone) = true) :
  Go.Lib.Utf8Tabs (Tryz.laysValid_ren.g 3) (Tryz.laysValid_ren.g 4) W := by
 rw [MakeChecks.laidMetH_plain _ _ _ hh] at hL
 exact utf8Tabs_of_readsT (U8Types.of196 Tryz.laysValid) ⟨by kernel_rfl, by kernel_rfl, by kernel_rfl, by kernel_rfl, by kernel_rfl, by kernel_rfl, by kernel_rfl⟩ (Go.Lib.laidMet.reads hL h1) (Go.Lib.laidMet.reads hL h2)
theorem first_eq : Go.Pinned.utf8First = Go.Lib.firstData := by kernel_rfl
theorem accept_eq : (Rows.laid_unicode_utf8_acceptRanges : DataW Unit) = Go.Lib.acceptData := by kernel_rfl
theorem maxLen_of {W : World} (h : W.ShapedOpen Tryz.prog) : ∃ m, W.cell? ⟨2, 0, none⟩ = some (.int .i64 m) :=
 cell_of_shapedOpen_int (P := Tryz.prog) (g := 2) (t := 3) (zero := #[.int .i64 0]) h (of_decide_eq_true (by kernel_rfl)) (by kernel_rfl) rfl (by kernel_rfl) (by kernel_rfl) (by kernel_rfl)
def good {H : Type} (t : TypeId) (d : DataW H) : Prop := ∀ n ∈ d.weights Tryz.prog t, n ≤ reachBytes
theorem laws {H : Type} : Lv.GoodLaws (H := H) Tryz.prog 140737488351232 (good (H := H)) := Lv.goodReach Tryz.prog
theorem good_of {H : Type} {ts : List TypeId} {ds : List (DataW H)} (h : (DataW.weightsEach Tryz.prog ts ds).all (· ≤ reachBytes) = true) {j : Nat} {t : TypeId} {d : DataW H} (ht : ts[j]? = some t) (hd : ds[j]? = some d) : good t d :=
 fun n hn => by simpa using List.all_eq_true.1 h n (DataW.weights_mem_each ht hd n hn)
section
variable {H : Type} {enc : TypeId × Value → H} {W : World}
theorem u3 : Tryz.prog.underlying 3 = some (.int .i64) := by kernel_rfl
theorem sd3 : Lv.Sd (good (H := H)) enc Tryz.prog W 3 Lv.eI 1 (fun x => (-9223372036854775808 ≤ x ∧ x < 9223372036854775808)) := Lv.sdI64 laws u3
theorem u23 : Tryz.prog.underlying 23 = some (.slice 3) := by kernel_rfl
theorem c3 : Tryz.prog.cellsOf 3 = 1 := by kernel_rfl
theorem bk3 : Tryz.prog.bytesOf 3 = 8 := by kernel_rfl
theorem by3 : Tryz.prog.bytesOf 3 ≠ 0 := by rw [show Tryz.prog.bytesOf 3 = 8 by kernel_rfl]; decide
theorem sd23 : Lv.Sd (good (H := H)) enc Tryz.prog W 23 (Lv.eL 1 Lv.eI) 1 (fun x => (x.length * 8 ≤ 140737488351232 ∧ ∀ y ∈ x, (-9223372036854775808 ≤ y ∧ y < 9223372036854775808))) := Lv.sdSliceB laws (K := 8) u23 c3 (by decide) by3 (Lv.bytesReach u23 bk3) sd3
theorem u4 : Tryz.prog.underlying 4 = some (.bool) := by kernel_rfl
end
end Go.Proofs.YtjnpmmiacggffaaGreatDoor
