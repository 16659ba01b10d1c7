/- What the rows' list gives, how arguments are read. -/
import Derived.Test.YtjnpmmiacggffaaGreatDoorXAll
import Derived.Test.YtjnpmmiacggffaaGreatDoorXOk
import Derived.Test.YtjnpmmiacggffaaGreatDoorGwSd
import Derived.Test.YtjnpmmiacggffaaGreatDoorRows
import Derived.Test.YtjnpmmiacggffaaGreatDoorTie
import Derived.Test.YtjnpmmiacggffaaGreatDoorCards
import Derived.Deep.DeepHandedRow
import Derived.Lib.LaidTab
import Derived.Lib.LaidU8T
import Derived.Lib.LaidIn
import Derived.Shelf.Vars
import Derived.WalkKit
import Derived.ProofKit
import Derived.OpenShut
import Derived.ShutString
import Derived.Below
import Derived.Lay
import Derived.SevenTiedAt
namespace Go.Proofs.YtjnpmmiacggffaaGreatDoor
open Go.ChangeShapes Go.WideShapes Go.ChangeAt Go.RowKit
set_option linter.unusedVariables false
set_option linter.unusedSimpArgs false
set_option maxRecDepth 100000
theorem own : ownKnob Tryz.prog.godebug = none := by kernel_rfl
theorem laidOut : laidOutB Tryz.prog = true := by kernel_rfl
theorem bulkAll_sum {H : Type} : ∀ l : List (DataW H), Rows.uptoBulkAll l = (l.map Rows.uptoBulk).sum
 | [] => rfl
 | d :: l => by simp only [Rows.uptoBulkAll, List.map_cons, List.sum_cons, bulkAll_sum l]
theorem bulkLaws {H : Type} : Lv.BulkLaws (Rows.uptoBulk (H := H)) where
 one d := by
  cases d with
  | lit l => cases l <;> simp [Rows.uptoBulk]
  | _ => simp [Rows.uptoBulk]
 str bs := by simp [Rows.uptoBulk]
 agg ps := by simp only [Rows.uptoBulk, bulkAll_sum]; exact Nat.le_refl _
 slice es r := by simp only [Rows.uptoBulk, bulkAll_sum]; omega
@[reducible] def mkTab (W : World) : Lv.BaseTab := ⟨fun a => W.cell? a⟩
theorem tabOk {W : World} (hT : Go.Lib.Utf8Tabs (Tryz.laysValid_ren.g 3) (Tryz.laysValid_ren.g 4) W) (hm : ∃ m, W.cell? ⟨2, 0, none⟩ = some (.int .i64 m)) : @Lv.TabOk (mkTab W) :=
 @Lv.TabOk.mk (mkTab W) (fun w hw => ⟨fun c hc => hw _ _ (hT.1 c hc), fun i hi => ⟨hw _ _ (hT.2 i hi).1, hw _ _ (hT.2 i hi).2⟩⟩) hm
theorem tabs_of {W : World} {l : List (String × DataW Unit)} (hL : laidMetH Tryz.prog l W) (h1 : ("unicode/utf8.first", Go.Lib.firstData) ∈ l) (h2 : ("unicode/utf8.acceptRanges", Go.Lib.acceptData) ∈ l) (hh : (l.all fun x => x.2.handleName?.isNone) = true) :
  Go.Lib.Utf8Tabs (Tryz.laysValid_ren.g 3) (Tryz.laysValid_ren.g 4) W := by
 rw [MakeChecks.laidMetH_plain _ _ _ hh] at hL
 exact utf8Tabs_of_readsT (U8Types.of196 Tryz.laysValid) ⟨by kernel_rfl, by kernel_rfl, by kernel_rfl, by kernel_rfl, by kernel_rfl, by kernel_rfl, by kernel_rfl⟩ (Go.Lib.laidMet.reads hL h1) (Go.Lib.laidMet.reads hL h2)
theorem first_eq : Go.Pinned.utf8First = Go.Lib.firstData := by kernel_rfl
theorem accept_eq : (Rows.laid_unicode_utf8_acceptRanges : DataW Unit) = Go.Lib.acceptData := by kernel_rfl
theorem maxLen_of {W : World} (h : W.ShapedOpen Tryz.prog) : ∃ m, W.cell? ⟨2, 0, none⟩ = some (.int .i64 m) :=
 cell_of_shapedOpen_int (P := Tryz.prog) (g := 2) (t := 3) (zero := #[.int .i64 0]) h (of_decide_eq_true (by kernel_rfl)) (by kernel_rfl) rfl (by kernel_rfl) (by kernel_rfl) (by kernel_rfl)
def good {H : Type} (t : TypeId) (d : DataW H) : Prop := ∀ n ∈ d.weights Tryz.prog t, n ≤ reachBytes
theorem laws {H : Type} : Lv.GoodLaws (H := H) Tryz.prog 140737488351232 (good (H := H)) := Lv.goodReach Tryz.prog
theorem good_of {H : Type} {ts : List TypeId} {ds : List (DataW H)} (h : (DataW.weightsEach Tryz.prog ts ds).all (· ≤ reachBytes) = true) {j : Nat} {t : TypeId} {d : DataW H} (ht : ts[j]? = some t) (hd : ds[j]? = some d) : good t d :=
 fun n hn => by simpa using List.all_eq_true.1 h n (DataW.weights_mem_each ht hd n hn)
section
variable {H : Type} {enc : TypeId × Value → H} {W : World}
theorem c3 : Tryz.prog.cellsOf 3 = 1 := by kernel_rfl
theorem u3 : Tryz.prog.underlying 3 = some (.int .i64) := by kernel_rfl
theorem sd3 : Lv.Sd (good (H := H)) enc Tryz.prog W 3 Lv.eI 1 (fun x => (-9223372036854775808 ≤ x ∧ x < 9223372036854775808)) := Lv.sdI64 laws u3
theorem c24 : Tryz.prog.cellsOf 24 = 1 := by kernel_rfl
theorem c4 : Tryz.prog.cellsOf 4 = 1 := by kernel_rfl
theorem u4 : Tryz.prog.underlying 4 = some (.bool) := by kernel_rfl
theorem sd4 : Lv.Sd (good (H := H)) enc Tryz.prog W 4 Lv.eB 1 (fun x => True) := Lv.sdBool laws u4
theorem c23 : Tryz.prog.cellsOf 23 = 1 := by kernel_rfl
theorem u23 : Tryz.prog.underlying 23 = some (.slice 3) := by kernel_rfl
theorem bk3 : Tryz.prog.bytesOf 3 = 8 := by kernel_rfl
theorem by3 : Tryz.prog.bytesOf 3 ≠ 0 := by rw [show Tryz.prog.bytesOf 3 = 8 by kernel_rfl]; decide
theorem sd23 : Lv.Sd (good (H := H)) enc Tryz.prog W 23 (Lv.eL 1 Lv.eI) 1 (fun x => (x.length * 8 ≤ 140737488351232 ∧ ∀ y ∈ x, (-9223372036854775808 ≤ y ∧ y < 9223372036854775808))) := Lv.sdSliceB laws (K := 8) u23 c3 (by decide) by3 (Lv.bytesReach u23 bk3) sd3
theorem c28 : Tryz.prog.cellsOf 28 = 1 := by kernel_rfl
theorem u78 : Tryz.prog.underlying 78 = some (.struct (Tryz.prog.fieldsOf 78)) := by kernel_rfl
theorem c78 : Tryz.prog.cellsOf 78 = 2 := by kernel_rfl
theorem sd78 : Lv.Sd (good (H := H)) enc Tryz.prog W 78 Lv.eApiPart 2 (fun x => (Lv.okApiPart 140737488351232 x)) := Lv.sdStruct laws (fun p : Int × Bool × Unit => (⟨p.1, p.2.1⟩ : Lv.ApiPart)) u78 c78 (fs := [(3, 0), (4, 1)]) (by kernel_rfl) (Lv.sdCons c3 sd3 (Lv.sdCons c4 sd4 Lv.sdNil)) (fun p => rfl) (fun p h => h)
theorem u28 : Tryz.prog.underlying 28 = some (.slice 78) := by kernel_rfl
theorem bk78 : Tryz.prog.bytesOf 78 = 16 := by kernel_rfl
theorem by78 : Tryz.prog.bytesOf 78 ≠ 0 := by rw [show Tryz.prog.bytesOf 78 = 16 by kernel_rfl]; decide
theorem sd28 : Lv.Sd (good (H := H)) enc Tryz.prog W 28 (Lv.eL 2 Lv.eApiPart) 1 (fun x => (x.length * 16 ≤ 140737488351232 ∧ ∀ y ∈ x, (Lv.okApiPart 140737488351232 y))) := Lv.sdSliceB laws (K := 16) u28 c78 (by decide) by78 (Lv.bytesReach u28 bk78) sd78
theorem c9 : Tryz.prog.cellsOf 9 = 1 := by kernel_rfl
theorem u9 : Tryz.prog.underlying 9 = some (.string) := by kernel_rfl
theorem sd9 : Lv.Sd (good (H := H)) enc Tryz.prog W 9 Lv.eS 1 (fun x => (x.length ≤ 140737488351232)) := Lv.sdStr laws u9
theorem u60 : Tryz.prog.underlying 60 = some (.struct (Tryz.prog.fieldsOf 60)) := by kernel_rfl
theorem c60 : Tryz.prog.cellsOf 60 = 6 := by kernel_rfl
theorem sd60 : Lv.Sd (good (H := H)) enc Tryz.prog W 60 Lv.eApiIndex 6 (fun x => (Lv.okApiIndex 140737488351232 x)) := Lv.sdStruct laws (fun p : List UInt8 × List Lv.ApiPart × List Int × Bool × Bool × Int × Unit => (⟨p.1, p.2.1, p.2.2.1, p.2.2.2.1, p.2.2.2.2.1, p.2.2.2.2.2.1⟩ : Lv.ApiIndex)) u60 c60 (fs := [(9, 0), (28, 1), (23, 2), (4, 3), (4, 4), (3, 5)]) (by kernel_rfl) (Lv.sdCons c9 sd9 (Lv.sdCons c28 sd28 (Lv.sdCons c23 sd23 (Lv.sdCons c4 sd4 (Lv.sdCons c4 sd4 (Lv.sdCons c3 sd3 Lv.sdNil)))))) (fun p => rfl) (fun p h => h)
theorem u24 : Tryz.prog.underlying 24 = some (.slice 60) := by kernel_rfl
theorem bk60 : Tryz.prog.bytesOf 60 = 80 := by kernel_rfl
theorem by60 : Tryz.prog.bytesOf 60 ≠ 0 := by rw [show Tryz.prog.bytesOf 60 = 80 by kernel_rfl]; decide
theorem sd24 : Lv.Sd (good (H := H)) enc Tryz.prog W 24 (Lv.eL 6 Lv.eApiIndex) 1 (fun x => (x.length * 80 ≤ 140737488351232 ∧ ∀ y ∈ x, (Lv.okApiIndex 140737488351232 y))) := Lv.sdSliceB laws (K := 80) u24 c60 (by decide) by60 (Lv.bytesReach u24 bk60) sd60
theorem c22 : Tryz.prog.cellsOf 22 = 1 := by kernel_rfl
theorem c74 : Tryz.prog.cellsOf 74 = 3 := by kernel_rfl
theorem c72 : Tryz.prog.cellsOf 72 = 1 := by kernel_rfl
theorem u72 : Tryz.prog.underlying 72 = some (.int .u64) := by kernel_rfl
theorem sd72 : Lv.Sd (good (H := H)) enc Tryz.prog W 72 Lv.eU64 1 (fun x => True) := Lv.sdU64 laws u72
theorem u74 : Tryz.prog.underlying 74 = some (.struct (Tryz.prog.fieldsOf 74)) := by kernel_rfl
theorem sd74 : Lv.Sd (good (H := H)) enc Tryz.prog W 74 Lv.eApiValue 3 (fun x => (Lv.okApiValue 140737488351232 x)) := Lv.sdStruct laws (fun p : Int × UInt64 × List UInt8 × Unit => (⟨p.1, p.2.1, p.2.2.1⟩ : Lv.ApiValue)) u74 c74 (fs := [(3, 0), (72, 1), (9, 2)]) (by kernel_rfl) (Lv.sdCons c3 sd3 (Lv.sdCons c72 sd72 (Lv.sdCons c9 sd9 Lv.sdNil))) (fun p => rfl) (fun p h => h)
theorem u76 : Tryz.prog.underlying 76 = some (.struct (Tryz.prog.fieldsOf 76)) := by kernel_rfl
theorem c76 : Tryz.prog.cellsOf 76 = 7 := by kernel_rfl
theorem sd76 : Lv.Sd (good (H := H)) enc Tryz.prog W 76 Lv.eApiColumn 7 (fun x => (Lv.okApiColumn 140737488351232 x)) := Lv.sdStruct laws (fun p : List UInt8 × Int × Int × Bool × Lv.ApiValue × Unit => (⟨p.1, p.2.1, p.2.2.1, p.2.2.2.1, p.2.2.2.2.1⟩ : Lv.ApiColumn)) u76 c76 (fs := [(9, 0), (3, 1), (3, 2), (4, 3), (74, 4)]) (by kernel_rfl) (Lv.sdCons c9 sd9 (Lv.sdCons c3 sd3 (Lv.sdCons c3 sd3 (Lv.sdCons c4 sd4 (Lv.sdCons c74 sd74 Lv.sdNil))))) (fun p => rfl) (fun p h => h)
theorem u22 : Tryz.prog.underlying 22 = some (.slice 76) := by kernel_rfl
theorem bk76 : Tryz.prog.bytesOf 76 = 72 := by kernel_rfl
theorem by76 : Tryz.prog.bytesOf 76 ≠ 0 := by rw [show Tryz.prog.bytesOf 76 = 72 by kernel_rfl]; decide
theorem sd22 : Lv.Sd (good (H := H)) enc Tryz.prog W 22 (Lv.eL 7 Lv.eApiColumn) 1 (fun x => (x.length * 72 ≤ 140737488351232 ∧ ∀ y ∈ x, (Lv.okApiColumn 140737488351232 y))) := Lv.sdSliceB laws (K := 72) u22 c76 (by decide) by76 (Lv.bytesReach u22 bk76) sd76
theorem u26 : Tryz.prog.underlying 26 = some (.struct (Tryz.prog.fieldsOf 26)) := by kernel_rfl
theorem c26 : Tryz.prog.cellsOf 26 = 5 := by kernel_rfl
theorem sd26 : Lv.Sd (good (H := H)) enc Tryz.prog W 26 Lv.eApiTable 5 (fun x => (Lv.okApiTable 140737488351232 x)) := Lv.sdStruct laws (fun p : List UInt8 × List Lv.ApiColumn × List Int × List Lv.ApiIndex × Int × Unit => (⟨p.1, p.2.1, p.2.2.1, p.2.2.2.1, p.2.2.2.2.1⟩ : Lv.ApiTable)) u26 c26 (fs := [(9, 0), (22, 1), (23, 2), (24, 3), (3, 4)]) (by kernel_rfl) (Lv.sdCons c9 sd9 (Lv.sdCons c22 sd22 (Lv.sdCons c23 sd23 (Lv.sdCons c24 sd24 (Lv.sdCons c3 sd3 Lv.sdNil))))) (fun p => rfl) (fun p h => h)
theorem c27 : Tryz.prog.cellsOf 27 = 1 := by kernel_rfl
theorem u80 : Tryz.prog.underlying 80 = some (.struct (Tryz.prog.fieldsOf 80)) := by kernel_rfl
theorem c80 : Tryz.prog.cellsOf 80 = 6 := by kernel_rfl
theorem sd80 : Lv.Sd (good (H := H)) enc Tryz.prog W 80 Lv.ePredNode 6 (fun x => (Lv.okPredNode 140737488351232 x)) := Lv.sdStruct laws (fun p : Int × Int × Int × Lv.ApiValue × Unit => (⟨p.1, p.2.1, p.2.2.1, p.2.2.2.1⟩ : Lv.PredNode)) u80 c80 (fs := [(3, 0), (3, 1), (3, 2), (74, 3)]) (by kernel_rfl) (Lv.sdCons c3 sd3 (Lv.sdCons c3 sd3 (Lv.sdCons c3 sd3 (Lv.sdCons c74 sd74 Lv.sdNil)))) (fun p => rfl) (fun p h => h)
theorem u27 : Tryz.prog.underlying 27 = some (.slice 80) := by kernel_rfl
theorem bk80 : Tryz.prog.bytesOf 80 = 56 := by kernel_rfl
theorem by80 : Tryz.prog.bytesOf 80 ≠ 0 := by rw [show Tryz.prog.bytesOf 80 = 56 by kernel_rfl]; decide
theorem sd27 : Lv.Sd (good (H := H)) enc Tryz.prog W 27 (Lv.eL 6 Lv.ePredNode) 1 (fun x => (x.length * 56 ≤ 140737488351232 ∧ ∀ y ∈ x, (Lv.okPredNode 140737488351232 y))) := Lv.sdSliceB laws (K := 56) u27 c80 (by decide) by80 (Lv.bytesReach u27 bk80) sd80
theorem u30 : Tryz.prog.underlying 30 = some (.struct (Tryz.prog.fieldsOf 30)) := by kernel_rfl
theorem c30 : Tryz.prog.cellsOf 30 = 4 := by kernel_rfl
theorem sd30 : Lv.Sd (good (H := H)) enc Tryz.prog W 30 Lv.ePlanQuery 4 (fun x => (Lv.okPlanQuery 140737488351232 x)) := Lv.sdStruct laws (fun p : List Lv.PredNode × List Int × List Lv.ApiPart × Int × Unit => (⟨p.1, p.2.1, p.2.2.1, p.2.2.2.1⟩ : Lv.PlanQuery)) u30 c30 (fs := [(27, 0), (23, 1), (28, 2), (3, 3)]) (by kernel_rfl) (Lv.sdCons c27 sd27 (Lv.sdCons c23 sd23 (Lv.sdCons c28 sd28 (Lv.sdCons c3 sd3 Lv.sdNil)))) (fun p => rfl) (fun p h => h)
theorem u61 : Tryz.prog.underlying 61 = some (.slice 74) := by kernel_rfl
theorem bk74 : Tryz.prog.bytesOf 74 = 32 := by kernel_rfl
theorem by74 : Tryz.prog.bytesOf 74 ≠ 0 := by rw [show Tryz.prog.bytesOf 74 = 32 by kernel_rfl]; decide
theorem sd61 : Lv.Sd (good (H := H)) enc Tryz.prog W 61 (Lv.eL 3 Lv.eApiValue) 1 (fun x => (x.length * 32 ≤ 140737488351232 ∧ ∀ y ∈ x, (Lv.okApiValue 140737488351232 y))) := Lv.sdSliceB laws (K := 32) u61 c74 (by decide) by74 (Lv.bytesReach u61 bk74) sd74
end
end Go.Proofs.YtjnpmmiacggffaaGreatDoor
