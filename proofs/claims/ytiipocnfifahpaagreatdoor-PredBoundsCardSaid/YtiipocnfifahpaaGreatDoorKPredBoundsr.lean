/- What the rows' list gives, how arguments are read. -/
import Derived.Test.YtiipocnfifahpaaGreatDoorXAll
import Derived.Test.YtiipocnfifahpaaGreatDoorXOk
import Derived.Test.YtiipocnfifahpaaGreatDoorGwSd
import Derived.Test.YtiipocnfifahpaaGreatDoorRows
import Derived.Test.YtiipocnfifahpaaGreatDoorTie
import Derived.Test.YtiipocnfifahpaaGreatDoorCards
import Derived.Deep.DeepHandedRow
import Derived.Lib.LaidTab
import Derived.Lib.LaidU8T
import Derived.Lib.LaidIn
import Derived.Shelf.Vars
import Derived.WalkKit
import Derived.ProofKit
import Derived.OpenShut
import Derived.ShutString
import Derived.Below
import Derived.Lay
import Derived.SevenTiedAt
namespace Go.Proofs.YtiipocnfifahpaaGreatDoor
open Go.ChangeShapes Go.WideShapes Go.ChangeAt Go.RowKit
set_option linter.unusedVariables false
set_option linter.unusedSimpArgs false
set_option maxRecDepth 100000
theorem own : ownKnob Tryz.prog.godebug = none := by kernel_rfl
theorem laidOut : laidOutB Tryz.prog = true := by kernel_rfl
theorem bulkAll_sum {H : Type} : ∀ l : List (DataW H), Rows.uptoBulkAll l = (l.map Rows.uptoBulk).sum
 | [] => rfl
 | d :: l => by simp only [Rows.uptoBulkAll, List.map_cons, List.sum_cons, bulkAll_sum l]
theorem bulkLaws {H : Type} : Lv.BulkLaws (Rows.uptoBulk (H := H)) where
 one d := by
  cases d with
  | lit l => cases l <;> simp [Rows.uptoBulk]
  | _ => simp [Rows.uptoBulk]
 str bs := by simp [Rows.uptoBulk]
 agg ps := by simp only [Rows.uptoBulk, bulkAll_sum]; exact Nat.le_refl _
 slice es r := by simp only [Rows.uptoBulk, bulkAll_sum]; omega
@[reducible] def mkTab (W : World) : Lv.BaseTab := ⟨fun a => W.cell? a⟩
theorem tabOk {W : World} (hT : Go.Lib.Utf8Tabs (Tryz.laysValid_ren.g 3) (Tryz.laysValid_ren.g 4) W) (hm : ∃ m, W.cell? ⟨2, 0, none⟩ = some (.int .i64 m)) : @Lv.TabOk (mkTab W) :=
 @Lv.TabOk.mk (mkTab W) (fun w hw => ⟨fun c hc => hw _ _ (hT.1 c hc), fun i hi => ⟨hw _ _ (hT.2 i hi).1, hw _ _ (hT.2 i hi).2⟩⟩) hm
theorem tabs_of {W : World} {l : List (String × DataW Unit)} (hL : laidMetH Tryz.prog l W) (h1 : ("unicode/utf8.first", Go.Lib.firstData) ∈ l) (h2 : ("unicode/utf8.acceptRanges", Go.Lib.acceptData) ∈ l) (hh : (l.all fun x => x.2.handleName?.isNone) = true) :
  Go.Lib.Utf8Tabs (Tryz.laysValid_ren.g 3) (Tryz.laysValid_ren.g 4) W := by
 rw [MakeChecks.laidMetH_plain _ _ _ hh] at hL
 exact utf8Tabs_of_readsT (U8Types.of196 Tryz.laysValid) ⟨by kernel_rfl, by kernel_rfl, by kernel_rfl, by kernel_rfl, by kernel_rfl, by kernel_rfl, by kernel_rfl⟩ (Go.Lib.laidMet.reads hL h1) (Go.Lib.laidMet.reads hL h2)
theorem first_eq : Go.Pinned.utf8First = Go.Lib.firstData := by kernel_rfl
theorem accept_eq : (Rows.laid_unicode_utf8_acceptRanges : DataW Unit) = Go.Lib.acceptData := by kernel_rfl
theorem maxLen_of {W : World} (h : W.ShapedOpen Tryz.prog) : ∃ m, W.cell? ⟨2, 0, none⟩ = some (.int .i64 m) :=
 cell_of_shapedOpen_int (P := Tryz.prog) (g := 2) (t := 3) (zero := #[.int .i64 0]) h (of_decide_eq_true (by kernel_rfl)) (by kernel_rfl) rfl (by kernel_rfl) (by kernel_rfl) (by kernel_rfl)
def good {H : Type} (t : TypeId) (d : DataW H) : Prop := ∀ n ∈ d.weights Tryz.prog t, n ≤ reachBytes
theorem laws {H : Type} : Lv.GoodLaws (H := H) Tryz.prog 140737488351232 (good (H := H)) := Lv.goodReach Tryz.prog
theorem good_of {H : Type} {ts : List TypeId} {ds : List (DataW H)} (h : (DataW.weightsEach Tryz.prog ts ds).all (· ≤ reachBytes) = true) {j : Nat} {t : TypeId} {d : DataW H} (ht : ts[j]? = some t) (hd : ds[j]? = some d) : good t d :=
 fun n hn => by simpa using List.all_eq_true.1 h n (DataW.weights_mem_each ht hd n hn)
section
variable {H : Type} {enc : TypeId × Value → H} {W : World}
theorem c41 : Tryz.prog.cellsOf 41 = 3 := by kernel_rfl
theorem c9 : Tryz.prog.cellsOf 9 = 1 := by kernel_rfl
theorem u9 : Tryz.prog.underlying 9 = some (.string) := by kernel_rfl
theorem sd9 : Lv.Sd (good (H := H)) enc Tryz.prog W 9 Lv.eS 1 (fun x => (x.length ≤ 140737488351232)) := Lv.sdStr laws u9
theorem c39 : Tryz.prog.cellsOf 39 = 1 := by kernel_rfl
theorem u39 : Tryz.prog.underlying 39 = some (.int .u64) := by kernel_rfl
theorem sd39 : Lv.Sd (good (H := H)) enc Tryz.prog W 39 Lv.eU64 1 (fun x => True) := Lv.sdU64 laws u39
theorem c3 : Tryz.prog.cellsOf 3 = 1 := by kernel_rfl
theorem u3 : Tryz.prog.underlying 3 = some (.int .i64) := by kernel_rfl
theorem sd3 : Lv.Sd (good (H := H)) enc Tryz.prog W 3 Lv.eI 1 (fun x => (-9223372036854775808 ≤ x ∧ x < 9223372036854775808)) := Lv.sdI64 laws u3
theorem u41 : Tryz.prog.underlying 41 = some (.struct (Tryz.prog.fieldsOf 41)) := by kernel_rfl
theorem sd41 : Lv.Sd (good (H := H)) enc Tryz.prog W 41 Lv.eApiValue 3 (fun x => (Lv.okApiValue 140737488351232 x)) := Lv.sdStruct laws (fun p : Int × UInt64 × List UInt8 × Unit => (⟨p.1, p.2.1, p.2.2.1⟩ : Lv.ApiValue)) u41 c41 (fs := [(3, 0), (39, 1), (9, 2)]) (by kernel_rfl) (Lv.sdCons c3 sd3 (Lv.sdCons c39 sd39 (Lv.sdCons c9 sd9 Lv.sdNil))) (fun p => rfl) (fun p h => h)
theorem c4 : Tryz.prog.cellsOf 4 = 1 := by kernel_rfl
theorem u4 : Tryz.prog.underlying 4 = some (.bool) := by kernel_rfl
theorem sd4 : Lv.Sd (good (H := H)) enc Tryz.prog W 4 Lv.eB 1 (fun x => True) := Lv.sdBool laws u4
theorem u50 : Tryz.prog.underlying 50 = some (.struct (Tryz.prog.fieldsOf 50)) := by kernel_rfl
theorem c50 : Tryz.prog.cellsOf 50 = 7 := by kernel_rfl
theorem sd50 : Lv.Sd (good (H := H)) enc Tryz.prog W 50 Lv.eApiColumn 7 (fun x => (Lv.okApiColumn 140737488351232 x)) := Lv.sdStruct laws (fun p : List UInt8 × Int × Int × Bool × Lv.ApiValue × Unit => (⟨p.1, p.2.1, p.2.2.1, p.2.2.2.1, p.2.2.2.2.1⟩ : Lv.ApiColumn)) u50 c50 (fs := [(9, 0), (3, 1), (3, 2), (4, 3), (41, 4)]) (by kernel_rfl) (Lv.sdCons c9 sd9 (Lv.sdCons c3 sd3 (Lv.sdCons c3 sd3 (Lv.sdCons c4 sd4 (Lv.sdCons c41 sd41 Lv.sdNil))))) (fun p => rfl) (fun p h => h)
theorem u22 : Tryz.prog.underlying 22 = some (.slice 50) := by kernel_rfl
theorem bk50 : Tryz.prog.bytesOf 50 = 72 := by kernel_rfl
theorem by50 : Tryz.prog.bytesOf 50 ≠ 0 := by rw [show Tryz.prog.bytesOf 50 = 72 by kernel_rfl]; decide
theorem sd22 : Lv.Sd (good (H := H)) enc Tryz.prog W 22 (Lv.eL 7 Lv.eApiColumn) 1 (fun x => (x.length * 72 ≤ 140737488351232 ∧ ∀ y ∈ x, (Lv.okApiColumn 140737488351232 y))) := Lv.sdSliceB laws (K := 72) u22 c50 (by decide) by50 (Lv.bytesReach u22 bk50) sd50
theorem u43 : Tryz.prog.underlying 43 = some (.struct (Tryz.prog.fieldsOf 43)) := by kernel_rfl
theorem c43 : Tryz.prog.cellsOf 43 = 6 := by kernel_rfl
theorem sd43 : Lv.Sd (good (H := H)) enc Tryz.prog W 43 Lv.ePredNode 6 (fun x => (Lv.okPredNode 140737488351232 x)) := Lv.sdStruct laws (fun p : Int × Int × Int × Lv.ApiValue × Unit => (⟨p.1, p.2.1, p.2.2.1, p.2.2.2.1⟩ : Lv.PredNode)) u43 c43 (fs := [(3, 0), (3, 1), (3, 2), (41, 3)]) (by kernel_rfl) (Lv.sdCons c3 sd3 (Lv.sdCons c3 sd3 (Lv.sdCons c3 sd3 (Lv.sdCons c41 sd41 Lv.sdNil)))) (fun p => rfl) (fun p h => h)
theorem u23 : Tryz.prog.underlying 23 = some (.slice 43) := by kernel_rfl
theorem bk43 : Tryz.prog.bytesOf 43 = 56 := by kernel_rfl
theorem by43 : Tryz.prog.bytesOf 43 ≠ 0 := by rw [show Tryz.prog.bytesOf 43 = 56 by kernel_rfl]; decide
theorem sd23 : Lv.Sd (good (H := H)) enc Tryz.prog W 23 (Lv.eL 6 Lv.ePredNode) 1 (fun x => (x.length * 56 ≤ 140737488351232 ∧ ∀ y ∈ x, (Lv.okPredNode 140737488351232 y))) := Lv.sdSliceB laws (K := 56) u23 c43 (by decide) by43 (Lv.bytesReach u23 bk43) sd43
theorem u24 : Tryz.prog.underlying 24 = some (.slice 41) := by kernel_rfl
theorem bk41 : Tryz.prog.bytesOf 41 = 32 := by kernel_rfl
theorem by41 : Tryz.prog.bytesOf 41 ≠ 0 := by rw [show Tryz.prog.bytesOf 41 = 32 by kernel_rfl]; decide
theorem sd24 : Lv.Sd (good (H := H)) enc Tryz.prog W 24 (Lv.eL 3 Lv.eApiValue) 1 (fun x => (x.length * 32 ≤ 140737488351232 ∧ ∀ y ∈ x, (Lv.okApiValue 140737488351232 y))) := Lv.sdSliceB laws (K := 32) u24 c41 (by decide) by41 (Lv.bytesReach u24 bk41) sd41
theorem u52 : Tryz.prog.underlying 52 = some (.struct (Tryz.prog.fieldsOf 52)) := by kernel_rfl
theorem c52 : Tryz.prog.cellsOf 52 = 2 := by kernel_rfl
theorem sd52 : Lv.Sd (good (H := H)) enc Tryz.prog W 52 Lv.eApiPart 2 (fun x => (Lv.okApiPart 140737488351232 x)) := Lv.sdStruct laws (fun p : Int × Bool × Unit => (⟨p.1, p.2.1⟩ : Lv.ApiPart)) u52 c52 (fs := [(3, 0), (4, 1)]) (by kernel_rfl) (Lv.sdCons c3 sd3 (Lv.sdCons c4 sd4 Lv.sdNil)) (fun p => rfl) (fun p h => h)
theorem u25 : Tryz.prog.underlying 25 = some (.slice 52) := by kernel_rfl
theorem bk52 : Tryz.prog.bytesOf 52 = 16 := by kernel_rfl
theorem by52 : Tryz.prog.bytesOf 52 ≠ 0 := by rw [show Tryz.prog.bytesOf 52 = 16 by kernel_rfl]; decide
theorem sd25 : Lv.Sd (good (H := H)) enc Tryz.prog W 25 (Lv.eL 2 Lv.eApiPart) 1 (fun x => (x.length * 16 ≤ 140737488351232 ∧ ∀ y ∈ x, (Lv.okApiPart 140737488351232 y))) := Lv.sdSliceB laws (K := 16) u25 c52 (by decide) by52 (Lv.bytesReach u25 bk52) sd52
end
end Go.Proofs.YtiipocnfifahpaaGreatDoor
