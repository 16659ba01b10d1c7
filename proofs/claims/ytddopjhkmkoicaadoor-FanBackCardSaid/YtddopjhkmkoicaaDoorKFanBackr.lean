/- What the rows' list gives, how arguments are read. -/
import Derived.Test.YtddopjhkmkoicaaDoorXAll
import Derived.Test.YtddopjhkmkoicaaDoorXOk
import Derived.Test.YtddopjhkmkoicaaDoorGwSd
import Derived.Test.YtddopjhkmkoicaaDoorRows
import Derived.Test.YtddopjhkmkoicaaDoorTie
import Derived.Test.YtddopjhkmkoicaaDoorCards
import Derived.Deep.DeepHandedRow
import Derived.Lib.LaidTab
import Derived.Lib.LaidU8T
import Derived.Lib.LaidIn
import Derived.Shelf.Vars
import Derived.WalkKit
import Derived.ProofKit
import Derived.OpenShut
import Derived.ShutString
import Derived.Below
import Derived.Lay
import Derived.SevenTiedAt
namespace Go.Proofs.YtddopjhkmkoicaaDoor
open Go.ChangeShapes Go.WideShapes Go.ChangeAt Go.RowKit
set_option linter.unusedVariables false
set_option linter.unusedSimpArgs false
set_option maxRecDepth 100000
theorem own : ownKnob Tryd.prog.godebug = none := by kernel_rfl
theorem laidOut : laidOutB Tryd.prog = true := by kernel_rfl
theorem bulkAll_sum {H : Type} : ∀ l : List (DataW H), Rows.uptoBulkAll l = (l.map Rows.uptoBulk).sum
 | [] => rfl
 | d :: l => by simp only [Rows.uptoBulkAll, List.map_cons, List.sum_cons, bulkAll_sum l]
theorem bulkLaws {H : Type} : Lv.BulkLaws (Rows.uptoBulk (H := H)) where
 one d := by
  cases d with
  | lit l => cases l <;> simp [Rows.uptoBulk]
  | _ => simp [Rows.uptoBulk]
 str bs := by simp [Rows.uptoBulk]
 agg ps := by simp only [Rows.uptoBulk, bulkAll_sum]; exact Nat.le_refl _
 slice es r := by simp only [Rows.uptoBulk, bulkAll_sum]; omega
@[reducible] def mkTab (W : World) : Lv.BaseTab := ⟨fun a => W.cell? a⟩
theorem tabOk {W : World} (hT : Go.Lib.Utf8Tabs (Tryd.laysValid_ren.g 3) (Tryd.laysValid_ren.g 4) W) (hm : ∃ m, W.cell? ⟨2, 0, none⟩ = some (.int .i64 m)) : @Lv.TabOk (mkTab W) :=
 @Lv.TabOk.mk (mkTab W) (fun w hw => ⟨fun c hc => hw _ _ (hT.1 c hc), fun i hi => ⟨hw _ _ (hT.2 i hi).1, hw _ _ (hT.2 i hi).2⟩⟩) hm
theorem tabs_of {W : World} {l : List (String × DataW Unit)} (hL : laidMetH Tryd.prog l W) (h1 : ("unicode/utf8.first", Go.Lib.firstData) ∈ l) (h2 : ("unicode/utf8.acceptRanges", Go.Lib.acceptData) ∈ l) (hh : (l.all fun x => x.2.handleName?.isNone) = true) :
  Go.Lib.Utf8Tabs (Tryd.laysValid_ren.g 3) (Tryd.laysValid_ren.g 4) W := by
 rw [MakeChecks.laidMetH_plain _ _ _ hh] at hL
 exact utf8Tabs_of_readsT (U8Types.of196 Tryd.laysValid) ⟨by kernel_rfl, by kernel_rfl, by kernel_rfl, by kernel_rfl, by kernel_rfl, by kernel_rfl, by kernel_rfl⟩ (Go.Lib.laidMet.reads hL h1) (Go.Lib.laidMet.reads hL h2)
theorem first_eq : Go.Pinned.utf8First = Go.Lib.firstData := by kernel_rfl
theorem accept_eq : (Rows.laid_unicode_utf8_acceptRanges : DataW Unit) = Go.Lib.acceptData := by kernel_rfl
theorem maxLen_of {W : World} (h : W.ShapedOpen Tryd.prog) : ∃ m, W.cell? ⟨2, 0, none⟩ = some (.int .i64 m) :=
 cell_of_shapedOpen_int (P := Tryd.prog) (g := 2) (t := 3) (zero := #[.int .i64 0]) h (of_decide_eq_true (by kernel_rfl)) (by kernel_rfl) rfl (by kernel_rfl) (by kernel_rfl) (by kernel_rfl)
def good {H : Type} (t : TypeId) (d : DataW H) : Prop := ∀ n ∈ d.weights Tryd.prog t, n ≤ reachBytes
theorem laws {H : Type} : Lv.GoodLaws (H := H) Tryd.prog 140737488351232 (good (H := H)) := Lv.goodReach Tryd.prog
theorem good_of {H : Type} {ts : List TypeId} {ds : List (DataW H)} (h : (DataW.weightsEach Tryd.prog ts ds).all (· ≤ reachBytes) = true) {j : Nat} {t : TypeId} {d : DataW H} (ht : ts[j]? = some t) (hd : ds[j]? = some d) : good t d :=
 fun n hn => by simpa using List.all_eq_true.1 h n (DataW.weights_mem_each ht hd n hn)
section
variable {H : Type} {enc : TypeId × Value → H} {W : World}
theorem c3 : Tryd.prog.cellsOf 3 = 1 := by kernel_rfl
theorem u3 : Tryd.prog.underlying 3 = some (.int .i64) := by kernel_rfl
theorem sd3 : Lv.Sd (good (H := H)) enc Tryd.prog W 3 Lv.eI 1 (fun x => (-9223372036854775808 ≤ x ∧ x < 9223372036854775808)) := Lv.sdI64 laws u3
theorem c24 : Tryd.prog.cellsOf 24 = 1 := by kernel_rfl
theorem c4 : Tryd.prog.cellsOf 4 = 1 := by kernel_rfl
theorem u4 : Tryd.prog.underlying 4 = some (.bool) := by kernel_rfl
theorem sd4 : Lv.Sd (good (H := H)) enc Tryd.prog W 4 Lv.eB 1 (fun x => True) := Lv.sdBool laws u4
theorem c23 : Tryd.prog.cellsOf 23 = 1 := by kernel_rfl
theorem u23 : Tryd.prog.underlying 23 = some (.slice 3) := by kernel_rfl
theorem bk3 : Tryd.prog.bytesOf 3 = 8 := by kernel_rfl
theorem by3 : Tryd.prog.bytesOf 3 ≠ 0 := by rw [show Tryd.prog.bytesOf 3 = 8 by kernel_rfl]; decide
theorem sd23 : Lv.Sd (good (H := H)) enc Tryd.prog W 23 (Lv.eL 1 Lv.eI) 1 (fun x => (x.length * 8 ≤ 140737488351232 ∧ ∀ y ∈ x, (-9223372036854775808 ≤ y ∧ y < 9223372036854775808))) := Lv.sdSliceB laws (K := 8) u23 c3 (by decide) by3 (Lv.bytesReach u23 bk3) sd3
theorem c40 : Tryd.prog.cellsOf 40 = 1 := by kernel_rfl
theorem u76 : Tryd.prog.underlying 76 = some (.struct (Tryd.prog.fieldsOf 76)) := by kernel_rfl
theorem c76 : Tryd.prog.cellsOf 76 = 2 := by kernel_rfl
theorem sd76 : Lv.Sd (good (H := H)) enc Tryd.prog W 76 Lv.eApiPart 2 (fun x => (Lv.okApiPart 140737488351232 x)) := Lv.sdStruct laws (fun p : Int × Bool × Unit => (⟨p.1, p.2.1⟩ : Lv.ApiPart)) u76 c76 (fs := [(3, 0), (4, 1)]) (by kernel_rfl) (Lv.sdCons c3 sd3 (Lv.sdCons c4 sd4 Lv.sdNil)) (fun p => rfl) (fun p h => h)
theorem u40 : Tryd.prog.underlying 40 = some (.slice 76) := by kernel_rfl
theorem bk76 : Tryd.prog.bytesOf 76 = 16 := by kernel_rfl
theorem by76 : Tryd.prog.bytesOf 76 ≠ 0 := by rw [show Tryd.prog.bytesOf 76 = 16 by kernel_rfl]; decide
theorem sd40 : Lv.Sd (good (H := H)) enc Tryd.prog W 40 (Lv.eL 2 Lv.eApiPart) 1 (fun x => (x.length * 16 ≤ 140737488351232 ∧ ∀ y ∈ x, (Lv.okApiPart 140737488351232 y))) := Lv.sdSliceB laws (K := 16) u40 c76 (by decide) by76 (Lv.bytesReach u40 bk76) sd76
theorem c9 : Tryd.prog.cellsOf 9 = 1 := by kernel_rfl
theorem u9 : Tryd.prog.underlying 9 = some (.string) := by kernel_rfl
theorem sd9 : Lv.Sd (good (H := H)) enc Tryd.prog W 9 Lv.eS 1 (fun x => (x.length ≤ 140737488351232)) := Lv.sdStr laws u9
theorem u42 : Tryd.prog.underlying 42 = some (.struct (Tryd.prog.fieldsOf 42)) := by kernel_rfl
theorem c42 : Tryd.prog.cellsOf 42 = 6 := by kernel_rfl
theorem sd42 : Lv.Sd (good (H := H)) enc Tryd.prog W 42 Lv.eApiIndex 6 (fun x => (Lv.okApiIndex 140737488351232 x)) := Lv.sdStruct laws (fun p : List UInt8 × List Lv.ApiPart × List Int × Bool × Bool × Int × Unit => (⟨p.1, p.2.1, p.2.2.1, p.2.2.2.1, p.2.2.2.2.1, p.2.2.2.2.2.1⟩ : Lv.ApiIndex)) u42 c42 (fs := [(9, 0), (40, 1), (23, 2), (4, 3), (4, 4), (3, 5)]) (by kernel_rfl) (Lv.sdCons c9 sd9 (Lv.sdCons c40 sd40 (Lv.sdCons c23 sd23 (Lv.sdCons c4 sd4 (Lv.sdCons c4 sd4 (Lv.sdCons c3 sd3 Lv.sdNil)))))) (fun p => rfl) (fun p h => h)
theorem u24 : Tryd.prog.underlying 24 = some (.slice 42) := by kernel_rfl
theorem bk42 : Tryd.prog.bytesOf 42 = 80 := by kernel_rfl
theorem by42 : Tryd.prog.bytesOf 42 ≠ 0 := by rw [show Tryd.prog.bytesOf 42 = 80 by kernel_rfl]; decide
theorem sd24 : Lv.Sd (good (H := H)) enc Tryd.prog W 24 (Lv.eL 6 Lv.eApiIndex) 1 (fun x => (x.length * 80 ≤ 140737488351232 ∧ ∀ y ∈ x, (Lv.okApiIndex 140737488351232 y))) := Lv.sdSliceB laws (K := 80) u24 c42 (by decide) by42 (Lv.bytesReach u24 bk42) sd42
theorem c22 : Tryd.prog.cellsOf 22 = 1 := by kernel_rfl
theorem c72 : Tryd.prog.cellsOf 72 = 3 := by kernel_rfl
theorem c59 : Tryd.prog.cellsOf 59 = 1 := by kernel_rfl
theorem u59 : Tryd.prog.underlying 59 = some (.int .u64) := by kernel_rfl
theorem sd59 : Lv.Sd (good (H := H)) enc Tryd.prog W 59 Lv.eU64 1 (fun x => True) := Lv.sdU64 laws u59
theorem u72 : Tryd.prog.underlying 72 = some (.struct (Tryd.prog.fieldsOf 72)) := by kernel_rfl
theorem sd72 : Lv.Sd (good (H := H)) enc Tryd.prog W 72 Lv.eApiValue 3 (fun x => (Lv.okApiValue 140737488351232 x)) := Lv.sdStruct laws (fun p : Int × UInt64 × List UInt8 × Unit => (⟨p.1, p.2.1, p.2.2.1⟩ : Lv.ApiValue)) u72 c72 (fs := [(3, 0), (59, 1), (9, 2)]) (by kernel_rfl) (Lv.sdCons c3 sd3 (Lv.sdCons c59 sd59 (Lv.sdCons c9 sd9 Lv.sdNil))) (fun p => rfl) (fun p h => h)
theorem u74 : Tryd.prog.underlying 74 = some (.struct (Tryd.prog.fieldsOf 74)) := by kernel_rfl
theorem c74 : Tryd.prog.cellsOf 74 = 7 := by kernel_rfl
theorem sd74 : Lv.Sd (good (H := H)) enc Tryd.prog W 74 Lv.eApiColumn 7 (fun x => (Lv.okApiColumn 140737488351232 x)) := Lv.sdStruct laws (fun p : List UInt8 × Int × Int × Bool × Lv.ApiValue × Unit => (⟨p.1, p.2.1, p.2.2.1, p.2.2.2.1, p.2.2.2.2.1⟩ : Lv.ApiColumn)) u74 c74 (fs := [(9, 0), (3, 1), (3, 2), (4, 3), (72, 4)]) (by kernel_rfl) (Lv.sdCons c9 sd9 (Lv.sdCons c3 sd3 (Lv.sdCons c3 sd3 (Lv.sdCons c4 sd4 (Lv.sdCons c72 sd72 Lv.sdNil))))) (fun p => rfl) (fun p h => h)
theorem u22 : Tryd.prog.underlying 22 = some (.slice 74) := by kernel_rfl
theorem bk74 : Tryd.prog.bytesOf 74 = 72 := by kernel_rfl
theorem by74 : Tryd.prog.bytesOf 74 ≠ 0 := by rw [show Tryd.prog.bytesOf 74 = 72 by kernel_rfl]; decide
theorem sd22 : Lv.Sd (good (H := H)) enc Tryd.prog W 22 (Lv.eL 7 Lv.eApiColumn) 1 (fun x => (x.length * 72 ≤ 140737488351232 ∧ ∀ y ∈ x, (Lv.okApiColumn 140737488351232 y))) := Lv.sdSliceB laws (K := 72) u22 c74 (by decide) by74 (Lv.bytesReach u22 bk74) sd74
theorem u26 : Tryd.prog.underlying 26 = some (.struct (Tryd.prog.fieldsOf 26)) := by kernel_rfl
theorem c26 : Tryd.prog.cellsOf 26 = 5 := by kernel_rfl
theorem sd26 : Lv.Sd (good (H := H)) enc Tryd.prog W 26 Lv.eApiTable 5 (fun x => (Lv.okApiTable 140737488351232 x)) := Lv.sdStruct laws (fun p : List UInt8 × List Lv.ApiColumn × List Int × List Lv.ApiIndex × Int × Unit => (⟨p.1, p.2.1, p.2.2.1, p.2.2.2.1, p.2.2.2.2.1⟩ : Lv.ApiTable)) u26 c26 (fs := [(9, 0), (22, 1), (23, 2), (24, 3), (3, 4)]) (by kernel_rfl) (Lv.sdCons c9 sd9 (Lv.sdCons c22 sd22 (Lv.sdCons c23 sd23 (Lv.sdCons c24 sd24 (Lv.sdCons c3 sd3 Lv.sdNil))))) (fun p => rfl) (fun p h => h)
theorem u95 : Tryd.prog.underlying 95 = some (.struct (Tryd.prog.fieldsOf 95)) := by kernel_rfl
theorem c95 : Tryd.prog.cellsOf 95 = 2 := by kernel_rfl
theorem sd95 : Lv.Sd (good (H := H)) enc Tryd.prog W 95 Lv.eFanBuilt 2 (fun x => (Lv.okFanBuilt 140737488351232 x)) := Lv.sdStruct laws (fun p : List UInt8 × Bool × Unit => (⟨p.1, p.2.1⟩ : Lv.FanBuilt)) u95 c95 (fs := [(9, 0), (4, 1)]) (by kernel_rfl) (Lv.sdCons c9 sd9 (Lv.sdCons c4 sd4 Lv.sdNil)) (fun p => rfl) (fun p h => h)
theorem u27 : Tryd.prog.underlying 27 = some (.slice 95) := by kernel_rfl
theorem bk95 : Tryd.prog.bytesOf 95 = 24 := by kernel_rfl
theorem by95 : Tryd.prog.bytesOf 95 ≠ 0 := by rw [show Tryd.prog.bytesOf 95 = 24 by kernel_rfl]; decide
theorem sd27 : Lv.Sd (good (H := H)) enc Tryd.prog W 27 (Lv.eL 2 Lv.eFanBuilt) 1 (fun x => (x.length * 24 ≤ 140737488351232 ∧ ∀ y ∈ x, (Lv.okFanBuilt 140737488351232 y))) := Lv.sdSliceB laws (K := 24) u27 c95 (by decide) by95 (Lv.bytesReach u27 bk95) sd95
theorem u43 : Tryd.prog.underlying 43 = some (.slice 72) := by kernel_rfl
theorem bk72 : Tryd.prog.bytesOf 72 = 32 := by kernel_rfl
theorem by72 : Tryd.prog.bytesOf 72 ≠ 0 := by rw [show Tryd.prog.bytesOf 72 = 32 by kernel_rfl]; decide
theorem sd43 : Lv.Sd (good (H := H)) enc Tryd.prog W 43 (Lv.eL 3 Lv.eApiValue) 1 (fun x => (x.length * 32 ≤ 140737488351232 ∧ ∀ y ∈ x, (Lv.okApiValue 140737488351232 y))) := Lv.sdSliceB laws (K := 32) u43 c72 (by decide) by72 (Lv.bytesReach u43 bk72) sd72
end
end Go.Proofs.YtddopjhkmkoicaaDoor
