/- What the rows' list gives, how arguments are read. -/
import Derived.Test.YtmkgfooomdagmaaDoorXAll
import Derived.Test.YtmkgfooomdagmaaDoorXOk
import Derived.Test.YtmkgfooomdagmaaDoorGwSd
import Derived.Test.YtmkgfooomdagmaaDoorRows
import Derived.Test.YtmkgfooomdagmaaDoorTie
import Derived.Test.YtmkgfooomdagmaaDoorCards
import Derived.Deep.DeepHandedRow
import Derived.Lib.LaidTab
import Derived.Lib.LaidU8T
import Derived.Lib.LaidIn
import Derived.Shelf.Vars
import Derived.WalkKit
import Derived.ProofKit
import Derived.OpenShut
import Derived.ShutString
import Derived.Below
import Derived.Lay
import Derived.SevenTiedAt
namespace Go.Proofs.YtmkgfooomdagmaaDoor
open Go.ChangeShapes Go.WideShapes Go.ChangeAt Go.RowKit
set_option linter.unusedVariables false
set_option linter.unusedSimpArgs false
set_option maxRecDepth 100000
theorem own : ownKnob Tryd.prog.godebug = none := by kernel_rfl
theorem laidOut : laidOutB Tryd.prog = true := by kernel_rfl
theorem bulkAll_sum {H : Type} : ∀ l : List (DataW H), Rows.uptoBulkAll l = (l.map Rows.uptoBulk).sum
 | [] => rfl
 | d :: l => by simp only [Rows.uptoBulkAll, List.map_cons, List.sum_cons, bulkAll_sum l]
theorem bulkLaws {H : Type} : Lv.BulkLaws (Rows.uptoBulk (H := H)) where
 one d := by
  cases d with
  | lit l => cases l <;> simp [Rows.uptoBulk]
  | _ => simp [Rows.uptoBulk]
 str bs := by simp [Rows.uptoBulk]
 agg ps := by simp only [Rows.uptoBulk, bulkAll_sum]; exact Nat.le_refl _
 slice es r := by simp only [Rows.uptoBulk, bulkAll_sum]; omega
@[reducible] def mkTab (W : World) : Lv.BaseTab := ⟨fun a => W.cell? a⟩
theorem tabOk {W : World} (hT : Go.Lib.Utf8Tabs (Tryd.laysValid_ren.g 3) (Tryd.laysValid_ren.g 4) W) : @Lv.TabOk (mkTab W) :=
 @Lv.TabOk.mk (mkTab W) (fun w hw => ⟨fun c hc => hw _ _ (hT.1 c hc), fun i hi => ⟨hw _ _ (hT.2 i hi).1, hw _ _ (hT.2 i hi).2⟩⟩)
theorem tabs_of {W : World} {l : List (String × DataW Unit)} (hL : laidMetH Tryd.prog l W) (h1 : ("unicode/utf8.first", Go.Lib.firstData) ∈ l) (h2 : ("unicode/utf8.acceptRanges", Go.Lib.acceptData) ∈ l) (hh : (l.all fun x => x.2.handleName?.isNone) = true) :
  Go.Lib.Utf8Tabs (Tryd.laysValid_ren.g 3) (Tryd.laysValid_ren.g 4) W := by
 rw [MakeChecks.laidMetH_plain _ _ _ hh] at hL
 exact utf8Tabs_of_readsT (U8Types.of196 Tryd.laysValid) ⟨by kernel_rfl, by kernel_rfl, by kernel_rfl, by kernel_rfl, by kernel_rfl, by kernel_rfl, by kernel_rfl⟩ (Go.Lib.laidMet.reads hL h1) (Go.Lib.laidMet.reads hL h2)
theorem first_eq : Go.Pinned.utf8First = Go.Lib.firstData := by kernel_rfl
theorem accept_eq : (Rows.laid_unicode_utf8_acceptRanges : DataW Unit) = Go.Lib.acceptData := by kernel_rfl
def good {H : Type} (t : TypeId) (d : DataW H) : Prop := ∀ n ∈ d.weights Tryd.prog t, n ≤ reachBytes
theorem laws {H : Type} : Lv.GoodLaws (H := H) Tryd.prog 140737488351232 (good (H := H)) := Lv.goodReach Tryd.prog
theorem good_of {H : Type} {ts : List TypeId} {ds : List (DataW H)} (h : (DataW.weightsEach Tryd.prog ts ds).all (· ≤ reachBytes) = true) {j : Nat} {t : TypeId} {d : DataW H} (ht : ts[j]? = some t) (hd : ds[j]? = some d) : good t d :=
 fun n hn => by simpa using List.all_eq_true.1 h n (DataW.weights_mem_each ht hd n hn)
section
variable {H : Type} {enc : TypeId × Value → H} {W : World}
theorem c3 : Tryd.prog.cellsOf 3 = 1 := by kernel_rfl
theorem u3 : Tryd.prog.underlying 3 = some (.int .i64) := by kernel_rfl
theorem sd3 : Lv.Sd (good (H := H)) enc Tryd.prog W 3 Lv.eI 1 (fun x => (-9223372036854775808 ≤ x ∧ x < 9223372036854775808)) := Lv.sdI64 laws u3
theorem c51 : Tryd.prog.cellsOf 51 = 1 := by kernel_rfl
theorem c4 : Tryd.prog.cellsOf 4 = 1 := by kernel_rfl
theorem u4 : Tryd.prog.underlying 4 = some (.bool) := by kernel_rfl
theorem sd4 : Lv.Sd (good (H := H)) enc Tryd.prog W 4 Lv.eB 1 (fun x => True) := Lv.sdBool laws u4
theorem c50 : Tryd.prog.cellsOf 50 = 1 := by kernel_rfl
theorem u50 : Tryd.prog.underlying 50 = some (.slice 3) := by kernel_rfl
theorem bk3 : Tryd.prog.bytesOf 3 = 8 := by kernel_rfl
theorem by3 : Tryd.prog.bytesOf 3 ≠ 0 := by rw [show Tryd.prog.bytesOf 3 = 8 by kernel_rfl]; decide
theorem sd50 : Lv.Sd (good (H := H)) enc Tryd.prog W 50 (Lv.eL 1 Lv.eI) 1 (fun x => (x.length * 8 ≤ 140737488351232 ∧ ∀ y ∈ x, (-9223372036854775808 ≤ y ∧ y < 9223372036854775808))) := Lv.sdSliceB laws (K := 8) u50 c3 (by decide) by3 (Lv.bytesReach u50 bk3) sd3
theorem c83 : Tryd.prog.cellsOf 83 = 1 := by kernel_rfl
theorem u92 : Tryd.prog.underlying 92 = some (.struct (Tryd.prog.fieldsOf 92)) := by kernel_rfl
theorem c92 : Tryd.prog.cellsOf 92 = 2 := by kernel_rfl
theorem sd92 : Lv.Sd (good (H := H)) enc Tryd.prog W 92 Lv.eApiPart 2 (fun x => (Lv.okApiPart 140737488351232 x)) := Lv.sdStruct laws (fun p : Int × Bool × Unit => (⟨p.1, p.2.1⟩ : Lv.ApiPart)) u92 c92 (fs := [(3, 0), (4, 1)]) (by kernel_rfl) (Lv.sdCons c3 sd3 (Lv.sdCons c4 sd4 Lv.sdNil)) (fun p => rfl) (fun p h => h)
theorem u83 : Tryd.prog.underlying 83 = some (.slice 92) := by kernel_rfl
theorem bk92 : Tryd.prog.bytesOf 92 = 16 := by kernel_rfl
theorem by92 : Tryd.prog.bytesOf 92 ≠ 0 := by rw [show Tryd.prog.bytesOf 92 = 16 by kernel_rfl]; decide
theorem sd83 : Lv.Sd (good (H := H)) enc Tryd.prog W 83 (Lv.eL 2 Lv.eApiPart) 1 (fun x => (x.length * 16 ≤ 140737488351232 ∧ ∀ y ∈ x, (Lv.okApiPart 140737488351232 y))) := Lv.sdSliceB laws (K := 16) u83 c92 (by decide) by92 (Lv.bytesReach u83 bk92) sd92
theorem c9 : Tryd.prog.cellsOf 9 = 1 := by kernel_rfl
theorem u9 : Tryd.prog.underlying 9 = some (.string) := by kernel_rfl
theorem sd9 : Lv.Sd (good (H := H)) enc Tryd.prog W 9 Lv.eS 1 (fun x => (x.length ≤ 140737488351232)) := Lv.sdStr laws u9
theorem u85 : Tryd.prog.underlying 85 = some (.struct (Tryd.prog.fieldsOf 85)) := by kernel_rfl
theorem c85 : Tryd.prog.cellsOf 85 = 6 := by kernel_rfl
theorem sd85 : Lv.Sd (good (H := H)) enc Tryd.prog W 85 Lv.eApiIndex 6 (fun x => (Lv.okApiIndex 140737488351232 x)) := Lv.sdStruct laws (fun p : List UInt8 × List Lv.ApiPart × List Int × Bool × Bool × Int × Unit => (⟨p.1, p.2.1, p.2.2.1, p.2.2.2.1, p.2.2.2.2.1, p.2.2.2.2.2.1⟩ : Lv.ApiIndex)) u85 c85 (fs := [(9, 0), (83, 1), (50, 2), (4, 3), (4, 4), (3, 5)]) (by kernel_rfl) (Lv.sdCons c9 sd9 (Lv.sdCons c83 sd83 (Lv.sdCons c50 sd50 (Lv.sdCons c4 sd4 (Lv.sdCons c4 sd4 (Lv.sdCons c3 sd3 Lv.sdNil)))))) (fun p => rfl) (fun p h => h)
theorem u51 : Tryd.prog.underlying 51 = some (.slice 85) := by kernel_rfl
theorem bk85 : Tryd.prog.bytesOf 85 = 80 := by kernel_rfl
theorem by85 : Tryd.prog.bytesOf 85 ≠ 0 := by rw [show Tryd.prog.bytesOf 85 = 80 by kernel_rfl]; decide
theorem sd51 : Lv.Sd (good (H := H)) enc Tryd.prog W 51 (Lv.eL 6 Lv.eApiIndex) 1 (fun x => (x.length * 80 ≤ 140737488351232 ∧ ∀ y ∈ x, (Lv.okApiIndex 140737488351232 y))) := Lv.sdSliceB laws (K := 80) u51 c85 (by decide) by85 (Lv.bytesReach u51 bk85) sd85
theorem c49 : Tryd.prog.cellsOf 49 = 1 := by kernel_rfl
theorem c60 : Tryd.prog.cellsOf 60 = 3 := by kernel_rfl
theorem c35 : Tryd.prog.cellsOf 35 = 1 := by kernel_rfl
theorem u35 : Tryd.prog.underlying 35 = some (.int .u64) := by kernel_rfl
theorem sd35 : Lv.Sd (good (H := H)) enc Tryd.prog W 35 Lv.eU64 1 (fun x => True) := Lv.sdU64 laws u35
theorem u60 : Tryd.prog.underlying 60 = some (.struct (Tryd.prog.fieldsOf 60)) := by kernel_rfl
theorem sd60 : Lv.Sd (good (H := H)) enc Tryd.prog W 60 Lv.eApiValue 3 (fun x => (Lv.okApiValue 140737488351232 x)) := Lv.sdStruct laws (fun p : Int × UInt64 × List UInt8 × Unit => (⟨p.1, p.2.1, p.2.2.1⟩ : Lv.ApiValue)) u60 c60 (fs := [(3, 0), (35, 1), (9, 2)]) (by kernel_rfl) (Lv.sdCons c3 sd3 (Lv.sdCons c35 sd35 (Lv.sdCons c9 sd9 Lv.sdNil))) (fun p => rfl) (fun p h => h)
theorem u62 : Tryd.prog.underlying 62 = some (.struct (Tryd.prog.fieldsOf 62)) := by kernel_rfl
theorem c62 : Tryd.prog.cellsOf 62 = 7 := by kernel_rfl
theorem sd62 : Lv.Sd (good (H := H)) enc Tryd.prog W 62 Lv.eApiColumn 7 (fun x => (Lv.okApiColumn 140737488351232 x)) := Lv.sdStruct laws (fun p : List UInt8 × Int × Int × Bool × Lv.ApiValue × Unit => (⟨p.1, p.2.1, p.2.2.1, p.2.2.2.1, p.2.2.2.2.1⟩ : Lv.ApiColumn)) u62 c62 (fs := [(9, 0), (3, 1), (3, 2), (4, 3), (60, 4)]) (by kernel_rfl) (Lv.sdCons c9 sd9 (Lv.sdCons c3 sd3 (Lv.sdCons c3 sd3 (Lv.sdCons c4 sd4 (Lv.sdCons c60 sd60 Lv.sdNil))))) (fun p => rfl) (fun p h => h)
theorem u49 : Tryd.prog.underlying 49 = some (.slice 62) := by kernel_rfl
theorem bk62 : Tryd.prog.bytesOf 62 = 72 := by kernel_rfl
theorem by62 : Tryd.prog.bytesOf 62 ≠ 0 := by rw [show Tryd.prog.bytesOf 62 = 72 by kernel_rfl]; decide
theorem sd49 : Lv.Sd (good (H := H)) enc Tryd.prog W 49 (Lv.eL 7 Lv.eApiColumn) 1 (fun x => (x.length * 72 ≤ 140737488351232 ∧ ∀ y ∈ x, (Lv.okApiColumn 140737488351232 y))) := Lv.sdSliceB laws (K := 72) u49 c62 (by decide) by62 (Lv.bytesReach u49 bk62) sd62
theorem u53 : Tryd.prog.underlying 53 = some (.struct (Tryd.prog.fieldsOf 53)) := by kernel_rfl
theorem c53 : Tryd.prog.cellsOf 53 = 5 := by kernel_rfl
theorem sd53 : Lv.Sd (good (H := H)) enc Tryd.prog W 53 Lv.eApiTable 5 (fun x => (Lv.okApiTable 140737488351232 x)) := Lv.sdStruct laws (fun p : List UInt8 × List Lv.ApiColumn × List Int × List Lv.ApiIndex × Int × Unit => (⟨p.1, p.2.1, p.2.2.1, p.2.2.2.1, p.2.2.2.2.1⟩ : Lv.ApiTable)) u53 c53 (fs := [(9, 0), (49, 1), (50, 2), (51, 3), (3, 4)]) (by kernel_rfl) (Lv.sdCons c9 sd9 (Lv.sdCons c49 sd49 (Lv.sdCons c50 sd50 (Lv.sdCons c51 sd51 (Lv.sdCons c3 sd3 Lv.sdNil))))) (fun p => rfl) (fun p h => h)
theorem u45 : Tryd.prog.underlying 45 = some (.slice 53) := by kernel_rfl
theorem bk53 : Tryd.prog.bytesOf 53 = 96 := by kernel_rfl
theorem by53 : Tryd.prog.bytesOf 53 ≠ 0 := by rw [show Tryd.prog.bytesOf 53 = 96 by kernel_rfl]; decide
theorem sd45 : Lv.Sd (good (H := H)) enc Tryd.prog W 45 (Lv.eL 5 Lv.eApiTable) 1 (fun x => (x.length * 96 ≤ 140737488351232 ∧ ∀ y ∈ x, (Lv.okApiTable 140737488351232 y))) := Lv.sdSliceB laws (K := 96) u45 c53 (by decide) by53 (Lv.bytesReach u45 bk53) sd53
end
end Go.Proofs.YtmkgfooomdagmaaDoor
