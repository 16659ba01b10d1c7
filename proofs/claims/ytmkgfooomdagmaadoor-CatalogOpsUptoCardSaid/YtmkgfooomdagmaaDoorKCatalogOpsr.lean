/- What the rows' list gives, how arguments are read. -/
import Derived.Test.YtmkgfooomdagmaaDoorXAll
import Derived.Test.YtmkgfooomdagmaaDoorXOk
import Derived.Test.YtmkgfooomdagmaaDoorGwSd
import Derived.Test.YtmkgfooomdagmaaDoorRows
import Derived.Test.YtmkgfooomdagmaaDoorTie
import Derived.Test.YtmkgfooomdagmaaDoorCards
import Derived.Deep.DeepHandedRow
import Derived.Lib.LaidTab
import Derived.Lib.LaidU8T
import Derived.Lib.LaidIn
import Derived.Shelf.Vars
import Derived.WalkKit
import Derived.ProofKit
import Derived.OpenShut
import Derived.ShutString
import Derived.Below
import Derived.Lay
import Derived.SevenTiedAt
namespace Go.Proofs.YtmkgfooomdagmaaDoor
open Go.ChangeShapes Go.WideShapes Go.ChangeAt Go.RowKit
set_option linter.unusedVariables false
set_option linter.unusedSimpArgs false
set_option maxRecDepth 100000
theorem own : ownKnob Tryd.prog.godebug = none := by kernel_rfl
theorem laidOut : laidOutB Tryd.prog = true := by kernel_rfl
theorem bulkAll_sum {H : Type} : ∀ l : List (DataW H), Rows.uptoBulkAll l = (l.map Rows.uptoBulk).sum
 | [] => rfl
 | d :: l => by simp only [Rows.uptoBulkAll, List.map_cons, List.sum_cons, bulkAll_sum l]
theorem bulkLaws {H : Type} : Lv.BulkLaws (Rows.uptoBulk (H := H)) where
 one d := by
  cases d with
  | lit l => cases l <;> simp [Rows.uptoBulk]
  | _ => simp [Rows.uptoBulk]
 str bs := by simp [Rows.uptoBulk]
 agg ps := by simp only [Rows.uptoBulk, bulkAll_sum]; exact Nat.le_refl _
 slice es r := by simp only [Rows.uptoBulk, bulkAll_sum]; omega
@[reducible] def mkTab (W : World) : Lv.BaseTab := ⟨fun a => W.cell? a⟩
theorem tabOk {W : World} (hT : Go.Lib.Utf8Tabs (Tryd.laysValid_ren.g 3) (Tryd.laysValid_ren.g 4) W) : @Lv.TabOk (mkTab W) :=
 @Lv.TabOk.mk (mkTab W) (fun w hw => ⟨fun c hc => hw _ _ (hT.1 c hc), fun i hi => ⟨hw _ _ (hT.2 i hi).1, hw _ _ (hT.2 i hi).2⟩⟩)
theorem tabs_of {W : World} {l : List (String × DataW Unit)} (hL : laidMetH Tryd.prog l W) (h1 : ("unicode/utf8.first", Go.Lib.firstData) ∈ l) (h2 : ("unicode/utf8.acceptRanges", Go.Lib.acceptData) ∈ l) (hh : (l.all fun x => x.2.handleName?.isNone) = true) :
  Go.Lib.Utf8Tabs (Tryd.laysValid_ren.g 3) (Tryd.laysValid_ren.g 4) W := by
 rw [MakeChecks.laidMetH_plain _ _ _ hh] at hL
 exact utf8Tabs_of_readsT (U8Types.of196 Tryd.laysValid) ⟨by kernel_rfl, by kernel_rfl, by kernel_rfl, by kernel_rfl, by kernel_rfl, by kernel_rfl, by kernel_rfl⟩ (Go.Lib.laidMet.reads hL h1) (Go.Lib.laidMet.reads hL h2)
theorem first_eq : Go.Pinned.utf8First = Go.Lib.firstData := by kernel_rfl
theorem accept_eq : (Rows.laid_unicode_utf8_acceptRanges : DataW Unit) = Go.Lib.acceptData := by kernel_rfl
def good {H : Type} (_ : TypeId) (d : DataW H) : Prop := Rows.uptoBulk d ≤ 1048576
theorem laws {H : Type} : Lv.GoodLaws (H := H) Tryd.prog 1048576 (good (H := H)) := Lv.goodBulk Tryd.prog bulkLaws 1048576
theorem good_of {H : Type} {ds : List (DataW H)} (h : Rows.uptoBulkAll ds ≤ 1048576) {j : Nat} {d : DataW H} (hd : ds[j]? = some d) (t : TypeId) : good t d := by
 show Rows.uptoBulk d ≤ 1048576
 rw [bulkAll_sum] at h
 have key : ∀ (l : List (DataW H)), d ∈ l → Rows.uptoBulk d ≤ (l.map Rows.uptoBulk).sum := by
  intro l
  induction l with
  | nil => intro h; cases h
  | cons x l ih =>
   intro h
   simp only [List.map_cons, List.sum_cons]
   rcases List.mem_cons.1 h with rfl | h
   ·omega
   ·have := ih h; omega
 have := key ds (List.mem_of_getElem? hd)
 omega
section
variable {H : Type} {enc : TypeId × Value → H} {W : World}
theorem u3 : Tryd.prog.underlying 3 = some (.int .i64) := by kernel_rfl
theorem sd3 : Lv.Sd (good (H := H)) enc Tryd.prog W 3 Lv.eI 1 (fun x => (-9223372036854775808 ≤ x ∧ x < 9223372036854775808)) := Lv.sdI64 laws u3
theorem c9 : Tryd.prog.cellsOf 9 = 1 := by kernel_rfl
theorem u9 : Tryd.prog.underlying 9 = some (.string) := by kernel_rfl
theorem sd9 : Lv.Sd (good (H := H)) enc Tryd.prog W 9 Lv.eS 1 (fun x => (x.length ≤ 1048576)) := Lv.sdStr laws u9
theorem u25 : Tryd.prog.underlying 25 = some (.struct (Tryd.prog.fieldsOf 25)) := by kernel_rfl
theorem c25 : Tryd.prog.cellsOf 25 = 2 := by kernel_rfl
theorem sd25 : Lv.Sd (good (H := H)) enc Tryd.prog W 25 Lv.eApiPair 2 (fun x => (Lv.okApiPair 1048576 x)) := Lv.sdStruct laws (fun p : List UInt8 × List UInt8 × Unit => (⟨p.1, p.2.1⟩ : Lv.ApiPair)) u25 c25 (fs := [(9, 0), (9, 1)]) (by kernel_rfl) (Lv.sdCons c9 sd9 (Lv.sdCons c9 sd9 Lv.sdNil)) (fun p => rfl) (fun p h => h)
theorem u22 : Tryd.prog.underlying 22 = some (.slice 25) := by kernel_rfl
theorem by25 : Tryd.prog.bytesOf 25 ≠ 0 := by rw [show Tryd.prog.bytesOf 25 = 32 by kernel_rfl]; decide
theorem sd22 : Lv.Sd (good (H := H)) enc Tryd.prog W 22 (Lv.eL 2 Lv.eApiPair) 1 (fun x => (x.length ≤ 1048576 ∧ ∀ y ∈ x, (Lv.okApiPair 1048576 y))) := Lv.sdSlice laws u22 c25 (by decide) by25 sd25
theorem u4 : Tryd.prog.underlying 4 = some (.bool) := by kernel_rfl
end
end Go.Proofs.YtmkgfooomdagmaaDoor
