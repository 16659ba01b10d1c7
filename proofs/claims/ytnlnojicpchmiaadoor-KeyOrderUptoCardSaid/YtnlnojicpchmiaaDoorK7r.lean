/- Layer 07: what the rows' list and the bound give, how arguments are read. -/
import Derived.Test.YtnlnojicpchmiaaDoorXAll
import Derived.Test.YtnlnojicpchmiaaDoorRows
import Derived.Test.YtnlnojicpchmiaaDoorTie
import Derived.Test.YtnlnojicpchmiaaDoorCards
import Derived.Deep.DeepHandedRow
import Derived.Lib.LaidTab
import Derived.Lib.LaidU8T
import Derived.Lib.LaidIn
import Derived.Shelf.Vars
import Derived.WalkKit
import Derived.ProofKit
import Derived.OpenShut
import Derived.ShutString
import Derived.Below
import Derived.Lay
import Derived.SevenTiedAt
namespace Go.Proofs.YtnlnojicpchmiaaDoor
open Go.ChangeShapes Go.WideShapes Go.ChangeAt Go.RowKit
set_option linter.unusedVariables false
set_option linter.unusedSimpArgs false
set_option maxRecDepth 100000

theorem own : ownKnob Tryd.prog.godebug = none := by kernel_rfl
theorem laidOut : laidOutB Tryd.prog = true := by kernel_rfl

theorem bulkAll_sum {H : Type} : ∀ l : List (DataW H), Rows.uptoBulkAll l = (l.map Rows.uptoBulk).sum
  | [] => rfl
  | d :: l => by simp only [Rows.uptoBulkAll, List.map_cons, List.sum_cons, bulkAll_sum l]
theorem bulkLaws {H : Type} : Lv.BulkLaws (Rows.uptoBulk (H := H)) where
  one d := by
    cases d with
    | lit l => cases l <;> simp [Rows.uptoBulk]
    | _ => simp [Rows.uptoBulk]
  str bs := by simp [Rows.uptoBulk]
  agg ps := by simp only [Rows.uptoBulk, bulkAll_sum]; exact Nat.le_refl _
  slice es r := by simp only [Rows.uptoBulk, bulkAll_sum]; omega

/-- All that memory holds at the start. -/
@[reducible] def mkTab (W : World) : Lv.BaseTab := ⟨fun a => W.cell? a⟩
theorem tabOk {W : World} (hT : Go.Lib.Utf8Tabs (Tryd.laysValid_ren.g 3) (Tryd.laysValid_ren.g 4) W) (hm : ∃ m, W.cell? ⟨2, 0, none⟩ = some (.int .i64 m)) : @Lv.TabOk (mkTab W) :=
  @Lv.TabOk.mk (mkTab W) (fun w hw => ⟨fun c hc => hw _ _ (hT.1 c hc), fun i hi => ⟨hw _ _ (hT.2 i hi).1, hw _ _ (hT.2 i hi).2⟩⟩) hm
theorem tabs_of {W : World} {l : List (String × DataW Unit)} (hL : laidMetH Tryd.prog l W) (h1 : ("unicode/utf8.first", Go.Lib.firstData) ∈ l) (h2 : ("unicode/utf8.acceptRanges", Go.Lib.acceptData) ∈ l) (hh : (l.all fun x => x.2.handleName?.isNone) = true) :
    Go.Lib.Utf8Tabs (Tryd.laysValid_ren.g 3) (Tryd.laysValid_ren.g 4) W := by
  rw [MakeChecks.laidMetH_plain _ _ _ hh] at hL
  exact utf8Tabs_of_readsT (U8Types.of196 Tryd.laysValid) ⟨by kernel_rfl, by kernel_rfl, by kernel_rfl, by kernel_rfl, by kernel_rfl, by kernel_rfl, by kernel_rfl⟩ (Go.Lib.laidMet.reads hL h1) (Go.Lib.laidMet.reads hL h2)
theorem first_eq : Go.Pinned.utf8First = Go.Lib.firstData := by kernel_rfl
theorem accept_eq : (Rows.laid_unicode_utf8_acceptRanges : DataW Unit) = Go.Lib.acceptData := by kernel_rfl
theorem maxLen_of {W : World} (h : W.ShapedOpen Tryd.prog) : ∃ m, W.cell? ⟨2, 0, none⟩ = some (.int .i64 m) :=
  cell_of_shapedOpen_int (P := Tryd.prog) (g := 2) (t := 3) (zero := #[.int .i64 0]) h (of_decide_eq_true (by kernel_rfl)) (by kernel_rfl) rfl (by kernel_rfl) (by kernel_rfl) (by kernel_rfl)

/-! Arguments -/
section
variable {H : Type} {enc : TypeId × Value → H} {W : World}
theorem c3 : Tryd.prog.cellsOf 3 = 1 := by kernel_rfl
theorem c4 : Tryd.prog.cellsOf 4 = 1 := by kernel_rfl
theorem c9 : Tryd.prog.cellsOf 9 = 1 := by kernel_rfl
theorem c33 : Tryd.prog.cellsOf 33 = 1 := by kernel_rfl
theorem c35 : Tryd.prog.cellsOf 35 = 3 := by kernel_rfl
theorem u3 : Tryd.prog.underlying 3 = some (.int .i64) := by kernel_rfl
theorem u4 : Tryd.prog.underlying 4 = some .bool := by kernel_rfl
theorem u9 : Tryd.prog.underlying 9 = some .string := by kernel_rfl
theorem u33 : Tryd.prog.underlying 33 = some (.int .u64) := by kernel_rfl
theorem u35 : Tryd.prog.underlying 35 = some (.struct (Tryd.prog.fieldsOf 35)) := by kernel_rfl
theorem u22 : Tryd.prog.underlying 22 = some (.slice 35) := by kernel_rfl
theorem u23 : Tryd.prog.underlying 23 = some (.slice 4) := by kernel_rfl
theorem u24 : Tryd.prog.underlying 24 = some (.slice 3) := by kernel_rfl
theorem rd35 : Lv.Rd Rows.uptoBulk enc Tryd.prog W 35 Lv.eApiValue 3 (fun v => v.S.length + 1) (fun v => -9223372036854775808 ≤ v.Kind ∧ v.Kind < 9223372036854775808) :=
  Lv.rdStruct bulkLaws (fun p : Int × UInt64 × List UInt8 × Unit => ⟨p.1, p.2.1, p.2.2.1⟩) u35 c35 (fs := [(3, 0), (33, 1), (9, 2)]) (by kernel_rfl)
    (Lv.rdCons c3 (Lv.rdI64 bulkLaws u3) (Lv.rdCons c33 (Lv.rdU64 bulkLaws u33) (Lv.rdCons c9 (Lv.rdStr bulkLaws u9) Lv.rdNil)))
    (fun p => rfl) (fun p => by show _ ≤ _; simp only; omega) (fun p h => h.1)
theorem rd22 : Lv.Rd Rows.uptoBulk enc Tryd.prog W 22 (Lv.eL 3 Lv.eApiValue) 1 (fun l => (l.map fun v => v.S.length + 1).sum + 1) (fun l => ∀ v ∈ l, -9223372036854775808 ≤ v.Kind ∧ v.Kind < 9223372036854775808) := Lv.rdSlice bulkLaws u22 c35 (by decide) rd35
theorem rd23 : Lv.Rd Rows.uptoBulk enc Tryd.prog W 23 (Lv.eL 1 Lv.eB) 1 (fun l => (l.map fun _ => 1).sum + 1) (fun l => ∀ v ∈ l, True) := Lv.rdSlice bulkLaws u23 c4 (by decide) (Lv.rdBool bulkLaws u4)
theorem rd24 : Lv.Rd Rows.uptoBulk enc Tryd.prog W 24 (Lv.eL 1 Lv.eI) 1 (fun l => (l.map fun _ => 1).sum + 1) (fun l => ∀ v ∈ l, -9223372036854775808 ≤ v ∧ v < 9223372036854775808) := Lv.rdSlice bulkLaws u24 c3 (by decide) (Lv.rdI64 bulkLaws u3)
theorem rd9 : Lv.Rd Rows.uptoBulk enc Tryd.prog W 9 Lv.eS 1 (fun s => s.length + 1) (fun _ => True) := Lv.rdStr bulkLaws u9
theorem rd3 : Lv.Rd Rows.uptoBulk enc Tryd.prog W 3 Lv.eI 1 (fun _ => 1) (fun n => -9223372036854775808 ≤ n ∧ n < 9223372036854775808) := Lv.rdI64 bulkLaws u3
end
theorem sum_one {α : Type} (l : List α) : (l.map fun _ => 1).sum = l.length := by induction l <;> simp_all; omega
theorem sm_of {l : List Lv.ApiValue} (h : (l.map fun v => v.S.length + 1).sum ≤ 1048576) : l.length ≤ 1048576 ∧ ∀ v ∈ l, v.S.length ≤ 1048576 := by
  have key : ∀ l : List Lv.ApiValue, l.length ≤ (l.map fun v => v.S.length + 1).sum ∧ ∀ v ∈ l, v.S.length ≤ (l.map fun v => v.S.length + 1).sum := by
    intro l
    induction l with
    | nil => simp
    | cons x l ih =>
      simp only [List.map_cons, List.sum_cons, List.length_cons, List.mem_cons]
      refine ⟨by omega, fun v hv => ?_⟩
      rcases hv with rfl | hv
      · omega
      · have := ih.2 v hv; omega
  have := key l
  exact ⟨by omega, fun v hv => by have := this.2 v hv; omega⟩
end Go.Proofs.YtnlnojicpchmiaaDoor
