/- What the rows' list gives, how arguments are read. -/
import Derived.Test.YtjnpmmiacggffaaGreatDoorXAll
import Derived.Test.YtjnpmmiacggffaaGreatDoorXOk
import Derived.Test.YtjnpmmiacggffaaGreatDoorGwSd
import Derived.Test.YtjnpmmiacggffaaGreatDoorRows
import Derived.Test.YtjnpmmiacggffaaGreatDoorTie
import Derived.Test.YtjnpmmiacggffaaGreatDoorCards
import Derived.Deep.DeepHandedRow
import Derived.Lib.LaidTab
import Derived.Lib.LaidU8T
import Derived.Lib.LaidIn
import Derived.Shelf.Vars
import Derived.WalkKit
import Derived.ProofKit
import Derived.OpenShut
import Derived.ShutString
import Derived.Below
import Derived.Lay
import Derived.SevenTiedAt
namespace Go.Proofs.YtjnpmmiacggffaaGreatDoor
open Go.ChangeShapes Go.WideShapes Go.ChangeAt Go.RowKit
set_option linter.unusedVariables false
set_option linter.unusedSimpArgs false
set_option maxRecDepth 100000
theorem own : ownKnob Tryz.prog.godebug = none := by kernel_rfl
theorem laidOut : laidOutB Tryz.prog = true := by kernel_rfl
theorem A9 {H : Type} : ∀ l : List (DataW H), Rows.uptoBulkAll l = (l.map Rows.uptoBulk).sum
 | [] => rfl
 | d :: l => by simp only [Rows.uptoBulkAll, List.map_cons, List.sum_cons, A9 l]
theorem akm {H : Type} : Lv.Qq (Rows.uptoBulk (H := H)) where
 one d := by
  cases d with
  | lit l => cases l <;> simp [Rows.uptoBulk]
  | _ => simp [Rows.uptoBulk]
 str bs := by simp [Rows.uptoBulk]
 agg ps := by simp only [Rows.uptoBulk, A9]; exact Nat.le_refl _
 slice es r := by simp only [Rows.uptoBulk, A9]; omega
@[reducible] def Pz (W : World) : Lv.bJ := ⟨fun a => W.cell? a⟩
theorem ag5 {W : World} (hT : Go.Lib.Utf8Tabs (Tryz.laysValid_ren.g 3) (Tryz.laysValid_ren.g 4) W) (hm : ∃ m, W.cell? ⟨2, 0, none⟩ = some (.int .i64 m)) : @Lv.uO (Pz W) :=
 @Lv.uO.mk (Pz W) (fun w hw => ⟨fun c hc => hw _ _ (hT.1 c hc), fun i hi => ⟨hw _ _ (hT.2 i hi).1, hw _ _ (hT.2 i hi).2⟩⟩) hm
theorem Ze {W : World} {l : List (String × DataW Unit)} (hL : laidMetH Tryz.prog l W) (h1 : ("unicode/utf8.first", Go.Lib.firstData) ∈ l) (h2 : ("unicode/utf8.acceptRanges", Go.Lib.acceptData) ∈ l) (hh : (l.all fun x => x.2.handleName?.isNone) = true) :
  Go.Lib.Utf8Tabs (Tryz.laysValid_ren.g 3) (Tryz.laysValid_ren.g 4) W := by
 rw [MakeChecks.laidMetH_plain _ _ _ hh] at hL
 exact utf8Tabs_of_readsT (U8Types.of196 Tryz.laysValid) ⟨by kernel_rfl, by kernel_rfl, by kernel_rfl, by kernel_rfl, by kernel_rfl, by kernel_rfl, by kernel_rfl⟩ (Go.Lib.laidMet.reads hL h1) (Go.Lib.laidMet.reads hL h2)
theorem XU : Go.Pinned.utf8First = Go.Lib.firstData := by kernel_rfl
theorem U5 : (Rows.laid_unicode_utf8_acceptRanges : DataW Unit) = Go.Lib.acceptData := by kernel_rfl
theorem Ul {W : World} (h : W.ShapedOpen Tryz.prog) : ∃ m, W.cell? ⟨2, 0, none⟩ = some (.int .i64 m) :=
 cell_of_shapedOpen_int (P := Tryz.prog) (g := 2) (t := 3) (zero := #[.int .i64 0]) h (of_decide_eq_true (by kernel_rfl)) (by kernel_rfl) rfl (by kernel_rfl) (by kernel_rfl) (by kernel_rfl)
def good {H : Type} (t : TypeId) (d : DataW H) : Prop := ∀ n ∈ d.weights Tryz.prog t, n ≤ reachBytes
theorem laws {H : Type} : Lv.Kt (H := H) Tryz.prog 140737488351232 (good (H := H)) := Lv.Uq Tryz.prog
theorem Td {H : Type} {ts : List TypeId} {ds : List (DataW H)} (h : (DataW.weightsEach Tryz.prog ts ds).all (· ≤ reachBytes) = true) {j : Nat} {t : TypeId} {d : DataW H} (ht : ts[j]? = some t) (hd : ds[j]? = some d) : good t d :=
 fun n hn => by simpa using List.all_eq_true.1 h n (DataW.weights_mem_each ht hd n hn)
section
variable {H : Type} {enc : TypeId × Value → H} {W : World}
theorem c3 : Tryz.prog.cellsOf 3 = 1 := by kernel_rfl
theorem u3 : Tryz.prog.underlying 3 = some (.int .i64) := by kernel_rfl
theorem VX : Lv.Sd (good (H := H)) enc Tryz.prog W 3 Lv.eI 1 (fun x => (-9223372036854775808 ≤ x ∧ x < 9223372036854775808)) := Lv.ahb laws u3
theorem c24 : Tryz.prog.cellsOf 24 = 1 := by kernel_rfl
theorem c4 : Tryz.prog.cellsOf 4 = 1 := by kernel_rfl
theorem u4 : Tryz.prog.underlying 4 = some (.bool) := by kernel_rfl
theorem sd4 : Lv.Sd (good (H := H)) enc Tryz.prog W 4 Lv.eB 1 (fun x => True) := Lv.adG laws u4
theorem c23 : Tryz.prog.cellsOf 23 = 1 := by kernel_rfl
theorem u23 : Tryz.prog.underlying 23 = some (.slice 3) := by kernel_rfl
theorem bk3 : Tryz.prog.bytesOf 3 = 8 := by kernel_rfl
theorem by3 : Tryz.prog.bytesOf 3 ≠ 0 := by rw [show Tryz.prog.bytesOf 3 = 8 by kernel_rfl]; decide
theorem adH : Lv.Sd (good (H := H)) enc Tryz.prog W 23 (Lv.eL 1 Lv.eI) 1 (fun x => (x.length * 8 ≤ 140737488351232 ∧ ∀ y ∈ x, (-9223372036854775808 ≤ y ∧ y < 9223372036854775808))) := Lv.zU laws (K := 8) u23 c3 (by decide) by3 (Lv.uK u23 bk3) VX
theorem c28 : Tryz.prog.cellsOf 28 = 1 := by kernel_rfl
theorem u78 : Tryz.prog.underlying 78 = some (.struct (Tryz.prog.fieldsOf 78)) := by kernel_rfl
theorem c78 : Tryz.prog.cellsOf 78 = 2 := by kernel_rfl
theorem aoQ : Lv.Sd (good (H := H)) enc Tryz.prog W 78 Lv.aR 2 (fun x => (Lv.Br 140737488351232 x)) := Lv.tT laws (fun p : Int × Bool × Unit => (⟨p.1, p.2.1⟩ : Lv.aI)) u78 c78 (fs := [(3, 0), (4, 1)]) (by kernel_rfl) (Lv.gV c3 VX (Lv.gV c4 sd4 Lv.IB)) (fun p => rfl) (fun p h => h)
theorem u28 : Tryz.prog.underlying 28 = some (.slice 78) := by kernel_rfl
theorem aqE : Tryz.prog.bytesOf 78 = 16 := by kernel_rfl
theorem aqA : Tryz.prog.bytesOf 78 ≠ 0 := by rw [show Tryz.prog.bytesOf 78 = 16 by kernel_rfl]; decide
theorem ahd : Lv.Sd (good (H := H)) enc Tryz.prog W 28 (Lv.eL 2 Lv.aR) 1 (fun x => (x.length * 16 ≤ 140737488351232 ∧ ∀ y ∈ x, (Lv.Br 140737488351232 y))) := Lv.zU laws (K := 16) u28 c78 (by decide) aqA (Lv.uK u28 aqE) aoQ
theorem c9 : Tryz.prog.cellsOf 9 = 1 := by kernel_rfl
theorem u9 : Tryz.prog.underlying 9 = some (.string) := by kernel_rfl
theorem sd9 : Lv.Sd (good (H := H)) enc Tryz.prog W 9 Lv.eS 1 (fun x => (x.length ≤ 140737488351232)) := Lv.aha laws u9
theorem u60 : Tryz.prog.underlying 60 = some (.struct (Tryz.prog.fieldsOf 60)) := by kernel_rfl
theorem c60 : Tryz.prog.cellsOf 60 = 6 := by kernel_rfl
theorem aoT : Lv.Sd (good (H := H)) enc Tryz.prog W 60 Lv.bH 6 (fun x => (Lv.yx 140737488351232 x)) := Lv.tT laws (fun p : List UInt8 × List Lv.aI × List Int × Bool × Bool × Int × Unit => (⟨p.1, p.2.1, p.2.2.1, p.2.2.2.1, p.2.2.2.2.1, p.2.2.2.2.2.1⟩ : Lv.bE)) u60 c60 (fs := [(9, 0), (28, 1), (23, 2), (4, 3), (4, 4), (3, 5)]) (by kernel_rfl) (Lv.gV c9 sd9 (Lv.gV c28 ahd (Lv.gV c23 adH (Lv.gV c4 sd4 (Lv.gV c4 sd4 (Lv.gV c3 VX Lv.IB)))))) (fun p => rfl) (fun p h => h)
theorem u24 : Tryz.prog.underlying 24 = some (.slice 60) := by kernel_rfl
theorem aqG : Tryz.prog.bytesOf 60 = 80 := by kernel_rfl
theorem aqC : Tryz.prog.bytesOf 60 ≠ 0 := by rw [show Tryz.prog.bytesOf 60 = 80 by kernel_rfl]; decide
theorem aoX : Lv.Sd (good (H := H)) enc Tryz.prog W 24 (Lv.eL 6 Lv.bH) 1 (fun x => (x.length * 80 ≤ 140737488351232 ∧ ∀ y ∈ x, (Lv.yx 140737488351232 y))) := Lv.zU laws (K := 80) u24 c60 (by decide) aqC (Lv.uK u24 aqG) aoT
theorem c22 : Tryz.prog.cellsOf 22 = 1 := by kernel_rfl
theorem c74 : Tryz.prog.cellsOf 74 = 3 := by kernel_rfl
theorem c72 : Tryz.prog.cellsOf 72 = 1 := by kernel_rfl
theorem u72 : Tryz.prog.underlying 72 = some (.int .u64) := by kernel_rfl
theorem aoS : Lv.Sd (good (H := H)) enc Tryz.prog W 72 Lv.jM 1 (fun x => True) := Lv.ag9 laws u72
theorem u74 : Tryz.prog.underlying 74 = some (.struct (Tryz.prog.fieldsOf 74)) := by kernel_rfl
theorem ahc : Lv.Sd (good (H := H)) enc Tryz.prog W 74 Lv.bA 3 (fun x => (Lv.CY 140737488351232 x)) := Lv.tT laws (fun p : Int × UInt64 × List UInt8 × Unit => (⟨p.1, p.2.1, p.2.2.1⟩ : Lv.ak)) u74 c74 (fs := [(3, 0), (72, 1), (9, 2)]) (by kernel_rfl) (Lv.gV c3 VX (Lv.gV c72 aoS (Lv.gV c9 sd9 Lv.IB))) (fun p => rfl) (fun p h => h)
theorem u76 : Tryz.prog.underlying 76 = some (.struct (Tryz.prog.fieldsOf 76)) := by kernel_rfl
theorem c76 : Tryz.prog.cellsOf 76 = 7 := by kernel_rfl
theorem aoR : Lv.Sd (good (H := H)) enc Tryz.prog W 76 Lv.bI 7 (fun x => (Lv.Av 140737488351232 x)) := Lv.tT laws (fun p : List UInt8 × Int × Int × Bool × Lv.ak × Unit => (⟨p.1, p.2.1, p.2.2.1, p.2.2.2.1, p.2.2.2.2.1⟩ : Lv.aB)) u76 c76 (fs := [(9, 0), (3, 1), (3, 2), (4, 3), (74, 4)]) (by kernel_rfl) (Lv.gV c9 sd9 (Lv.gV c3 VX (Lv.gV c3 VX (Lv.gV c4 sd4 (Lv.gV c74 ahc Lv.IB))))) (fun p => rfl) (fun p h => h)
theorem u22 : Tryz.prog.underlying 22 = some (.slice 76) := by kernel_rfl
theorem aqF : Tryz.prog.bytesOf 76 = 72 := by kernel_rfl
theorem aqB : Tryz.prog.bytesOf 76 ≠ 0 := by rw [show Tryz.prog.bytesOf 76 = 72 by kernel_rfl]; decide
theorem aoY : Lv.Sd (good (H := H)) enc Tryz.prog W 22 (Lv.eL 7 Lv.bI) 1 (fun x => (x.length * 72 ≤ 140737488351232 ∧ ∀ y ∈ x, (Lv.Av 140737488351232 y))) := Lv.zU laws (K := 72) u22 c76 (by decide) aqB (Lv.uK u22 aqF) aoR
theorem u26 : Tryz.prog.underlying 26 = some (.struct (Tryz.prog.fieldsOf 26)) := by kernel_rfl
theorem c26 : Tryz.prog.cellsOf 26 = 5 := by kernel_rfl
theorem aoW : Lv.Sd (good (H := H)) enc Tryz.prog W 26 Lv.aK 5 (fun x => (Lv.CZ 140737488351232 x)) := Lv.tT laws (fun p : List UInt8 × List Lv.aB × List Int × List Lv.bE × Int × Unit => (⟨p.1, p.2.1, p.2.2.1, p.2.2.2.1, p.2.2.2.2.1⟩ : Lv.aP)) u26 c26 (fs := [(9, 0), (22, 1), (23, 2), (24, 3), (3, 4)]) (by kernel_rfl) (Lv.gV c9 sd9 (Lv.gV c22 aoY (Lv.gV c23 adH (Lv.gV c24 aoX (Lv.gV c3 VX Lv.IB))))) (fun p => rfl) (fun p h => h)
theorem c27 : Tryz.prog.cellsOf 27 = 1 := by kernel_rfl
theorem u80 : Tryz.prog.underlying 80 = some (.struct (Tryz.prog.fieldsOf 80)) := by kernel_rfl
theorem c80 : Tryz.prog.cellsOf 80 = 6 := by kernel_rfl
theorem aoP : Lv.Sd (good (H := H)) enc Tryz.prog W 80 Lv.aU 6 (fun x => (Lv.CX 140737488351232 x)) := Lv.tT laws (fun p : Int × Int × Int × Lv.ak × Unit => (⟨p.1, p.2.1, p.2.2.1, p.2.2.2.1⟩ : Lv.aA)) u80 c80 (fs := [(3, 0), (3, 1), (3, 2), (74, 3)]) (by kernel_rfl) (Lv.gV c3 VX (Lv.gV c3 VX (Lv.gV c3 VX (Lv.gV c74 ahc Lv.IB)))) (fun p => rfl) (fun p h => h)
theorem u27 : Tryz.prog.underlying 27 = some (.slice 80) := by kernel_rfl
theorem aqD : Tryz.prog.bytesOf 80 = 56 := by kernel_rfl
theorem aqz : Tryz.prog.bytesOf 80 ≠ 0 := by rw [show Tryz.prog.bytesOf 80 = 56 by kernel_rfl]; decide
theorem aoV : Lv.Sd (good (H := H)) enc Tryz.prog W 27 (Lv.eL 6 Lv.aU) 1 (fun x => (x.length * 56 ≤ 140737488351232 ∧ ∀ y ∈ x, (Lv.CX 140737488351232 y))) := Lv.zU laws (K := 56) u27 c80 (by decide) aqz (Lv.uK u27 aqD) aoP
theorem u30 : Tryz.prog.underlying 30 = some (.struct (Tryz.prog.fieldsOf 30)) := by kernel_rfl
theorem c30 : Tryz.prog.cellsOf 30 = 4 := by kernel_rfl
theorem aoU : Lv.Sd (good (H := H)) enc Tryz.prog W 30 Lv.bY 4 (fun x => (Lv.Au 140737488351232 x)) := Lv.tT laws (fun p : List Lv.aA × List Int × List Lv.aI × Int × Unit => (⟨p.1, p.2.1, p.2.2.1, p.2.2.2.1⟩ : Lv.bP)) u30 c30 (fs := [(27, 0), (23, 1), (28, 2), (3, 3)]) (by kernel_rfl) (Lv.gV c27 aoV (Lv.gV c23 adH (Lv.gV c28 ahd (Lv.gV c3 VX Lv.IB)))) (fun p => rfl) (fun p h => h)
end
end Go.Proofs.YtjnpmmiacggffaaGreatDoor
