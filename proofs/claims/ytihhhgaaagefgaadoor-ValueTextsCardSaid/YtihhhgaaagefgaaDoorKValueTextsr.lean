/- What the rows' list gives, how arguments are read. -/
import Derived.Test.YtihhhgaaagefgaaDoorXAll
import Derived.Test.YtihhhgaaagefgaaDoorXOk
import Derived.Test.YtihhhgaaagefgaaDoorGwSd
import Derived.Test.YtihhhgaaagefgaaDoorRows
import Derived.Test.YtihhhgaaagefgaaDoorTie
import Derived.Test.YtihhhgaaagefgaaDoorCards
import Derived.Deep.DeepHandedRow
import Derived.Lib.LaidTab
import Derived.Lib.LaidU8T
import Derived.Lib.LaidIn
import Derived.Shelf.Vars
import Derived.WalkKit
import Derived.ProofKit
import Derived.OpenShut
import Derived.ShutString
import Derived.Below
import Derived.Lay
import Derived.SevenTiedAt
namespace Go.Proofs.YtihhhgaaagefgaaDoor
open Go.ChangeShapes Go.WideShapes Go.ChangeAt Go.RowKit
set_option linter.unusedVariables false
set_option linter.unusedSimpArgs false
set_option maxRecDepth 100000
theorem own : ownKnob Tryd.prog.godebug = none := by kernel_rfl
theorem laidOut : laidOutB Tryd.prog = true := by kernel_rfl
theorem bulkAll_sum {H : Type} : ∀ l : List (DataW H), Rows.uptoBulkAll l = (l.map Rows.uptoBulk).sum
 | [] => rfl
 | d :: l => by simp only [Rows.uptoBulkAll, List.map_cons, List.sum_cons, bulkAll_sum l]
theorem bulkLaws {H : Type} : Lv.BulkLaws (Rows.uptoBulk (H := H)) where
 one d := by
  cases d with
  | lit l => cases l <;> simp [Rows.uptoBulk]
  | _ => simp [Rows.uptoBulk]
 str bs := by simp [Rows.uptoBulk]
 agg ps := by simp only [Rows.uptoBulk, bulkAll_sum]; exact Nat.le_refl _
 slice es r := by simp only [Rows.uptoBulk, bulkAll_sum]; omega
@[reducible] def mkTab (W : World) : Lv.BaseTab := ⟨fun a => W.cell? a⟩
theorem tabOk {W : World} (hT : Go.Lib.Utf8Tabs (Tryd.laysValid_ren.g 3) (Tryd.laysValid_ren.g 4) W) (hp : Go.Proofs.Pow10 W) (hE4 : ∃ tp p, W.cell? ⟨4, 0, none⟩ = some (.iface tp p)) (hE5 : ∃ tp p, W.cell? ⟨5, 0, none⟩ = some (.iface tp p)) : @Lv.TabOk (mkTab W) :=
 @Lv.TabOk.mk (mkTab W) (fun w hw => ⟨fun c hc => hw _ _ (hT.1 c hc), fun i hi => ⟨hw _ _ (hT.2 i hi).1, hw _ _ (hT.2 i hi).2⟩⟩) (fun w hw i hi => hw _ _ (hp i hi)) hE4 hE5
theorem tabs_of {W : World} {l : List (String × DataW Unit)} (hL : laidMetH Tryd.prog l W) (h1 : ("unicode/utf8.first", Go.Lib.firstData) ∈ l) (h2 : ("unicode/utf8.acceptRanges", Go.Lib.acceptData) ∈ l) (hh : (l.all fun x => x.2.handleName?.isNone) = true) :
  Go.Lib.Utf8Tabs (Tryd.laysValid_ren.g 3) (Tryd.laysValid_ren.g 4) W := by
 rw [MakeChecks.laidMetH_plain _ _ _ hh] at hL
 exact utf8Tabs_of_readsT (U8Types.of196 Tryd.laysValid) ⟨by kernel_rfl, by kernel_rfl, by kernel_rfl, by kernel_rfl, by kernel_rfl, by kernel_rfl, by kernel_rfl⟩ (Go.Lib.laidMet.reads hL h1) (Go.Lib.laidMet.reads hL h2)
theorem pow_of {W : World} {l : List (String × DataW Unit)} (hL : laidMetH Tryd.prog l W) (h1 : ("internal/strconv.uint64pow10", Rows.laid_internal_strconv_uint64pow10) ∈ l) (hh : (l.all fun x => x.2.handleName?.isNone) = true) : Go.Proofs.Pow10 W := by
 rw [MakeChecks.laidMetH_plain _ _ _ hh] at hL
 obtain ⟨g, t, cs, fuel, p, hg, ht, hv, hd⟩ := Go.Lib.laidMet.reads hL h1
 have hg' : Tryd.prog.globalNamed "internal/strconv.uint64pow10" = some 3 := by kernel_rfl
 obtain rfl := Option.some.inj (hg'.symm.trans hg)
 have ht' : (Tryd.prog.globals[3]?).map (·.type) = some 95 := by kernel_rfl
 obtain rfl := Option.some.inj (ht'.symm.trans ht)
 have e : (Rows.laid_internal_strconv_uint64pow10 : DataW Unit) = Go.Lib.tabData .u64 ((List.range 20).map fun i => ((10 ^ i : Nat) : Int)) := by kernel_rfl
 rw [e] at hd
 have hT : Go.Lib.TabIs Tryd.prog W "internal/strconv.uint64pow10" .u64 ((List.range 20).map fun i => ((10 ^ i : Nat) : Int)) := by
  unfold Go.Lib.TabIs
  rw [hv, ← Go.Lib.cells_of_tab (t := 95) (e := 22) (n := 20) (by kernel_rfl) (by kernel_rfl) (by kernel_rfl) (by kernel_rfl) hd]
 intro i hi
 have := hT.cell hg' i (by simpa using hi)
 rw [this]
 simp [List.getD, hi]
theorem iface_at {W : World} {l : List (String × DataW Unit)} (hL : laidMetH Tryd.prog l W) (hh : (l.all fun x => x.2.handleName?.isNone) = true) {n nm : String} {d : DataW Unit} {g ti : TypeId} (h1 : (n, .iface nm d) ∈ l)
  (hg' : Tryd.prog.globalNamed n = some g) (ht' : (Tryd.prog.globals[g]?).map (·.type) = some ti) (hi0 : (match Tryd.prog.underlying ti with | some (.interface _) => true | _ => false) = true) : ∃ tp p, W.cell? ⟨g, 0, none⟩ = some (.iface tp p) := by
 rw [MakeChecks.laidMetH_plain _ _ _ hh] at hL
 obtain ⟨g, t, cs, fuel, p, hg, ht, hv, hd⟩ := Go.Lib.laidMet.reads hL h1
 obtain rfl := Option.some.inj (hg'.symm.trans hg)
 obtain rfl := Option.some.inj (ht'.symm.trans ht)
 obtain ⟨ms, hi⟩ : ∃ ms, Tryd.prog.underlying ti = some (.interface ms) := by
  split at hi0
  ·exact ⟨_, by assumption⟩
  ·cases hi0
 obtain ⟨_, u, v, e, _, _⟩ := iface_of_trod hi hd
 refine ⟨u, v, ?_⟩
 rw [World.var?_cell hg hv 0]
 obtain ⟨l0⟩ := cs
 have e' : l0 = [.iface u v] := e
 subst e'
 rfl
theorem first_eq : Go.Pinned.utf8First = Go.Lib.firstData := by kernel_rfl
theorem accept_eq : (Rows.laid_unicode_utf8_acceptRanges : DataW Unit) = Go.Lib.acceptData := by kernel_rfl
def good {H : Type} (t : TypeId) (d : DataW H) : Prop := ∀ n ∈ d.weights Tryd.prog t, n ≤ reachBytes
theorem laws {H : Type} : Lv.GoodLaws (H := H) Tryd.prog 140737488351232 (good (H := H)) := Lv.goodReach Tryd.prog
theorem good_of {H : Type} {ts : List TypeId} {ds : List (DataW H)} (h : (DataW.weightsEach Tryd.prog ts ds).all (· ≤ reachBytes) = true) {j : Nat} {t : TypeId} {d : DataW H} (ht : ts[j]? = some t) (hd : ds[j]? = some d) : good t d :=
 fun n hn => by simpa using List.all_eq_true.1 h n (DataW.weights_mem_each ht hd n hn)
section
variable {H : Type} {enc : TypeId × Value → H} {W : World}
theorem c9 : Tryd.prog.cellsOf 9 = 1 := by kernel_rfl
theorem u9 : Tryd.prog.underlying 9 = some (.string) := by kernel_rfl
theorem sd9 : Lv.Sd (good (H := H)) enc Tryd.prog W 9 Lv.eS 1 (fun x => (x.length ≤ 140737488351232)) := Lv.sdStr laws u9
theorem c22 : Tryd.prog.cellsOf 22 = 1 := by kernel_rfl
theorem u22 : Tryd.prog.underlying 22 = some (.int .u64) := by kernel_rfl
theorem sd22 : Lv.Sd (good (H := H)) enc Tryd.prog W 22 Lv.eU64 1 (fun x => True) := Lv.sdU64 laws u22
theorem c3 : Tryd.prog.cellsOf 3 = 1 := by kernel_rfl
theorem u3 : Tryd.prog.underlying 3 = some (.int .i64) := by kernel_rfl
theorem sd3 : Lv.Sd (good (H := H)) enc Tryd.prog W 3 Lv.eI 1 (fun x => (-9223372036854775808 ≤ x ∧ x < 9223372036854775808)) := Lv.sdI64 laws u3
theorem u24 : Tryd.prog.underlying 24 = some (.struct (Tryd.prog.fieldsOf 24)) := by kernel_rfl
theorem c24 : Tryd.prog.cellsOf 24 = 3 := by kernel_rfl
theorem sd24 : Lv.Sd (good (H := H)) enc Tryd.prog W 24 Lv.eApiValue 3 (fun x => (Lv.okApiValue 140737488351232 x)) := Lv.sdStruct laws (fun p : Int × UInt64 × List UInt8 × Unit => (⟨p.1, p.2.1, p.2.2.1⟩ : Lv.ApiValue)) u24 c24 (fs := [(3, 0), (22, 1), (9, 2)]) (by kernel_rfl) (Lv.sdCons c3 sd3 (Lv.sdCons c22 sd22 (Lv.sdCons c9 sd9 Lv.sdNil))) (fun p => rfl) (fun p h => h)
theorem u4 : Tryd.prog.underlying 4 = some (.bool) := by kernel_rfl
end
end Go.Proofs.YtihhhgaaagefgaaDoor
