/- What the rows' list gives, how arguments are read. -/
import Derived.Test.YtihhhgaaagefgaaDoorXAll
import Derived.Test.YtihhhgaaagefgaaDoorXOk
import Derived.Test.YtihhhgaaagefgaaDoorGwSd
import Derived.Test.YtihhhgaaagefgaaDoorRows
import Derived.Test.YtihhhgaaagefgaaDoorTie
import Derived.Test.YtihhhgaaagefgaaDoorCards
import Derived.Deep.DeepHandedRow
import Derived.Lib.LaidTab
import Derived.Lib.LaidU8T
import Derived.Lib.LaidIn
import Derived.Shelf.Vars
import Derived.WalkKit
import Derived.ProofKit
import Derived.OpenShut
import Derived.ShutString
import Derived.Below
import Derived.Lay
import Derived.SevenTiedAt
namespace Go.Proofs.YtihhhgaaagefgaaDoor
open Go.ChangeShapes Go.WideShapes Go.ChangeAt Go.RowKit
set_option linter.unusedVariables false
set_option linter.unusedSimpArgs false
set_option maxRecDepth 100000
theorem own : ownKnob Tryd.prog.godebug = none := by kernel_rfl
theorem laidOut : laidOutB Tryd.prog = true := by kernel_rfl
theorem bulkAll_sum {H : Type} : ∀ l : List (DataW H), Rows.uptoBulkAll l = (l.map Rows.uptoBulk).sum
 | [] => rfl
 | d :: l => by simp only [Rows.uptoBulkAll, List.map_cons, List.sum_cons, bulkAll_sum l]
theorem bulkLaws {H : Type} : Lv.BulkLaws (Rows.uptoBulk (H := H)) where
 one d := by
  cases d with
  | lit l => cases l <;> simp [Rows.uptoBulk]
  | _ => simp [Rows.uptoBulk]
 str bs := by simp [Rows.uptoBulk]
 agg ps := by simp only [Rows.uptoBulk, bulkAll_sum]; exact Nat.le_refl _
 slice es r := by simp only [Rows.uptoBulk, bulkAll_sum]; omega
@[reducible] def mkTab (W : World) : Lv.BaseTab := ⟨fun a => W.cell? a⟩
theorem tabOk {W : World} (hT : Go.Lib.Utf8Tabs (Tryd.laysValid_ren.g 3) (Tryd.laysValid_ren.g 4) W) (hp : Go.Proofs.Pow10 W) : @Lv.TabOk (mkTab W) :=
 @Lv.TabOk.mk (mkTab W) (fun w hw => ⟨fun c hc => hw _ _ (hT.1 c hc), fun i hi => ⟨hw _ _ (hT.2 i hi).1, hw _ _ (hT.2 i hi).2⟩⟩) (fun w hw i hi => hw _ _ (hp i hi))
theorem tabs_of {W : World} {l : List (String × DataW Unit)} (hL : laidMetH Tryd.prog l W) (h1 : ("unicode/utf8.first", Go.Lib.firstData) ∈ l) (h2 : ("unicode/utf8.acceptRanges", Go.Lib.acceptData) ∈ l) (hh : (l.all fun x => x.2.handleName?.isNone) = true) :
  Go.Lib.Utf8Tabs (Tryd.laysValid_ren.g 3) (Tryd.laysValid_ren.g 4) W := by
 rw [MakeChecks.laidMetH_plain _ _ _ hh] at hL
 exact utf8Tabs_of_readsT (U8Types.of196 Tryd.laysValid) ⟨by kernel_rfl, by kernel_rfl, by kernel_rfl, by kernel_rfl, by kernel_rfl, by kernel_rfl, by kernel_rfl⟩ (Go.Lib.laidMet.reads hL h1) (Go.Lib.laidMet.reads hL h2)
theorem pow_of {W : World} {l : List (String × DataW Unit)} (hL : laidMetH Tryd.prog l W) (h1 : ("internal/strconv.uint64pow10", Rows.laid_internal_strconv_uint64pow10) ∈ l) (hh : (l.all fun x => x.2.handleName?.isNone) = true) : Go.Proofs.Pow10 W := by
 rw [MakeChecks.laidMetH_plain _ _ _ hh] at hL
 obtain ⟨g, t, cs, fuel, p, hg, ht, hv, hd⟩ := Go.Lib.laidMet.reads hL h1
 have hg' : Tryd.prog.globalNamed "internal/strconv.uint64pow10" = some 3 := by kernel_rfl
 obtain rfl := Option.some.inj (hg'.symm.trans hg)
 have ht' : (Tryd.prog.globals[3]?).map (·.type) = some 95 := by kernel_rfl
 obtain rfl := Option.some.inj (ht'.symm.trans ht)
 have e : (Rows.laid_internal_strconv_uint64pow10 : DataW Unit) = Go.Lib.tabData .u64 ((List.range 20).map fun i => ((10 ^ i : Nat) : Int)) := by kernel_rfl
 rw [e] at hd
 have hT : Go.Lib.TabIs Tryd.prog W "internal/strconv.uint64pow10" .u64 ((List.range 20).map fun i => ((10 ^ i : Nat) : Int)) := by
  unfold Go.Lib.TabIs
  rw [hv, ← Go.Lib.cells_of_tab (t := 95) (e := 22) (n := 20) (by kernel_rfl) (by kernel_rfl) (by kernel_rfl) (by kernel_rfl) hd]
 intro i hi
 have := hT.cell hg' i (by simpa using hi)
 rw [this]
 simp [List.getD, hi]
theorem first_eq : Go.Pinned.utf8First = Go.Lib.firstData := by kernel_rfl
theorem accept_eq : (Rows.laid_unicode_utf8_acceptRanges : DataW Unit) = Go.Lib.acceptData := by kernel_rfl
def good {H : Type} (t : TypeId) (d : DataW H) : Prop := ∀ n ∈ d.weights Tryd.prog t, n ≤ reachBytes
theorem laws {H : Type} : Lv.GoodLaws (H := H) Tryd.prog 140737488351232 (good (H := H)) := Lv.goodReach Tryd.prog
theorem good_of {H : Type} {ts : List TypeId} {ds : List (DataW H)} (h : (DataW.weightsEach Tryd.prog ts ds).all (· ≤ reachBytes) = true) {j : Nat} {t : TypeId} {d : DataW H} (ht : ts[j]? = some t) (hd : ds[j]? = some d) : good t d :=
 fun n hn => by simpa using List.all_eq_true.1 h n (DataW.weights_mem_each ht hd n hn)
section
variable {H : Type} {enc : TypeId × Value → H} {W : World}
theorem u22 : Tryd.prog.underlying 22 = some (.int .u64) := by kernel_rfl
theorem sd22 : Lv.Sd (good (H := H)) enc Tryd.prog W 22 Lv.eU64 1 (fun x => True) := Lv.sdU64 laws u22
theorem u4 : Tryd.prog.underlying 4 = some (.bool) := by kernel_rfl
end
end Go.Proofs.YtihhhgaaagefgaaDoor
