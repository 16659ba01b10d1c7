/- Part of the proof of a law: functions of the library, by their contracts; the fixed answers, reckoned. -/
import Derived.Test.YtddopjhkmkoicaaGreatDoorXFacts
import Derived.Test.YtddopjhkmkoicaaGreatDoorGwRead
import Derived.Test.YtddopjhkmkoicaaGreatDoorXShelf
namespace Lv
open Go Go.Proofs
set_option linter.unusedVariables false
set_option linter.unusedSimpArgs false
set_option linter.unusedSectionVars false
set_option maxRecDepth 100000
class TabOk [BaseTab] : Prop where
 tabs : ∀ w : World, (∀ a v, BaseTab.tab a = some v → w.cell? a = some v) → Go.Lib.Utf8Tabs (Tryz.laysValid_ren.g 3) (Tryz.laysValid_ren.g 4) w
 maxLen : ∃ m, BaseTab.tab ⟨2, 0, none⟩ = some (.int .i64 m)
variable [BaseTab] [TabOk]
def validF (s : List UInt8) : Option Bool := if s.length ≤ 9223372036854775807 then some (Go.Lib.validD s) else none
theorem valid_ok (s : List UInt8) (r : Bool) (h0 : validF s = some r) : CallAt Tryz.prog 130 [.d (eS s)] [] (.d (eB r)) [] := by
 unfold validF at h0
 split at h0
 ·rename_i hs
  have := Option.some.inj h0
  subst this
  refine CallAt.of_below (v := .bool (Go.Lib.validD s)) (vs := [.string ⟨s.toArray⟩]) rfl rfl fun w hw => ?_
  exact Any.utf8_ValidString Tryz.laysValid ⟨s.toArray⟩ w (by rw [ba_size]; exact hs) (TabOk.tabs w hw)
 ·cases h0
def replF (s a b : List UInt8) : Option (List UInt8) := if s.length < 4294967281 ∧ 1 ≤ a.length ∧ s.length + Go.Lib.countB ⟨s.toArray⟩ ⟨a.toArray⟩ * b.length ≤ 140737488355328 then some (Go.Lib.replaceAll s a b) else none
theorem repl_ok (s a b : List UInt8) (r : List UInt8) (h0 : replF s a b = some r) : CallAt Tryz.prog 132 [.d (eS s), .d (eS a), .d (eS b)] [] (.d (eS r)) [] := by
 unfold replF at h0
 split at h0
 ·rename_i hs
  have := Option.some.inj h0
  subst this
  obtain ⟨m, hm⟩ := TabOk.maxLen
  refine CallAt.of_below (v := .string ⟨(Go.Lib.replaceAll s a b).toArray⟩) (vs := [.string ⟨s.toArray⟩, .string ⟨a.toArray⟩, .string ⟨b.toArray⟩]) rfl rfl fun w hw => ?_
  exact Tryz.strings_ReplaceAll ⟨s.toArray⟩ ⟨a.toArray⟩ ⟨b.toArray⟩ m w (by rw [ba_size]; exact hs.1) (hw _ _ hm) (by rw [ba_size]; exact hs.2.1) (by rw [ba_size, ba_size]; exact hs.2.2)
 ·cases h0
end Lv
