/- Part of the proof of a law: functions of the library, by their contracts; the fixed answers, reckoned. -/
import Derived.Test.YtddopjhkmkoicaaGreatDoorXFacts
import Derived.Test.YtddopjhkmkoicaaGreatDoorGwRead
import Derived.Test.YtddopjhkmkoicaaGreatDoorXShelf
namespace Lv
open Go Go.Proofs
set_option linter.unusedVariables false
set_option linter.unusedSimpArgs false
set_option linter.unusedSectionVars false
set_option maxRecDepth 100000
class TabOk [BaseTab] : Prop where
 tabs : ∀ w : World, (∀ a v, BaseTab.tab a = some v → w.cell? a = some v) → Go.Lib.Utf8Tabs (Tryz.laysValid_ren.g 3) (Tryz.laysValid_ren.g 4) w
 maxLen : ∃ m, BaseTab.tab ⟨2, 0, none⟩ = some (.int .i64 m)
variable [BaseTab] [TabOk]
def FT (s : List UInt8) : Option Bool := if s.length ≤ 9223372036854775807 then some (Go.Lib.validD s) else none
theorem TJ (s : List UInt8) (r : Bool) (h0 : FT s = some r) : aL Tryz.prog 130 [.d (eS s)] [] (.d (eB r)) [] := by
 unfold FT at h0
 split at h0
 ·rename_i hs
  have := Option.some.inj h0
  subst this
  refine aL.of_below (v := .bool (Go.Lib.validD s)) (vs := [.string ⟨s.toArray⟩]) rfl rfl fun w hw => ?_
  exact Any.utf8_ValidString Tryz.laysValid ⟨s.toArray⟩ w (by rw [ou]; exact hs) (TabOk.tabs w hw)
 ·cases h0
def Jl (s a b : List UInt8) : Option (List UInt8) := if s.length < 4294967281 ∧ 1 ≤ a.length ∧ s.length + Go.Lib.countB ⟨s.toArray⟩ ⟨a.toArray⟩ * b.length ≤ 140737488355328 then some (Go.Lib.replaceAll s a b) else none
theorem Xn (s a b : List UInt8) (r : List UInt8) (h0 : Jl s a b = some r) : aL Tryz.prog 132 [.d (eS s), .d (eS a), .d (eS b)] [] (.d (eS r)) [] := by
 unfold Jl at h0
 split at h0
 ·rename_i hs
  have := Option.some.inj h0
  subst this
  obtain ⟨m, hm⟩ := TabOk.maxLen
  refine aL.of_below (v := .string ⟨(Go.Lib.replaceAll s a b).toArray⟩) (vs := [.string ⟨s.toArray⟩, .string ⟨a.toArray⟩, .string ⟨b.toArray⟩]) rfl rfl fun w hw => ?_
  exact Tryz.strings_ReplaceAll ⟨s.toArray⟩ ⟨a.toArray⟩ ⟨b.toArray⟩ m w (by rw [ou]; exact hs.1) (hw _ _ hm) (by rw [ou]; exact hs.2.1) (by rw [ou, ou]; exact hs.2.2)
 ·cases h0
end Lv
