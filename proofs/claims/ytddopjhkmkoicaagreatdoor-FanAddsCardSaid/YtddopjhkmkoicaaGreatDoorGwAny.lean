/- Steps whose yield is one of several. -/
import Derived.Test.YtddopjhkmkoicaaGreatDoorGwMap
/- Steps whose yield is one of several. -/
namespace Lv
open Go
set_option linter.unusedVariables false
set_option linter.unusedSimpArgs false
set_option linter.unusedSectionVars false
theorem map_nil {α β : Type} {f : α → β} {l : List α} (h : l.map f = []) : l = [] := by cases l <;> simp_all
variable [BaseTab]
section
variable {P : Program} {m : Nat} {ops : Array Oper} {o : Oper} {l : List Oper} {n : Nat} {e : En} {σ : List Ob} {t : TypeId} {x y : Operand}
end
end Lv
