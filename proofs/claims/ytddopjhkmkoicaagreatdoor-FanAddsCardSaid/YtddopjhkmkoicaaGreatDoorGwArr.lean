/- Arrays at a number that is told by cases; slices of nil. -/
import Derived.Test.YtddopjhkmkoicaaGreatDoorGwDel
import Derived.Test.YtddopjhkmkoicaaGreatDoorGwSort
/- Arrays at a number that is told by cases; slices of nil. -/
namespace Lv
open Go Go.Sort
set_option linter.unusedVariables false
set_option linter.unusedSimpArgs false
set_option linter.unusedSectionVars false
variable [BaseTab]
section
variable {P : Program} {m n : Nat} {e : En} {σ σ' : List Ob} {t : TypeId} {x y z : Operand} {ops : Array Oper} {l : List Oper} {acc : List (List Nat × Bool)} {R : St → List (List Nat × Bool) → Prop} {s : St}
end
end Lv
