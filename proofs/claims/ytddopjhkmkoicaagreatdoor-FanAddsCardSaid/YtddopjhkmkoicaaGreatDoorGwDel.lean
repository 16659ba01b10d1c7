/- slices.Delete: in its own memory, what is left over made zero. -/
import Derived.Test.YtddopjhkmkoicaaGreatDoorGwAny
/- slices.Delete: in its own memory, what is left over made zero. -/
namespace Lv
open Go
set_option linter.unusedVariables false
set_option linter.unusedSimpArgs false
set_option linter.unusedSectionVars false
variable [BaseTab]
section
variable {P : Program} {m : Nat} {ops : Array Oper} {o : Oper} {l : List Oper} {n : Nat} {e : En} {σ σ' : List Ob} {t : TypeId} {x y : Operand}
end
section
variable {P : Program} {σ : List Ob} {t el : TypeId} {sz DX c : Nat} {z : D} {α : Type} {f : α → D} {xs : List α}
end
end Lv
