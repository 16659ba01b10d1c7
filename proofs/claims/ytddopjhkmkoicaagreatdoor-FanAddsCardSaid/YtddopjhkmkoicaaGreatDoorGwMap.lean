/- Maps in printed walks. -/
import Derived.Test.YtddopjhkmkoicaaGreatDoorGwS
/- Maps in printed walks. -/
namespace Lv
open Go
set_option linter.unusedVariables false
set_option linter.unusedSimpArgs false
set_option linter.unusedSectionVars false
section
variable {κ β : Type} [BEq κ] {f : κ → D} {g : β → D} {m : List (κ × β)} {k : κ} {v : β}
end
variable [BaseTab]
section
variable {P : Program} {n : Nat} {e : En} {σ σ' : List Ob} {t kt vt : TypeId} {td : TypeDesc} {x y z : Operand} {id : Nat}
variable {κ β : Type} [BEq κ] {f : κ → D} {g : β → D} {m : List (κ × β)} {k : κ} {v : β}
end
end Lv
