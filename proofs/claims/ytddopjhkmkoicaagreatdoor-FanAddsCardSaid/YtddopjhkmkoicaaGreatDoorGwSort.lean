/- slices.Sort and slices.Compact of strings: in their own memory. -/
import Derived.Test.YtddopjhkmkoicaaGreatDoorGwDel
import Derived.Sort.Grow
import Derived.Sort.EncStr
/- slices.Sort and slices.Compact of strings: in their own memory. -/
namespace Lv
open Go Go.Sort
set_option linter.unusedVariables false
set_option linter.unusedSimpArgs false
set_option linter.unusedSectionVars false
variable [BaseTab]
end Lv
