/- What is known of the arguments' sizes. -/
import Derived.Test.YtjnpmmiacggffaaGreatDoorXTypes
namespace Lv
set_option linter.unusedVariables false
open Go
variable [BaseTab]
end Lv
