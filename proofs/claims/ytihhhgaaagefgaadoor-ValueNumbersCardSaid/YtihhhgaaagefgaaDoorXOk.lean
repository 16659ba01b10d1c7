/- What is known of the arguments' sizes. -/
import Derived.Test.YtihhhgaaagefgaaDoorXTypes
namespace Lv
open Go
variable [BaseTab]
end Lv
