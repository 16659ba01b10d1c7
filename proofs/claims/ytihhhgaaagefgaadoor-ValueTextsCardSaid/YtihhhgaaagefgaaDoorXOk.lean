/- What is known of the arguments' sizes. -/
import Derived.Test.YtihhhgaaagefgaaDoorXTypes
namespace Lv
open Go
variable [BaseTab]
omit [BaseTab] in
def okApiValue (R : Nat) (x : ApiValue) : Prop := (-9223372036854775808 ≤ x.Kind ∧ x.Kind < 9223372036854775808) ∧ True ∧ (x.S.length ≤ R) ∧ True
end Lv
