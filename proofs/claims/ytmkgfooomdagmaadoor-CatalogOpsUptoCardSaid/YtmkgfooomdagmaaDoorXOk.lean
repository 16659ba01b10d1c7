/- What is known of the arguments' sizes. -/
import Derived.Test.YtmkgfooomdagmaaDoorXTypes
namespace Lv
open Go
variable [BaseTab]
omit [BaseTab] in
def okApiPair (R : Nat) (x : ApiPair) : Prop := (x.Key.length ≤ R) ∧ (x.Val.length ≤ R) ∧ True
end Lv
