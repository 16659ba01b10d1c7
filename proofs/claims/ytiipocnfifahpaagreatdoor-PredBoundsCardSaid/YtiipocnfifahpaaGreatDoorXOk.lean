/- What is known of the arguments' sizes. -/
import Derived.Test.YtiipocnfifahpaaGreatDoorXTypes
namespace Lv
open Go
variable [BaseTab]
omit [BaseTab] in
def okApiValue (R : Nat) (x : ApiValue) : Prop := (-9223372036854775808 ≤ x.Kind ∧ x.Kind < 9223372036854775808) ∧ True ∧ (x.S.length ≤ R) ∧ True
omit [BaseTab] in
def okApiColumn (R : Nat) (x : ApiColumn) : Prop := (x.Name.length ≤ R) ∧ (-9223372036854775808 ≤ x.Kind ∧ x.Kind < 9223372036854775808) ∧ (-9223372036854775808 ≤ x.Max ∧ x.Max < 9223372036854775808) ∧ True ∧ (okApiValue R x.Default) ∧ True
omit [BaseTab] in
def okPredNode (R : Nat) (x : PredNode) : Prop := (-9223372036854775808 ≤ x.Kind ∧ x.Kind < 9223372036854775808) ∧ (-9223372036854775808 ≤ x.Col ∧ x.Col < 9223372036854775808) ∧ (-9223372036854775808 ≤ x.Op ∧ x.Op < 9223372036854775808) ∧ (okApiValue R x.Val) ∧ True
omit [BaseTab] in
def okApiPart (R : Nat) (x : ApiPart) : Prop := (-9223372036854775808 ≤ x.Col ∧ x.Col < 9223372036854775808) ∧ True ∧ True
end Lv
