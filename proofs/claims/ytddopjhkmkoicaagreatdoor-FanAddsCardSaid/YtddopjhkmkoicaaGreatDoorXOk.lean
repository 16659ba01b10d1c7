/- What is known of the arguments' sizes. -/
import Derived.Test.YtddopjhkmkoicaaGreatDoorXTypes
namespace Lv
set_option linter.unusedVariables false
open Go
variable [BaseTab]
omit [BaseTab] in
def okApiValue (R : Nat) (x : ApiValue) : Prop := (-9223372036854775808 ≤ x.Kind ∧ x.Kind < 9223372036854775808) ∧ True ∧ (x.S.length ≤ R) ∧ True
omit [BaseTab] in
def okApiColumn (R : Nat) (x : ApiColumn) : Prop := (x.Name.length ≤ R) ∧ (-9223372036854775808 ≤ x.Kind ∧ x.Kind < 9223372036854775808) ∧ (-9223372036854775808 ≤ x.Max ∧ x.Max < 9223372036854775808) ∧ True ∧ (okApiValue R x.Default) ∧ True
omit [BaseTab] in
def okApiPart (R : Nat) (x : ApiPart) : Prop := (-9223372036854775808 ≤ x.Col ∧ x.Col < 9223372036854775808) ∧ True ∧ True
omit [BaseTab] in
def okApiIndex (R : Nat) (x : ApiIndex) : Prop := (x.Name.length ≤ R) ∧ (x.Parts.length * 16 ≤ R ∧ ∀ y ∈ x.Parts, (okApiPart R y)) ∧ (x.Extra.length * 8 ≤ R ∧ ∀ y ∈ x.Extra, (-9223372036854775808 ≤ y ∧ y < 9223372036854775808)) ∧ True ∧ True ∧ (-9223372036854775808 ≤ x.Tree ∧ x.Tree < 9223372036854775808) ∧ True
omit [BaseTab] in
def okApiTable (R : Nat) (x : ApiTable) : Prop := (x.Name.length ≤ R) ∧ (x.bq.length * 72 ≤ R ∧ ∀ y ∈ x.bq, (okApiColumn R y)) ∧ (x.bB.length * 8 ≤ R ∧ ∀ y ∈ x.bB, (-9223372036854775808 ≤ y ∧ y < 9223372036854775808)) ∧ (x.aY.length * 80 ≤ R ∧ ∀ y ∈ x.aY, (okApiIndex R y)) ∧ (-9223372036854775808 ≤ x.Tree ∧ x.Tree < 9223372036854775808) ∧ True
end Lv
