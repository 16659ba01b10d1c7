/- What is known of the arguments' sizes. -/
import Derived.Test.YtjnpmmiacggffaaGreatDoorXTypes
namespace Lv
set_option linter.unusedVariables false
open Go
variable [BaseTab]
omit [BaseTab] in
def okApiValue (R : Nat) (x : ApiValue) : Prop := (-9223372036854775808 ≤ x.Kind ∧ x.Kind < 9223372036854775808) ∧ True ∧ (x.S.length ≤ R) ∧ True
omit [BaseTab] in
def okApiColumn (R : Nat) (x : ApiColumn) : Prop := (x.Name.length ≤ R) ∧ (-9223372036854775808 ≤ x.Kind ∧ x.Kind < 9223372036854775808) ∧ (-9223372036854775808 ≤ x.Max ∧ x.Max < 9223372036854775808) ∧ True ∧ (okApiValue R x.Default) ∧ True
omit [BaseTab] in
def okApiPart (R : Nat) (x : ApiPart) : Prop := (-9223372036854775808 ≤ x.Col ∧ x.Col < 9223372036854775808) ∧ True ∧ True
omit [BaseTab] in
def okApiIndex (R : Nat) (x : ApiIndex) : Prop := (x.Name.length ≤ R) ∧ (x.Parts.length * 16 ≤ R ∧ ∀ y ∈ x.Parts, (okApiPart R y)) ∧ (x.Extra.length * 8 ≤ R ∧ ∀ y ∈ x.Extra, (-9223372036854775808 ≤ y ∧ y < 9223372036854775808)) ∧ True ∧ True ∧ (-9223372036854775808 ≤ x.Tree ∧ x.Tree < 9223372036854775808) ∧ True
omit [BaseTab] in
def okApiTable (R : Nat) (x : ApiTable) : Prop := (x.Name.length ≤ R) ∧ (x.Cols.length * 72 ≤ R ∧ ∀ y ∈ x.Cols, (okApiColumn R y)) ∧ (x.Primary.length * 8 ≤ R ∧ ∀ y ∈ x.Primary, (-9223372036854775808 ≤ y ∧ y < 9223372036854775808)) ∧ (x.Indexes.length * 80 ≤ R ∧ ∀ y ∈ x.Indexes, (okApiIndex R y)) ∧ (-9223372036854775808 ≤ x.Tree ∧ x.Tree < 9223372036854775808) ∧ True
omit [BaseTab] in
def okPredNode (R : Nat) (x : PredNode) : Prop := (-9223372036854775808 ≤ x.Kind ∧ x.Kind < 9223372036854775808) ∧ (-9223372036854775808 ≤ x.Col ∧ x.Col < 9223372036854775808) ∧ (-9223372036854775808 ≤ x.Op ∧ x.Op < 9223372036854775808) ∧ (okApiValue R x.Val) ∧ True
omit [BaseTab] in
def okPlanQuery (R : Nat) (x : PlanQuery) : Prop := (x.Pred.length * 56 ≤ R ∧ ∀ y ∈ x.Pred, (okPredNode R y)) ∧ (x.Cols.length * 8 ≤ R ∧ ∀ y ∈ x.Cols, (-9223372036854775808 ≤ y ∧ y < 9223372036854775808)) ∧ (x.Order.length * 16 ≤ R ∧ ∀ y ∈ x.Order, (okApiPart R y)) ∧ (-9223372036854775808 ≤ x.Limit ∧ x.Limit < 9223372036854775808) ∧ True
end Lv
