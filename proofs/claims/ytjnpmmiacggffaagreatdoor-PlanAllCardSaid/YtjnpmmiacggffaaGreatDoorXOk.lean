/- What is known of the arguments' sizes. -/
import Derived.Test.YtjnpmmiacggffaaGreatDoorXTypes
namespace Lv
set_option linter.unusedVariables false
open Go
variable [bJ]
omit [bJ] in
def CY (R : Nat) (x : ak) : Prop := (-9223372036854775808 ≤ x.Kind ∧ x.Kind < 9223372036854775808) ∧ True ∧ (x.S.length ≤ R) ∧ True
omit [bJ] in
def Av (R : Nat) (x : aB) : Prop := (x.Name.length ≤ R) ∧ (-9223372036854775808 ≤ x.Kind ∧ x.Kind < 9223372036854775808) ∧ (-9223372036854775808 ≤ x.Max ∧ x.Max < 9223372036854775808) ∧ True ∧ (CY R x.Default) ∧ True
omit [bJ] in
def Br (R : Nat) (x : aI) : Prop := (-9223372036854775808 ≤ x.Col ∧ x.Col < 9223372036854775808) ∧ True ∧ True
omit [bJ] in
def yx (R : Nat) (x : bE) : Prop := (x.Name.length ≤ R) ∧ (x.Parts.length * 16 ≤ R ∧ ∀ y ∈ x.Parts, (Br R y)) ∧ (x.Extra.length * 8 ≤ R ∧ ∀ y ∈ x.Extra, (-9223372036854775808 ≤ y ∧ y < 9223372036854775808)) ∧ True ∧ True ∧ (-9223372036854775808 ≤ x.Tree ∧ x.Tree < 9223372036854775808) ∧ True
omit [bJ] in
def CZ (R : Nat) (x : aP) : Prop := (x.Name.length ≤ R) ∧ (x.aV.length * 72 ≤ R ∧ ∀ y ∈ x.aV, (Av R y)) ∧ (x.aH.length * 8 ≤ R ∧ ∀ y ∈ x.aH, (-9223372036854775808 ≤ y ∧ y < 9223372036854775808)) ∧ (x.bn.length * 80 ≤ R ∧ ∀ y ∈ x.bn, (yx R y)) ∧ (-9223372036854775808 ≤ x.Tree ∧ x.Tree < 9223372036854775808) ∧ True
omit [bJ] in
def CX (R : Nat) (x : aA) : Prop := (-9223372036854775808 ≤ x.Kind ∧ x.Kind < 9223372036854775808) ∧ (-9223372036854775808 ≤ x.Col ∧ x.Col < 9223372036854775808) ∧ (-9223372036854775808 ≤ x.Op ∧ x.Op < 9223372036854775808) ∧ (CY R x.Val) ∧ True
omit [bJ] in
def Au (R : Nat) (x : bP) : Prop := (x.Pred.length * 56 ≤ R ∧ ∀ y ∈ x.Pred, (CX R y)) ∧ (x.aV.length * 8 ≤ R ∧ ∀ y ∈ x.aV, (-9223372036854775808 ≤ y ∧ y < 9223372036854775808)) ∧ (x.Order.length * 16 ≤ R ∧ ∀ y ∈ x.Order, (Br R y)) ∧ (-9223372036854775808 ≤ x.Limit ∧ x.Limit < 9223372036854775808) ∧ True
end Lv
