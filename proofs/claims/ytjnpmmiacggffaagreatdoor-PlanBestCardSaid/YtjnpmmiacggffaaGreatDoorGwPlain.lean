/- Laws of loops over lists, of bounded numbers. -/
import Derived.Test.YtjnpmmiacggffaaGreatDoorGwMore
/- Laws of loops over lists, of bounded numbers. -/
namespace Lv
open Go
set_option linter.unusedVariables false
set_option linter.unusedSimpArgs false
set_option linter.unusedSectionVars false
theorem w64_id {n : Int} (h : -9223372036854775808 ≤ n) (h2 : n < 9223372036854775808) : w64 n = n := by
 unfold w64 IntKind.wrap
 have e1 : (2 : Int) ^ IntKind.i64.bits = 18446744073709551616 := rfl
 have e2 : (2 : Int) ^ (IntKind.i64.bits - 1) = 9223372036854775808 := rfl
 simp only [e1, e2, show IntKind.i64.signed = true from rfl, Bool.true_and, decide_eq_true_eq]
 split <;> omega
theorem w64_succ {n : Nat} (h : n < 9223372036854775807) : w64 ((n : Int) + 1) = ((n + 1 : Nat) : Int) := by
 rw [w64_id (by omega) (by omega)]; omega
theorem getI_nat {α : Type} (xs : List α) (i : Nat) : getI xs (i : Int) = xs[i]? := by simp [getI]
theorem getI_at {α : Type} {xs : List α} {i : Nat} (h : i < xs.length) : getI xs (i : Int) = some (xs[i]'h) := by rw [getI_nat, List.getElem?_eq_getElem h]
theorem room_val : room = 140737488355328 := rfl
theorem bif_decT {α : Type} {p : Prop} [Decidable p] (h : p) (x y : α) : (bif decide p then x else y) = x := by rw [decide_eq_true h]; rfl
theorem bif_decF {α : Type} {p : Prop} [Decidable p] (h : ¬ p) (x y : α) : (bif decide p then x else y) = y := by rw [decide_eq_false h]; rfl
theorem loop_seq {Y W : Type} {B : Y → Option (Y ⊕ W)} (st : Nat → Y) (n : Nat) {w : W} (h : ∀ i, i < n → B (st i) = some (.inl (st (i + 1)))) (he : B (st n) = some (.inr w)) : loop B (st 0) = some w := by
  have : ∀ k i, i + k = n → loop B (st i) = some w := by
    intro k
    induction k with
    | zero => intro i hi; have : i = n := by omega
              subst this; exact loop_end he
    | succ k ih => intro i hi; rw [loop_step (h i (by omega))]; exact ih (i + 1) (by omega)
  exact this n 0 (by omega)
end Lv
