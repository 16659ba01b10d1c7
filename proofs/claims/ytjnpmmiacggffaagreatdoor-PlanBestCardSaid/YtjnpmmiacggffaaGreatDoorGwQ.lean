/- Laws of printed loops, taken off the goal. -/
import Derived.Test.YtjnpmmiacggffaaGreatDoorGwPlain
/- Laws of printed loops, taken off the goal. -/
namespace Lv
open Go
set_option linter.unusedVariables false
set_option linter.unusedSimpArgs false
set_option linter.unusedSectionVars false
theorem bo {α β : Type} {o : Option α} {a : α} {f : α → Option β} {r : Option β} (h : o = some a) (k : f a = r) : o.bind f = r := by rw [h]; exact k
theorem bt {α : Type} {b : Bool} {x y r : α} (h : b = true) (k : x = r) : (bif b then x else y) = r := by rw [h]; exact k
theorem bf {α : Type} {b : Bool} {x y r : α} (h : b = false) (k : y = r) : (bif b then x else y) = r := by rw [h]; exact k
theorem gt {α : Type} {p : Prop} [Decidable p] {x y r : α} (h : p) (k : x = r) : (bif decide p then x else y) = r := by rw [decide_eq_true h]; exact k
theorem lpA {Y W R : Type} {B : Y → Option (Y ⊕ W)} {y0 : Y} {w : W} {K : W → Option R} {r : Option R} (h : loop B y0 = some w) (k : K w = r) : Option.bind (Option.bind (loop B y0) (fun e => some e)) K = r := by rw [h]; exact k
theorem lpE {Y W E R : Type} {B : Y → Option (Y ⊕ (W ⊕ E))} {y0 : Y} {w : W ⊕ E} {K : W → Option R} {F : E → Option R} {r : Option R} (h : loop B y0 = some w) (k : Sum.elim K F w = r) :
  bindE (Option.bind (loop B y0) (Sum.elim (fun e => some (Sum.inl e)) (fun e => some (Sum.inr e)))) K F = r := by
 rw [h]
 cases w with
 | inl x => exact k
 | inr x => exact k
theorem lq1 {Y W : Type} {B : Y → Option (Y ⊕ W)} (st : Nat → Y) (n : Nat) {w : W} {y0 : Y} (h : ∀ i, i < n → B (st i) = some (.inl (st (i + 1)))) (he : B (st n) = some (.inr w)) (h0 : st 0 = y0) : loop B y0 = some w := h0 ▸ loop_seq st n h he
end Lv
