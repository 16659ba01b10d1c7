/- Laws of loops over lists, of bounded numbers. -/
import Derived.Test.YtddopjhkmkoicaaGreatDoorGwMore
/- Laws of loops over lists, of bounded numbers. -/
namespace Lv
open Go
set_option linter.unusedVariables false
set_option linter.unusedSimpArgs false
set_option linter.unusedSectionVars false
theorem dA {n : Int} (h : -9223372036854775808 ≤ n) (h2 : n < 9223372036854775808) : bD n = n := by
 unfold bD IntKind.wrap
 have e1 : (2 : Int) ^ IntKind.i64.bits = 18446744073709551616 := rfl
 have e2 : (2 : Int) ^ (IntKind.i64.bits - 1) = 9223372036854775808 := rfl
 simp only [e1, e2, show IntKind.i64.signed = true from rfl, Bool.true_and, decide_eq_true_eq]
 split <;> omega
theorem bN {n : Nat} (h : n < 9223372036854775807) : bD ((n : Int) + 1) = ((n + 1 : Nat) : Int) := by
 rw [dA (by omega) (by omega)]; omega
theorem nZ {α : Type} (xs : List α) (i : Nat) : bF xs (i : Int) = xs[i]? := by simp [bF]
theorem bM {α : Type} {xs : List α} {i : Nat} (h : i < xs.length) : bF xs (i : Int) = some (xs[i]'h) := by rw [nZ, List.getElem?_eq_getElem h]
theorem ltI {i n : Nat} : decide ((i : Int) < (n : Int)) = decide (i < n) := by
 by_cases h : i < n
 ·rw [decide_eq_true h]; exact decide_eq_true (by omega)
 ·rw [decide_eq_false h]; exact decide_eq_false (by omega)
theorem bV : room = 140737488355328 := rfl
theorem ah {α β : Type} (a : α) (f : α → Option β) : (some a).bind f = f a := rfl
theorem Cq {Y E R : Type} (y : Y) (k : Y → Option R) (e : E → Option R) : eH (some (.inl y)) k e = k y := rfl
theorem QD {Y E R : Type} (x : E) (k : Y → Option R) (e : E → Option R) : eH (some (.inr x)) k e = e x := rfl
theorem av {α : Type} {p : Prop} [Decidable p] (h : p) (x y : α) : (bif decide p then x else y) = x := by rw [decide_eq_true h]; rfl
theorem aD {α : Type} {p : Prop} [Decidable p] (h : ¬ p) (x y : α) : (bif decide p then x else y) = y := by rw [decide_eq_false h]; rfl
theorem vO {Y W : Type} {B : Y → Option (Y ⊕ W)} (st : Nat → Y) (n : Nat) {w : W} (h : ∀ i, i < n → B (st i) = some (.inl (st (i + 1)))) (he : B (st n) = some (.inr w)) : loop B (st 0) = some w := by
  have : ∀ k i, i + k = n → loop B (st i) = some w := by
    intro k
    induction k with
    | zero => intro i hi; have : i = n := by omega
              subst this; exact iJ he
    | succ k ih => intro i hi; rw [lM (h i (by omega))]; exact ih (i + 1) (by omega)
  exact this n 0 (by omega)
theorem MJ {W α : Type} {B : Int → Option (Int ⊕ W)} (l : List α) (p : α → Bool) (e : Nat → W) (fin : W) (h : ∀ i (hi : i < l.length), B (i : Int) = some (if p (l[i]'hi) = true then .inr (e i) else .inl ((i + 1 : Nat) : Int)))
  (he : B (l.length : Int) = some (.inr fin)) : (l.any p = true ∧ ∃ i : Nat, ∃ hi : i < l.length, p (l[i]'hi) = true ∧ loop B 0 = some (e i)) ∨ (l.any p = false ∧ loop B 0 = some fin) := by
 have key : ∀ k i, i + k = l.length → ((l.drop i).any p = true ∧ ∃ i : Nat, ∃ hi : i < l.length, p (l[i]'hi) = true ∧ loop B 0 = some (e i)) ∨ ((l.drop i).any p = false ∧ loop B (i : Int) = some fin) ∨ loop B (i : Int) ≠ loop B 0 := by
  intro k
  induction k with
  | zero =>
   intro i hi
   have : i = l.length := by omega
   subst this
   right; left
   rw [List.drop_length]
   exact ⟨rfl, iJ he⟩
  | succ k ih =>
   intro i hi
   have hi' : i < l.length := by omega
   by_cases hne : loop B (i : Int) = loop B 0
   rotate_left
   ·exact .inr (.inr hne)
   have hb := h i hi'
   rw [List.drop_eq_getElem_cons hi', List.any_cons]
   cases hp : p (l[i]'hi') with
   | true =>
    left
    rw [hp, if_pos rfl] at hb
    exact ⟨rfl, i, hi', hp, hne ▸ iJ hb⟩
   | false =>
    rw [hp, if_neg (by simp)] at hb
    have hs := lM hb
    rcases ih (i + 1) (by omega) with q | q | q
    ·exact .inl (by rw [Bool.false_or]; exact q)
    ·exact .inr (.inl ⟨by rw [Bool.false_or]; exact q.1, hs.trans q.2⟩)
    ·exact absurd (hs.symm.trans hne) q
 rcases key l.length 0 (by omega) with q | q | q
 ·exact .inl q
 ·exact .inr q
 ·exact absurd rfl q
def mapped {α : Type} (f : α → α) (b : List α) (i : Nat) : List α := (b.take i).map f ++ b.drop i
theorem Ew {α : Type} (f : α → α) (b : List α) : mapped f b 0 = b := by simp [mapped]
theorem GR {α : Type} (f : α → α) (b : List α) : mapped f b b.length = b.map f := by simp [mapped]
theorem GN {α : Type} (f : α → α) (b : List α) (i : Nat) : (mapped f b i).length = b.length := by simp [mapped]; omega
theorem GQ {α : Type} (f : α → α) (b : List α) {i : Nat} (h : i < b.length) : (mapped f b i)[i]? = some (b[i]'h) := by
 unfold mapped
 rw [List.getElem?_append_right (by simp; omega)]
 simp [h, Nat.min_eq_left (Nat.le_of_lt h)]
theorem GL {α : Type} (f : α → α) (b : List α) {i : Nat} (h : i < b.length) : (mapped f b i).set i (f (b[i]'h)) = mapped f b (i + 1) := by
 unfold mapped
 rw [List.set_append_right _ _ (by simp; omega)]
 have : i - ((b.take i).map f).length = 0 := by simp; omega
 rw [this, List.drop_eq_getElem_cons h, List.set_cons_zero, List.take_succ_eq_append_getElem h, List.map_append, List.append_assoc]
 rfl
end Lv
