/- Laws of printed loops, taken off the goal. -/
import Derived.Test.YtddopjhkmkoicaaGreatDoorGwPlain
/- Laws of printed loops, taken off the goal. -/
namespace Lv
open Go
set_option linter.unusedVariables false
set_option linter.unusedSimpArgs false
set_option linter.unusedSectionVars false
theorem bo {α β : Type} {o : Option α} {a : α} {f : α → Option β} {r : Option β} (h : o = some a) (k : f a = r) : o.bind f = r := by rw [h]; exact k
theorem beY {Y E R : Type} {p : Option (Y ⊕ E)} {k : Y → Option R} {e : E → Option R} {y : Y} {r : Option R} (h : p = some (.inl y)) (q : k y = r) : eH p k e = r := by rw [h]; exact q
theorem beE {Y E R : Type} {p : Option (Y ⊕ E)} {k : Y → Option R} {e : E → Option R} {x : E} {r : Option R} (h : p = some (.inr x)) (q : e x = r) : eH p k e = r := by rw [h]; exact q
theorem KA {Y W R : Type} {B : Y → Option (Y ⊕ W)} {y0 : Y} {w : W} {K : W → Option R} {r : Option R} (h : loop B y0 = some w) (k : K w = r) : Option.bind (Option.bind (loop B y0) (fun e => some e)) K = r := by rw [h]; exact k
theorem Lm {Y W E R : Type} {B : Y → Option (Y ⊕ (W ⊕ E))} {y0 : Y} {w : W ⊕ E} {K : W → Option R} {F : E → Option R} {r : Option R} (h : loop B y0 = some w) (k : Sum.elim K F w = r) :
  eH (Option.bind (loop B y0) (Sum.elim (fun e => some (Sum.inl e)) (fun e => some (Sum.inr e)))) K F = r := by
 rw [h]
 cases w with
 | inl x => exact k
 | inr x => exact k
theorem afo {Y W E : Type} {B : Y → Option (Y ⊕ (W ⊕ E))} {y0 : Y} {w : W ⊕ E} {q : Option (W ⊕ E)} (h : loop B y0 = some w) (k : some w = q) :
  Option.bind (loop B y0) (Sum.elim (fun e => some (Sum.inl e)) (fun e => some (Sum.inr e))) = q := by
 rw [h]
 cases w with
 | inl x => exact k
 | inr x => exact k
theorem Ey {Y W : Type} {B : Y → Option (Y ⊕ W)} (st : Nat → Y) (n : Nat) {w : W} {y0 : Y} (h : ∀ i, i < n → B (st i) = some (.inl (st (i + 1)))) (he : B (st n) = some (.inr w)) (h0 : st 0 = y0) : loop B y0 = some w := h0 ▸ vO st n h he
theorem lq2 {Y W α : Type} {B : Y → Option (Y ⊕ W)} (l : List α) (f : α → Option W) (fin : W) (st : Nat → Y) {y0 : Y} (h : ∀ i (hi : i < l.length), B (st i) = some (match f (l[i]'hi) with | some w => .inr w | none => .inl (st (i + 1)))) (he : B (st l.length) = some (.inr fin)) (h0 : st 0 = y0) :
  loop B y0 = some ((l.findSome? f).getD fin) := by
 subst h0
 have key : ∀ k i, i + k = l.length → loop B (st i) = some (((l.drop i).findSome? f).getD fin) := by
  intro k
  induction k with
  | zero =>
   intro i hi
   have : i = l.length := by omega
   subst this
   rw [List.drop_length, iJ he]; rfl
  | succ k ih =>
   intro i hi
   have hi' : i < l.length := by omega
   have hb := h i hi'
   rw [List.drop_eq_getElem_cons hi', List.findSome?_cons]
   cases hf : f (l[i]'hi') with
   | some w => rw [hf] at hb; rw [iJ hb]; rfl
   | none => rw [hf] at hb; rw [lM hb]; exact ih (i + 1) (by omega)
 exact key l.length 0 (by omega)
theorem WC {Y W α : Type} {B : Y → Option (Y ⊕ W)} (l : List α) (p : α → Bool) (e fin : W) (st : Nat → Y) {y0 : Y} (h : ∀ i (hi : i < l.length), B (st i) = some (if p (l[i]'hi) = true then .inr e else .inl (st (i + 1)))) (he : B (st l.length) = some (.inr fin)) (h0 : st 0 = y0) :
  loop B y0 = some (if l.any p = true then e else fin) := by
 rw [lq2 l (fun x => if p x = true then some e else none) fin st (fun i hi => by rw [h i hi]; cases p l[i] <;> rfl) he h0]
 congr 1
 clear h he h0
 induction l with
 | nil => rfl
 | cons x l ih => rw [List.findSome?_cons, List.any_cons]; cases hp : p x <;> simp_all
theorem KE {α : Type} (l : List α) : ((l.length : Int) == 0) = l.isEmpty := by cases l <;> simp; omega
theorem nat_ne {a b : Nat} : ((a : Int) != (b : Int)) = (a != b) := by rw [Bool.eq_iff_iff]; simp only [bne_iff_ne, ne_eq]; omega
theorem nmB {Y W : Type} {B : Y → Option (Y ⊕ W)} {y0 : Y} {w : Option W} (h : ∀ B', B' = B → loop B' y0 = w) : loop B y0 = w := h B rfl
theorem u8F {p : UInt8 → Prop} (h : ∀ n : _root_.Fin 256, p (UInt8.ofNat n.val)) : ∀ c, p c := fun c => by
 have := h ⟨c.toNat, c.toNat_lt⟩
 simpa using this
def eF {α W : Type} (f : Nat → α → Option W) : Nat → List α → Option W
 | _, [] => none
 | i, x :: r => match f i x with
  | some w => some w
  | none => eF f (i + 1) r
theorem lq5 {Y W α : Type} {B : Y → Option (Y ⊕ W)} (l : List α) (f : Nat → α → Option W) (fin : W) (st : Nat → Y) {y0 : Y} (h : ∀ i (hi : i < l.length), B (st i) = some (match f i (l[i]'hi) with | some w => .inr w | none => .inl (st (i + 1)))) (he : B (st l.length) = some (.inr fin)) (h0 : st 0 = y0) :
  loop B y0 = some ((eF f 0 l).getD fin) := by
 subst h0
 have key : ∀ k i, i + k = l.length → loop B (st i) = some ((eF f i (l.drop i)).getD fin) := by
  intro k
  induction k with
  | zero =>
   intro i hi
   have : i = l.length := by omega
   subst this
   rw [List.drop_length, iJ he]; rfl
  | succ k ih =>
   intro i hi
   have hi' : i < l.length := by omega
   have hb := h i hi'
   rw [List.drop_eq_getElem_cons hi', eF]
   cases hf : f i (l[i]'hi') with
   | some w => rw [hf] at hb; rw [iJ hb]; rfl
   | none => rw [hf] at hb; rw [lM hb]; exact ih (i + 1) (by omega)
 exact key l.length 0 (by omega)
def afr {α : Type} (p : α → Bool) (l : List α) : Int := (eF (fun i x => if p x = true then some (i : Int) else none) 0 l).getD (-1)
theorem BZ {α : Type} (p : α → Bool) (l : List α) : decide (afr p l ≥ 0) = l.any p := by
 have key : ∀ (l : List α) (i : Nat), decide ((eF (fun i x => if p x = true then some (i : Int) else none) i l).getD (-1) ≥ 0) = l.any p := by
  intro l
  induction l with
  | nil => intro i; rfl
  | cons x r ih =>
   intro i
   rw [eF, List.any_cons]
   cases hp : p x with
   | true => simp
   | false => simpa using ih (i + 1)
 exact key l 0
theorem lqX {α : Type} {B : Int → Option (Int ⊕ (Unit ⊕ Int))} (l : List α) (p : α → Bool) (h : ∀ i (hi : i < l.length), B (i : Int) = some (if p (l[i]'hi) = true then .inr (.inr (i : Int)) else .inl ((i + 1 : Nat) : Int))) (he : B (l.length : Int) = some (.inr (.inl ()))) :
  eH (Option.bind (loop B 0) (Sum.elim (fun e => some (Sum.inl e)) (fun e => some (Sum.inr e)))) (fun _ => some (-1 : Int)) (fun e => some e) = some (afr p l) := by
 refine Lm (lq5 l (fun i x => if p x = true then some (.inr (i : Int)) else none) (.inl ()) (fun i => (i : Int)) (fun i hi => by rw [h i hi]; cases p l[i] <;> rfl) he rfl) ?_
 have key : ∀ (l : List α) (i : Nat), Sum.elim (fun _ => some (-1 : Int)) (fun e => some e) ((eF (fun i x => if p x = true then some (.inr (i : Int)) else none) i l).getD (.inl ())) = some ((eF (fun i x => if p x = true then some (i : Int) else none) i l).getD (-1)) := by
  intro l
  induction l with
  | nil => intro i; rfl
  | cons x r ih =>
   intro i
   rw [eF, eF]
   cases hp : p x with
   | true => simp
   | false => simpa using ih (i + 1)
 exact key l 0
end Lv
