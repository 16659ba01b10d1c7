/- Equality of structs with letters in them. -/
import Derived.Test.YtddopjhkmkoicaaGreatDoorLvStr
import Derived.Laws.StructEq
/- Equality of structs with letters in them. -/
namespace Lv
open Go
set_option linter.unusedVariables false
set_option linter.unusedSimpArgs false
section
variable {P : Program}
theorem pr_program : pr P program = some P := rfl
theorem pr_ite {α : Type} (c : Prop) [Decidable c] (s s' : Sem α) : pr P (if c then s else s') = if c then pr P s else pr P s' := by split <;> rfl
theorem pr_struct (d : Nat) (t : TypeId) (xs ys : Array Value) {fs : Array Field} (ht : P.underlying t = some (.struct fs)) (hp : P.stoodInHeld t = false) :
  pr P (Op.equalIn (d + 1) t (.agg xs) (.agg ys)) = pr P (Op.eqFields d xs ys fs.toList) := by
 simp only [Op.equalIn, pr_bind, pr_underlying ht, Option.bind_some, pr_program, hp, Bool.false_eq_true, if_false]
 rw [← Array.forIn_toList]
 generalize fs.toList = fs
 clear ht
 induction fs with
 | nil => simp [Op.eqFields, pr_pure]
 | cons f fs ih =>
  simp only [List.forIn_cons, Op.eqFields, pr_bind, pr_ite]
  split
  ·cases pr P (part f.type xs f.offset) with
   | none => rfl
   | some a =>
    simp only [Option.bind_some]
    cases pr P (part f.type ys f.offset) with
    | none => rfl
    | some b =>
     simp only [Option.bind_some]
     cases pr P (Op.equalIn d f.type a b) with
     | none => rfl
     | some r =>
      cases r
      ·simp only [Option.bind_some, Bool.not_false, if_true, pr_pure]
      ·simp only [Option.bind_some, Bool.not_true, Bool.false_eq_true, if_false, pr_pure]
       exact ih
  ·simp only [pr_pure, Option.bind_some]
   exact ih
theorem pr_eq_str (d : Nat) (t : TypeId) (a b : ByteArray) (h : P.underlying t = some .string) : pr P (Op.equalIn (d + 1) t (.string a) (.string b)) = some (a.toList == b.toList) := by
 simp only [Op.equalIn, pr_bind, pr_underlying h, Option.bind_some, pr_pure, beq_toListBytes]
theorem pr_eq_bool (d : Nat) (t : TypeId) (a b : Bool) (h : P.underlying t = some .bool) : pr P (Op.equalIn (d + 1) t (.bool a) (.bool b)) = some (a == b) := by
 simp only [Op.equalIn, pr_bind, pr_underlying h, Option.bind_some, pr_pure]
theorem pr_eq_int (d : Nat) (t : TypeId) (k k' : IntKind) (a b : Int) (h : P.underlying t = some (.int k')) : pr P (Op.equalIn (d + 1) t (.int k a) (.int k b)) = some (a == b) := by
 simp only [Op.equalIn, pr_bind, pr_underlying h, Option.bind_some, if_true, pr_pure]
end
end Lv
