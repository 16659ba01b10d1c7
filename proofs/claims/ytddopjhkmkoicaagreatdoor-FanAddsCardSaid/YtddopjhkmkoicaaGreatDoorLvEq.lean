/- Equality of structs with letters in them. -/
import Derived.Test.YtddopjhkmkoicaaGreatDoorLvStr
import Derived.Laws.StructEq
/- Equality of structs with letters in them. -/
namespace Lv
open Go
set_option linter.unusedVariables false
set_option linter.unusedSimpArgs false
section
variable {P : Program}
theorem Al : pr P program = some P := rfl
theorem UR {α : Type} (c : Prop) [Decidable c] (s s' : Sem α) : pr P (if c then s else s') = if c then pr P s else pr P s' := by split <;> rfl
theorem Ru (d : Nat) (t : TypeId) (xs ys : Array Value) {fs : Array Field} (ht : P.underlying t = some (.struct fs)) (hp : P.stoodInHeld t = false) :
  pr P (Op.equalIn (d + 1) t (.agg xs) (.agg ys)) = pr P (Op.eqFields d xs ys fs.toList) := by
 simp only [Op.equalIn, gU, fE ht, Option.bind_some, Al, hp, Bool.false_eq_true, if_false]
 rw [← Array.forIn_toList]
 generalize fs.toList = fs
 clear ht
 induction fs with
 | nil => simp [Op.eqFields, iU]
 | cons f fs ih =>
  simp only [List.forIn_cons, Op.eqFields, gU, UR]
  split
  ·cases pr P (part f.type xs f.offset) with
   | none => rfl
   | some a =>
    simp only [Option.bind_some]
    cases pr P (part f.type ys f.offset) with
    | none => rfl
    | some b =>
     simp only [Option.bind_some]
     cases pr P (Op.equalIn d f.type a b) with
     | none => rfl
     | some r =>
      cases r
      ·simp only [Option.bind_some, Bool.not_false, if_true, iU]
      ·simp only [Option.bind_some, Bool.not_true, Bool.false_eq_true, if_false, iU]
       exact ih
  ·simp only [iU, Option.bind_some]
   exact ih
theorem Rv (d : Nat) (t : TypeId) (a b : ByteArray) (h : P.underlying t = some .string) : pr P (Op.equalIn (d + 1) t (.string a) (.string b)) = some (a.toList == b.toList) := by
 simp only [Op.equalIn, gU, fE h, Option.bind_some, iU, beq_toListBytes]
theorem OO (d : Nat) (t : TypeId) (a b : Bool) (h : P.underlying t = some .bool) : pr P (Op.equalIn (d + 1) t (.bool a) (.bool b)) = some (a == b) := by
 simp only [Op.equalIn, gU, fE h, Option.bind_some, iU]
theorem Jt (d : Nat) (t : TypeId) (k k' : IntKind) (a b : Int) (h : P.underlying t = some (.int k')) : pr P (Op.equalIn (d + 1) t (.int k a) (.int k b)) = some (a == b) := by
 simp only [Op.equalIn, gU, fE h, Option.bind_some, if_true, iU]
end
end Lv
