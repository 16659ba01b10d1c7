/- Equality of structs with letters in them. -/
import Derived.Test.YtjnpmmiacggffaaGreatDoorLvStr
import Derived.Laws.StructEq
/- Equality of structs with letters in them. -/
namespace Lv
open Go
set_option linter.unusedVariables false
set_option linter.unusedSimpArgs false
section
variable {P : Program}
theorem CU : pr P program = some P := rfl
theorem Wq {α : Type} (c : Prop) [Decidable c] (s s' : Sem α) : pr P (if c then s else s') = if c then pr P s else pr P s' := by split <;> rfl
theorem Ug (d : Nat) (t : TypeId) (xs ys : Array Value) {fs : Array Field} (ht : P.underlying t = some (.struct fs)) (hp : P.stoodInHeld t = false) :
  pr P (Op.equalIn (d + 1) t (.agg xs) (.agg ys)) = pr P (Op.eqFields d xs ys fs.toList) := by
 simp only [Op.equalIn, iK, gD ht, Option.bind_some, CU, hp, Bool.false_eq_true, if_false]
 rw [← Array.forIn_toList]
 generalize fs.toList = fs
 clear ht
 induction fs with
 | nil => simp [Op.eqFields, jD]
 | cons f fs ih =>
  simp only [List.forIn_cons, Op.eqFields, iK, Wq]
  split
  ·cases pr P (part f.type xs f.offset) with
   | none => rfl
   | some a =>
    simp only [Option.bind_some]
    cases pr P (part f.type ys f.offset) with
    | none => rfl
    | some b =>
     simp only [Option.bind_some]
     cases pr P (Op.equalIn d f.type a b) with
     | none => rfl
     | some r =>
      cases r
      ·simp only [Option.bind_some, Bool.not_false, if_true, jD]
      ·simp only [Option.bind_some, Bool.not_true, Bool.false_eq_true, if_false, jD]
       exact ih
  ·simp only [jD, Option.bind_some]
   exact ih
theorem Uh (d : Nat) (t : TypeId) (a b : ByteArray) (h : P.underlying t = some .string) : pr P (Op.equalIn (d + 1) t (.string a) (.string b)) = some (a.toList == b.toList) := by
 simp only [Op.equalIn, iK, gD h, Option.bind_some, jD, beq_toListBytes]
theorem CV (d : Nat) (t : TypeId) (a b : Bool) (h : P.underlying t = some .bool) : pr P (Op.equalIn (d + 1) t (.bool a) (.bool b)) = some (a == b) := by
 simp only [Op.equalIn, iK, gD h, Option.bind_some, jD]
theorem LP (d : Nat) (t : TypeId) (k k' : IntKind) (a b : Int) (h : P.underlying t = some (.int k')) : pr P (Op.equalIn (d + 1) t (.int k a) (.int k b)) = some (a == b) := by
 simp only [Op.equalIn, iK, gD h, Option.bind_some, if_true, jD]
end
end Lv
