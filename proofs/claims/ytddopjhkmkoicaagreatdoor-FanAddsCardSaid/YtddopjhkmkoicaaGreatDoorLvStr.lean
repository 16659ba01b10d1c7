/- Texts: a byte of one, a front of one. -/
import Derived.Test.YtddopjhkmkoicaaGreatDoorGwSem
/- Texts: a byte of one, a front of one. -/
namespace Lv
open Go
set_option linter.unusedVariables false
set_option linter.unusedSimpArgs false
set_option linter.unusedSectionVars false
theorem gU {P : Program} {α β : Type} (s : Sem α) (f : α → Sem β) : pr P (s >>= f) = (pr P s).bind fun a => pr P (f a) := by
 show pr P (Sem.bind s f) = _
 induction s with
 | pure a => rfl
 | program k ih => exact ih P
 | mark m k ih => exact ih
 | _ => rfl
theorem iU {P : Program} {α : Type} (a : α) : pr P (pure a : Sem α) = some a := rfl
theorem fE {P : Program} {t : TypeId} {d : TypeDesc} (h : P.underlying t = some d) : pr P (underlying t) = some d := by
 unfold underlying
 rw [gU]
 show (pr P (Sem.program fun p => pure p)).bind _ = _
 simp only [pr, Option.bind]
 first
  | rw [h]; rfl
  | simp [pr, h, iU]
end Lv
