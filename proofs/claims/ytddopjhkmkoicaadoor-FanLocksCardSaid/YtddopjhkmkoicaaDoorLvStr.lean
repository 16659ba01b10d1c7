/- Texts: a byte of one, a front of one. -/
import Derived.Test.YtddopjhkmkoicaaDoorGwSem
namespace Lv
open Go
set_option linter.unusedVariables false
set_option linter.unusedSimpArgs false
set_option linter.unusedSectionVars false

theorem pr_bind {P : Program} {α β : Type} (s : Sem α) (f : α → Sem β) : pr P (s >>= f) = (pr P s).bind fun a => pr P (f a) := by
  show pr P (Sem.bind s f) = _
  induction s with
  | pure a => rfl
  | program k ih => exact ih P
  | mark m k ih => exact ih
  | _ => rfl

theorem pr_pure {P : Program} {α : Type} (a : α) : pr P (pure a : Sem α) = some a := rfl

theorem pr_underlying {P : Program} {t : TypeId} {d : TypeDesc} (h : P.underlying t = some d) : pr P (underlying t) = some d := by
  unfold underlying
  rw [pr_bind]
  show (pr P (Sem.program fun p => pure p)).bind _ = _
  simp only [pr, Option.bind]
  first
    | rw [h]; rfl
    | simp [pr, h, pr_pure]

theorem idx_str {P : Program} {t : TypeId} (un : P.underlying t = some .string) (s : ByteArray) (k : IntKind) (n : Nat) (h : n < s.size) : byPr P (Instr.index t (.string s) (.int k n)) = some (.d (.int .u8 (s.data[n]'h).toNat)) := by
  have hs : s[(n : Int).toNat]? = some (s.data[n]'h) := by
    rw [Int.toNat_natCast]
    exact getElem?_pos s n h
  have : pr P (Instr.index t (.string s) (.int k n)) = some (.int .u8 (s.data[n]'h).toNat) := by
    simp only [Instr.index, asIntOf, pure_bind, pr_bind, pr_underlying un, Option.bind_some]
    rw [if_pos (by omega), hs]
    rfl
  unfold byPr
  rw [this]
  rfl

theorem slice_str_hi {P : Program} {t : TypeId} (un : P.underlying t = some .string) (s : ByteArray) (k : IntKind) (n : Nat) (h : n ≤ s.size) : aslice P t (.d (.str s)) none (some (.d (.int k n))) none = some (.d (.str (s.extract 0 n))) := by
  have : pr P (Instr.slice t (.string s) none (some (.int k n)) none) = some (.string (s.extract 0 n)) := by
    simp only [Instr.slice, Instr.sliceBounds, Instr.sliceBound, asIntOf, pure_bind, pr_bind, pr_underlying un, Option.bind_some, Option.isSome_none, Bool.false_eq_true, if_false]
    rw [if_pos (by omega)]
    rfl
  show (match P.underlying t with | some (.slice e) => _ | some .string => _ | _ => _) = _
  rw [un]
  show (match pr P (Instr.slice t (.string s) none (some (.int k n)) none) with
        | some u => (match ofVal u with | some y => some (AV.d y) | none => none)
        | none => none) = _
  rw [this]
  rfl

end Lv
