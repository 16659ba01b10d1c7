/- Maps in printed walks. -/
import Derived.Test.YtihhhgaaagefgaaDoorGwS
/- Maps in printed walks. -/
namespace Lv
open Go
set_option linter.unusedVariables false
set_option linter.unusedSimpArgs false
set_option linter.unusedSectionVars false
section
variable {κ β : Type} [BEq κ] {f : κ → D} {g : β → D} {m : List (κ × β)} {k : κ} {v : β}
end
variable [BaseTab]
section
variable {P : Program} {n : Nat} {e : En} {σ σ' : List Ob} {t kt vt : TypeId} {td : TypeDesc} {x y z : Operand} {id : Nat}
variable {κ β : Type} [BEq κ] {f : κ → D} {g : β → D} {m : List (κ × β)} {k : κ} {v : β}
def ifaceT (P : Program) (t : TypeId) : Bool := match P.underlying t with
 | some (.interface _) => true
 | _ => false
theorem ifaceT_u (h : ifaceT P t = true) : ∃ ms, P.underlying t = some (.interface ms) := by
 unfold ifaceT at h
 split at h
 ·rename_i ms hu; exact ⟨ms, hu⟩
 ·cases h
theorem ifn_eql {T : TypeId} {a : AV} {X Y : Operand} (h : ifaceT P t = true) : abinOp P .eql t X Y (.iface T a) (.d .nili) = some (.d (.bool false)) := by
 obtain ⟨ms, hu⟩ := ifaceT_u h
 simp only [abinOp, AV.val, hu, nilKind, if_true]
theorem cv_bb {el : TypeId} {sz off len : Nat} {cap : Option Nat} {s0 : Nat} {xs : List D} (un : P.underlying t = some (.slice el)) (ue : P.underlying el = some (.int .u8)) (h : σ[id]? = some (.row s0 xs true)) (hl : len ≠ 0) :
  aconvert P σ t t (.slc id sz off len cap) = some (.slc id sz off len cap, σ) := by
 simp only [aconvert, un, ue, h, hl, ne_eq, not_false_eq_true, and_self, if_true]
end
end Lv
