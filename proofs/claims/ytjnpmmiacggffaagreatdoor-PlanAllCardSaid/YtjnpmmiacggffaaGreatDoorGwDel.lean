/- slices.Delete: in its own memory, what is left over made zero. -/
import Derived.Test.YtjnpmmiacggffaaGreatDoorGwAny
/- slices.Delete: in its own memory, what is left over made zero. -/
namespace Lv
open Go
set_option linter.unusedVariables false
set_option linter.unusedSimpArgs false
set_option linter.unusedSectionVars false
variable [bJ]
section
variable {P : Program} {m : Nat} {ops : Array Oper} {o : Oper} {l : List Oper} {n : Nat} {e : En} {σ σ' : List Ob} {t : TypeId} {x y : Operand}
end
theorem aO.afI {P : Program} {f : FuncId} {id sz off len : Nat} {rest : List AV} {σ σ' : List Ob} {r : AV} (hlen : 0 < len) (h : ∀ c, len ≤ c → aO P f (.slc id sz off len (some c) :: rest) σ r σ') : aO P f (.slc id sz off len none :: rest) σ r σ' := by
 intro ro μ w gF g hdom hV
 have h0 : 0 < gF.size := by rw [hV.size]; simp
 have hv := hV.get 0 _ gF[0] rfl (Array.getElem?_eq_getElem h0)
 rcases mW hv with ⟨L, c, a, e, hL, hsz, hlc, hcap, ha⟩ | ⟨e, _⟩
 ·refine h c hlc ro μ w gF g hdom ⟨by rw [hV.size]; rfl, fun i x v hx hv' => ?_⟩
  cases i with
  | zero =>
   simp only [List.getElem?_cons_zero, Option.some.injEq] at hx
   subst hx
   rw [Array.getElem?_eq_getElem h0] at hv'
   simp only [Option.some.injEq] at hv'
   subst hv'
   rw [e]
   exact .slc id sz off len (some c) L c a hL hsz hlc (fun k hk => by cases hk; rfl) ha
  | succ i => exact hV.get (i + 1) x v (by simpa using hx) hv'
 ·omega
section
variable {P : Program} {σ : List Ob} {t el : TypeId} {sz zG c : Nat} {z : D} {α : Type} {f : α → D} {xs : List α}
end
end Lv
