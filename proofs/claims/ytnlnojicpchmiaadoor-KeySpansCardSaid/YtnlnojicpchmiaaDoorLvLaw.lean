/- From the evaluator to a law's row. -/
import Derived.Test.YtnlnojicpchmiaaDoorLvDraw
import Derived.Test.YtnlnojicpchmiaaDoorLvW
import Derived.Below
namespace Lv
open Go
set_option linter.unusedVariables false
set_option linter.unusedSimpArgs false

theorem none_primOk (P : Program) : PrimOk P (fun _ => none) := fun f g h => by cases h

theorem good_none (w : World) : Good (fun _ => none) (fun _ => none) w (hp []) where
  roOk a v h := by cases h
  ob id := by simp [hp, OR]
  apart id id' L L' h := by simp [hp, Ob.wr] at h
  roApart b h := by
    obtain ⟨id, L, h1, _⟩ := h
    simp [hp, Ob.wr] at h1

/-- What the evaluator yields of pure data the machine yields; what lay in memory stays. -/
theorem calls_of_ev {P : Program} {K : FuncId → Keep} {f : FuncId} {args : List AV} {y : D} {v : Value} {cargs : Array Value} (w : World) (h : EvTo P (fun _ => none) K f args [] (fun r _ => r = .d y)) (hy : y.val = some v) (ha : VRs (fun _ => none) (fun _ => none) args cargs) :
    Calls P f cargs w (fun e w' => e = .returned v ∧ RowKit.Below w.heap.size w w') := by
  obtain ⟨r, σ', ⟨k, hk⟩, rfl⟩ := h
  refine (callF_sound (none_primOk P) (fun call hc => drawOk hc) k f args [] _ σ' hk _ _ w cargs (good_none w) (fun id L h => by cases h) ha).mono ?_
  rintro e w' ⟨u, ro', μ', rfl, k1, k2, k3, k4, k5⟩
  refine ⟨by rw [VR_val k1 hy], ⟨k3.os, k3.tape, k3.output, k3.size, fun b hb => k3.frame b hb ?_⟩⟩
  rintro ⟨id, L, h1, _⟩
  simp [hp, Ob.wr] at h1

end Lv
