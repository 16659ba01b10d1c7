/- Walking regions that draw their order. -/
import Derived.Test.YtnlnojicpchmiaaDoorLvBin
namespace Lv
open Go
set_option linter.unusedVariables false
set_option linter.unusedSimpArgs false

section
variable {P : Program} {pm : Prims} {K : FuncId → Keep} {ops : Array Oper} {o : Oper} {l : List Oper} {env : List AV} {σ : List Ob}

/-- One operation, with its mark. -/
def stepT (P : Program) (call : Callee) (ops : Array Oper) (s : St) (o : Oper) : Option (St × (List Nat × Bool)) :=
  match wants ops s.env o with
  | some true => match aop P call s.env s.σ o with
    | some (v, σ') => some (⟨putA s.env o.dst v, σ'⟩, marked s.env s.σ σ' o)
    | none => none
  | some false => some (⟨putA s.env o.dst (.tuple []), s.σ⟩, ([], false))
  | none => none

theorem WT.one {s s1 : St} {mk : List Nat × Bool} {t : List (List Nat × Bool)} {Q : St → List (List Nat × Bool) → Prop} (h : ∀ call, stepT P call ops s o = some (s1, mk)) (k : WT P pm K ops l s1 (mk :: t) Q) : WT P pm K ops (o :: l) s t Q := by
  have h0 := h (fun _ _ _ => none)
  unfold stepT at h0
  cases hw : wants ops s.env o with
  | none => rw [hw] at h0; cases h0
  | some b =>
    cases b with
    | true =>
      rw [hw] at h0
      cases ha : aop P (fun _ _ _ => none) s.env s.σ o with
      | none => rw [ha] at h0; cases h0
      | some p =>
        obtain ⟨v, σ'⟩ := p
        rw [ha] at h0
        simp only [Option.some.injEq, Prod.mk.injEq] at h0
        obtain ⟨rfl, rfl⟩ := h0
        exact WT.op1 hw ⟨0, ha⟩ k
    | false =>
      rw [hw] at h0
      simp only [Option.some.injEq, Prod.mk.injEq] at h0
      obtain ⟨rfl, rfl⟩ := h0
      exact WT.skip hw k

/-- One operation; its mark in another form. -/
theorem WT.one' {s s1 : St} {mk mk' : List Nat × Bool} {t : List (List Nat × Bool)} {Q : St → List (List Nat × Bool) → Prop} (h : ∀ call, stepT P call ops s o = some (s1, mk)) (hm : mk = mk') (k : WT P pm K ops l s1 (mk' :: t) Q) : WT P pm K ops (o :: l) s t Q :=
  WT.one h (hm ▸ k)

theorem WT.call0 {Q : St → List (List Nat × Bool) → Prop} {t : List (List Nat × Bool)} {c : Call} {fo : Operand} {g : FuncId} {args : List AV} {x : AV} (hw : wants ops env o = some true) (ho : o.op = .call c) (hargs : opds env c.args.toList = some args) (hcal : c.callee = .value fo)
    (hfo : opd env fo = some (.fn (.func g) [] [])) (hcb : callable P g = true) (hi : idsL args = []) (hre : ∀ h, reL h args = some args) (hx : ∀ h, x.re h = some x) (hev : EvTo P pm K g args [] (fun r σ' => r = x ∧ σ' = []))
    (k : WT P pm K ops l ⟨putA env o.dst x, σ⟩ (([], true) :: t) Q) : WT P pm K ops (o :: l) ⟨env, σ⟩ t Q := by
  obtain ⟨r, σ', h1, rfl, rfl⟩ := hev
  refine WT.op1 hw (Op1.call ho hargs hcal hfo hcb (ι := []) (σc := []) (args' := args) (r := r) (os := []) (by simp [hi, canon_none]) (by simpa using hre _) h1 (hx _) rfl (by simp) rfl) ?_
  have hm : marked env σ (setAll σ [] (List.take ([] : List Nat).length []) ++ List.drop ([] : List Nat).length []) o = ([], true) := by
    have ht : touches env σ o = ([], true) := by
      simp only [touches, ho, hcal, hargs, hfo, List.nil_append, List.append_nil, hi]
      rfl
    simp [marked, ht, setAll]
  rw [hm]
  simpa [setAll] using k
end
end Lv
