/- Steps whose yield is one of several. -/
import Derived.Test.YtjegjjlojnpnoaaGreatDoorGwMap
/- Steps whose yield is one of several. -/
namespace Lv
open Go
set_option linter.unusedVariables false
set_option linter.unusedSimpArgs false
set_option linter.unusedSectionVars false
theorem map_nil {α β : Type} {f : α → β} {l : List α} (h : l.map f = []) : l = [] := by cases l <;> simp_all
variable [BaseTab]
section
variable {P : Program} {m : Nat} {ops : Array Oper} {o : Oper} {l : List Oper} {n : Nat} {e : En} {σ : List Ob} {t : TypeId} {x y : Operand}
theorem SO.sem {dd : Nat} {Q : St → Prop} (Vs : AV → List Ob → Prop) (hw : Wanted ops n e o true) (hd : o.dst = some dd)
  (hs : ∀ (ro : Ro) (μ : Mu) (w : World) (a : Act), Good ro μ w (hp σ) → (∀ id, σ.length ≤ id → μ id = none) → VRs ro μ (mk n e) a.tmps → ∃ s x σ', Vs x σ' ∧ execOp a.eval o = (do pure (.value (← s))) ∧ Step P s ro μ w σ x σ')
  (k : ∀ x σ', Vs x σ' → SO P m ops l ⟨mk n ((dd, x) :: e), σ'⟩ Q) : SO P m ops (o :: l) ⟨mk n e, σ⟩ Q := by
 intro ro0 μ0 w0 H0 ro μ w a j Z hl hr hQ
 have h0 : ops[j]? = some o := by have := hl 0; simpa using this.symm
 have hl' : ∀ i, l[i]? = ops[j + 1 + i]? := fun i => by have := hl (i + 1); simp at this; rw [this]; congr 1; omega
 simp only [List.length_cons, List.range'_succ]
 rw [wpOps_cons]
 unfold wpOp
 simp only [h0]
 rw [wants_sound hr.env hw]
 simp only [if_true]
 have hfree : ∀ id, σ.length ≤ id → μ id = none := by
  intro id hid
  cases hm : μ id with
  | none => rfl
  | some L => have := hr.dom id L hm; simp at this; omega
 obtain ⟨s, x, σ', hx, he, hst⟩ := hs ro μ w a hr.good hfree hr.env
 refine .inl (wp_of_step he hst ?_)
 intro v ro' μ' w' k1 k2 k3 k4 k5
 have hp' : putA (mk n e) o.dst x = mk n ((dd, x) :: e) := by rw [hd, put_mk]
 have := hr.op k1 k2 k3 k4 k5 o.dst
 rw [hp'] at this
 exact k x σ' hx ro0 μ0 w0 H0 ro' μ' w' _ (j + 1) Z hl' this hQ
theorem cmN {dd : Nat} {el t' ty : TypeId} {pos : String} {af : Array Edge} {sz : Nat} {xs : List D} {Q : St → Prop} (hx : lq n e x = some (.d (.lst sz xs))) (hy : lq n e y = some (.d .nils)) (un : P.underlying t = some (.slice el))
  (kt : xs = [] → SO P m ops l ⟨mk n ((dd, .d (eB true)) :: e), σ⟩ Q) (kf : SO P m ops l ⟨mk n ((dd, .d (eB false)) :: e), σ⟩ Q) :
  SO P m ops (⟨some dd, .binOp .eql t x y t', ty, pos, af, none⟩ :: l) ⟨mk n e, σ⟩ Q := by
 refine SO.sem (fun x σ' => σ' = σ ∧ ∃ b : Bool, x = .d (eB b) ∧ (b = true → xs = [])) wf rfl ?_ ?_
 ·intro ro μ w a g hfree he
  have hvx := opd_sound he (lo_opd (lq_lo hx))
  have hvy := VR_val (opd_sound he (lo_opd (lq_lo hy))) rfl
  have key : ∀ (ad : Option Addr) (k c : Nat), (do eqGuard .eql t x y (Value.slice ad k c) (.slice none 0 0); binOp .eql t (Value.slice ad k c) (.slice none 0 0) : Sem Value).run P w = .ok (.bool ad.isNone) w := by
   intro ad k c
   have h1 : (eqGuard .eql t x y (Value.slice ad k c) (.slice none 0 0)).run P w = .ok () w := by unfold eqGuard; simp
   have h2 : (Op.equal t (Value.slice ad k c) (.slice none 0 0)).run P w = .ok ad.isNone w := by
    refine (?_ : ∀ d, (Op.equalIn (d + 1) t _ _).run P w = .ok ad.isNone w) 9999
    intro d
    simp only [Op.equalIn, Sem.run_bind, run_underlying un, Result.andThen_ok, Sem.run_pure, Option.isNone_none]
    cases ad <;> simp
   simp only [Sem.run_bind, h1, Result.andThen_ok, show binOp .eql t (Value.slice ad k c) (.slice none 0 0) = (do pure (.bool (← Op.equal t (Value.slice ad k c) (.slice none 0 0)))) from rfl, h2, Sem.run_pure]
  refine ⟨do eqGuard .eql t x y (a.eval x) (a.eval y); binOp .eql t (a.eval x) (a.eval y), ?_⟩
  rw [hvy]
  rcases VR_lst hvx with ⟨a', c, g', e1, _⟩ | ⟨e1, e2⟩
  ·rw [e1]
   exact ⟨_, σ, ⟨rfl, false, rfl, fun h => by cases h⟩, by simp [execOp, hvy, e1], Step.still g ⟨_, key _ _ _, .d _ _ (.bool _)⟩⟩
  ·rw [e2]
   exact ⟨_, σ, ⟨rfl, true, rfl, fun _ => e1⟩, by simp [execOp, hvy, e2], Step.still g ⟨_, key _ _ _, .d _ _ (.bool _)⟩⟩
 ·rintro x σ' ⟨rfl, b, rfl, hb⟩
  cases b with
  | true => exact kt (hb rfl)
  | false => exact kf
end
end Lv
