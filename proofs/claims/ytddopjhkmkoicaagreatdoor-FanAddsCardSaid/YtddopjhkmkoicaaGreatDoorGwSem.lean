/- Code walked on the evaluator's states: what holds of every state of the machine that stands so. -/
import Derived.Test.YtddopjhkmkoicaaGreatDoorLvDraw
/- Code walked on the evaluator's states: what holds of every state of the machine that stands so. -/
namespace Lv
open Go
set_option linter.unusedVariables false
set_option linter.unusedSimpArgs false
set_option linter.unusedSectionVars false
variable [BaseTab]
def aL (P : Program) (f : FuncId) (args : List AV) (σ : List Ob) (r : AV) (σ' : List Ob) : Prop :=
 ∀ (ro : Ro) (μ : Mu) (w : World) (cargs : Array Value), Good ro μ w (hp σ) → (∀ id L, μ id = some L → id < σ.length) → VRs ro μ args cargs →
  Calls P f cargs w (fun e w' => ∃ v ro' μ', e = .returned v ∧ VR ro' μ' r v ∧ Good ro' μ' w' (hp σ') ∧ zK ro μ w (hp σ) ro' μ' w' (hp σ') ∧ (∀ id L, μ' id = some L → id < σ'.length) ∧ (∀ id, id < σ.length → μ' id = μ id))
open Classical in
noncomputable def single (f : FuncId) (args : List AV) (σ : List Ob) (r : AV) (σ' : List Ob) : Callee := fun f' a' s' => if f' = f ∧ a' = args ∧ s' = σ then some (r, σ') else none
theorem vC {P : Program} {f : FuncId} {args : List AV} {σ : List Ob} {r : AV} {σ' : List Ob} (h : aL P f args σ r σ') : A8 P (single f args σ r σ') := by
 intro f' a' s' r' s'' hc
 unfold single at hc
 split at hc
 ·rename_i e
  obtain ⟨rfl, rfl, rfl⟩ := e
  simp only [Option.some.injEq, Prod.mk.injEq] at hc
  obtain ⟨rfl, rfl⟩ := hc
  exact h
 ·cases hc
theorem Jy (P : Program) : A8 P (fun _ _ _ => none) := fun f a s r s' h => by cases h
section
variable {P : Program} {m : Nat} {ops : Array Oper} {o : Oper} {l : List Oper}
def ST (P : Program) (ops : Array Oper) (l : List Oper) (s : St) (acc : List (List Nat × Bool)) (Q : St → List (List Nat × Bool) → Prop) : Prop := ∃ s' t, RunT P ops l s s' t ∧ Q s' (acc.reverse ++ t)
def SC (P : Program) (m : Nat) (c : Code) (s : St) (Q : Ex → St → Prop) : Prop :=
 ∀ (gX : Ro) (gQ : Mu) (w0 : World) (H0 : Hp) (ro : Ro) (μ : Mu) (w : World) (a : Act) (Z : Exit → Act → World → Prop), Rel m gX gQ w0 H0 ro μ w s a →
  (∀ e s' a' w', Q e s' → Ends m gX gQ w0 H0 s' a' w' → Z e.exit' a' w') → c.wp P Z a w
def SI (P : Program) (m : Nat) (c : Code) (s : St) (Q : Ex → St → Prop) : Prop :=
 ∀ (gX : Ro) (gQ : Mu) (w0 : World) (H0 : Hp) (ro : Ro) (μ : Mu) (w : World) (a : Act) (Z : Exit → Act → World → Prop), Rel m gX gQ w0 H0 ro μ w s a →
  (∀ e s' a' w', Q e s' → Ends m gX gQ w0 H0 s' a' w' → Z e.exit' a' w') → wpIn P c Z a w
def Wk (m : Nat) (s s1 : St) : Prop := ∀ (gX : Ro) (gQ : Mu) (w0 : World) (H0 : Hp) (ro : Ro) (μ : Mu) (w : World) (a : Act), Rel m gX gQ w0 H0 ro μ w s a → Ends m gX gQ w0 H0 s1 a w
theorem Wk.refl (s : St) : Wk m s s := fun _ _ _ _ ro μ _ _ h => ⟨ro, μ, h⟩
theorem Wk.trans {s s1 s2 : St} (h : Wk m s s1) (k : Wk m s1 s2) : Wk m s s2 := fun gX gQ w0 H0 ro μ w a hr => let ⟨tu, NV, h1⟩ := h gX gQ w0 H0 ro μ w a hr; k gX gQ w0 H0 tu NV w a h1
theorem Wk.of_eq {s s1 : St} (h : s = s1) : Wk m s s1 := h ▸ Wk.refl s
theorem Wk.ends {s s1 : St} (h : Wk m s s1) {gX : Ro} {gQ : Mu} {w0 : World} {H0 : Hp} {a : Act} {w : World} (he : Ends m gX gQ w0 H0 s a w) : Ends m gX gQ w0 H0 s1 a w := let ⟨ro, μ, hr⟩ := he; h gX gQ w0 H0 ro μ w a hr
def SO (P : Program) (m : Nat) (ops : Array Oper) (l : List Oper) (s : St) (Q : St → Prop) : Prop :=
 ∀ (gX : Ro) (gQ : Mu) (w0 : World) (H0 : Hp) (ro : Ro) (μ : Mu) (w : World) (a : Act) (k : Nat) (Z : Exit → Act → World → Prop), (∀ j, l[j]? = ops[k + j]?) → Rel m gX gQ w0 H0 ro μ w s a →
  (∀ s' a' w', Q s' → Ends m gX gQ w0 H0 s' a' w' → Z .normal a' w') → wpOps P ops Z (List.range' k l.length) a w
theorem SO.wk {s s1 : St} {Q : St → Prop} (h : Wk m s s1) (k : SO P m ops l s1 Q) : SO P m ops l s Q := by
 intro gX gQ w0 H0 ro μ w a j Z hl hr hQ
 obtain ⟨tu, NV, h1⟩ := h gX gQ w0 H0 ro μ w a hr
 exact k gX gQ w0 H0 tu NV w a j Z hl h1 hQ
theorem SO.done {s : St} {Q : St → Prop} (h : Q s) : SO P m ops [] s Q := fun gX gQ w0 H0 ro μ w a k Z _ hr hQ => hQ s a w h ⟨ro, μ, hr⟩
theorem SO.one {s s1 : St} {v : AV} {mk : List Nat × Bool} {Q : St → Prop} (h1 : One P ops o s v mk s1) (h2 : SO P m ops l s1 Q) : SO P m ops (o :: l) s Q := by
 intro gX gQ w0 H0 ro μ w a k Z hl hr hQ
 have h0 : ops[k]? = some o := by have := hl 0; simpa using this.symm
 have hl' : ∀ j, l[j]? = ops[k + 1 + j]? := fun j => by have := hl (j + 1); simp at this; rw [this]; congr 1; omega
 simp only [List.length_cons, List.range'_succ]
 rw [wpOps_cons]
 unfold wpOp
 simp only [h0]
 obtain ⟨aot, σ1⟩ := s1
 have he := h1.env
 simp only at he
 subst he
 rcases h1.or with ⟨call, v0, hc, hAW, hw, hop, _⟩ | ⟨hw, hv, hσ, _⟩
 ·rw [pY hr.env hw]
  simp only [if_true]
  refine .inl (JF hc hop hr.good (fun id hid _ => ?_) hr.env ?_)
  ·cases hm : μ id with
   | none => rfl
   | some L => have := hr.dom id L hm; omega
  ·intro v ro' μ' w' k1 k2 k3 k4 k5
   exact h2 gX gQ w0 H0 ro' μ' w' _ (k + 1) Z hl' (hr.op (hAW _ _ _ k1) k2 k3 k4 k5 o.dst) hQ
 ·rw [pY hr.env hw]
  simp only [Bool.false_eq_true, if_false]
  simp only at hσ
  subst hσ
  subst hv
  exact h2 gX gQ w0 H0 ro μ w _ (k + 1) Z hl' (hr.skip o.dst) hQ
theorem SC.wk {c : Code} {s s1 : St} {Q : Ex → St → Prop} (h : Wk m s s1) (k : SC P m c s1 Q) : SC P m c s Q := by
 intro gX gQ w0 H0 ro μ w a Z hr hQ
 obtain ⟨tu, NV, h1⟩ := h gX gQ w0 H0 ro μ w a hr
 exact k gX gQ w0 H0 tu NV w a Z h1 hQ
theorem SC.post {c : Code} {s : St} {Q Q' : Ex → St → Prop} (h : SC P m c s Q') (hq : ∀ e s, Q' e s → ∃ s1, Wk m s s1 ∧ Q e s1) : SC P m c s Q := by
 intro gX gQ w0 H0 ro μ w a Z hr hQ
 refine h gX gQ w0 H0 ro μ w a Z hr fun e s' a' w' h1 h2 => ?_
 obtain ⟨s1, k1, k2⟩ := hq e s' h1
 exact hQ e s1 a' w' k2 (k1.ends h2)
theorem SC.mono {c : Code} {s : St} {Q Q' : Ex → St → Prop} (h : SC P m c s Q') (hq : ∀ e s, Q' e s → Q e s) : SC P m c s Q := h.post fun e s q => ⟨s, Wk.refl s, hq e s q⟩
theorem SC.region {id : Nat} {s : St} {Q : Ex → St → Prop} (h : SO P m ops ops.toList s (fun s' => Q .normal s')) : SC P m (.region id ops false) s Q := by
 intro gX gQ w0 H0 ro μ w a Z hr hQ
 refine wp_region ?_
 rw [List.range_eq_range']
 have := h gX gQ w0 H0 ro μ w a 0 Z (fun j => by simp) hr (fun s' a' w' h2 he => hQ .normal s' a' w' h2 he)
 simpa using this
theorem SC.draws {id : Nat} {s : St} {Q : Ex → St → Prop} (hok : F6 P ops = true) (h : ST P ops ops.toList s [] (fun s' t => kK ops t = true ∧ Q .normal s')) : SC P m (.region id ops true) s Q := by
 intro gX gQ w0 H0 ro μ w a Z hr hQ
 obtain ⟨s', t, h1, h2, h3⟩ := h
 simp only [List.reverse_nil, List.nil_append] at h2
 exact acH m gX gQ w0 H0 Z ops id s s' t ro μ w a h1 (by rw [h2, hok]; rfl) hr (fun a' w' he => hQ .normal s' a' w' h3 he)
theorem SC.seq {a b : Code} {s : St} {Q : Ex → St → Prop} (h : SC P m a s (fun e s1 => match e with | .normal => SC P m b s1 Q | e => Q e s1)) : SC P m (.seq a b) s Q := by
 intro gX gQ w0 H0 ro μ w act Z hr hQ
 refine wp_seq ?_
 refine h gX gQ w0 H0 ro μ w act _ hr fun e s' a' w' h1 h2 => ?_
 cases e with
 | normal =>
  obtain ⟨ro', μ', hr'⟩ := h2
  exact h1 gX gQ w0 H0 ro' μ' w' a' Z hr' hQ
 | ret => exact hQ .ret s' a' w' h1 h2
 | exit i => exact hQ (.exit i) s' a' w' h1 h2
theorem SC.cond {c : Operand} {a b : Code} {s : St} {Q : Ex → St → Prop} {t : Bool} (hc : mY s.env c = some (.d (.bool t))) (h1 : t = true → SC P m a s Q) (h2 : t = false → SC P m b s Q) : SC P m (.cond c a b) s Q := by
 intro gX gQ w0 H0 ro μ w act Z hr hQ
 have ec : act.eval c = .bool t := fA (bT hr.env hc) rfl
 refine wp_cond ec ?_
 cases t with
 | true => exact h1 rfl gX gQ w0 H0 ro μ w act Z hr hQ
 | false => exact h2 rfl gX gQ w0 H0 ro μ w act Z hr hQ
theorem SC.skip {s : St} {Q : Ex → St → Prop} (h : Q .normal s) : SC P m .skip s Q := fun gX gQ w0 H0 ro μ w a Z hr hQ => wp_skip (hQ .normal s a w h ⟨ro, μ, hr⟩)
theorem SC.label {i : Nat} {s : St} {Q : Ex → St → Prop} (h : Q .normal s) : SC P m (.label i) s Q := fun gX gQ w0 H0 ro μ w a Z hr hQ => wp_label (hQ .normal s a w h ⟨ro, μ, hr⟩)
theorem SC.ret {s : St} {Q : Ex → St → Prop} (h : Q .ret s) : SC P m .ret s Q := fun gX gQ w0 H0 ro μ w a Z hr hQ => wp_ret (hQ .ret s a w h ⟨ro, μ, hr⟩)
theorem SC.exit {i : Nat} {s : St} {Q : Ex → St → Prop} (h : Q (.exit i) s) : SC P m (.exit i) s Q := fun gX gQ w0 H0 ro μ w a Z hr hQ => wp_exit (hQ (.exit i) s a w h ⟨ro, μ, hr⟩)
theorem SC.block {i : Nat} {a : Code} {s : St} {Q : Ex → St → Prop} (h : SC P m a s (fun e s1 => match e with | .exit j => if j = i then Q .normal s1 else Q (.exit j) s1 | e => Q e s1)) : SC P m (.block i a) s Q := by
 intro gX gQ w0 H0 ro μ w act Z hr hQ
 refine wp_block ?_
 refine h gX gQ w0 H0 ro μ w act _ hr fun e s' a' w' h1 h2 => ?_
 cases e with
 | normal => exact hQ .normal s' a' w' h1 h2
 | ret => exact hQ .ret s' a' w' h1 h2
 | exit j =>
  simp only at h1
  simp only [Ex.exit', Exit.inBlock]
  split at h1
  ·rename_i e; rw [if_pos e]; exact hQ .normal s' a' w' h1 h2
  ·rename_i e; rw [if_neg e]; exact hQ (.exit j) s' a' w' h1 h2
theorem SC.loop {c : Code} {s : St} {Q : Ex → St → Prop} (h : SI P m c s Q) : SC P m (.loop c) s Q := fun gX gQ w0 H0 ro μ w a Z hr hQ => Od (h gX gQ w0 H0 ro μ w a Z hr hQ)
theorem SI.round {c : Code} {s s1 : St} {Q : Ex → St → Prop} (hk : Wk m s s1) (h : SC P m c s1 (fun e s' => match e with | .normal => SI P m c s' Q | e => Q e s')) : SI P m c s Q := by
 intro gX gQ w0 H0 ro μ w a Z hr hQ
 obtain ⟨tu, NV, hr1⟩ := hk gX gQ w0 H0 ro μ w a hr
 refine Oe (h gX gQ w0 H0 tu NV w a _ hr1 fun e s' a' w' h1 h2 => ?_)
 cases e with
 | normal =>
  obtain ⟨ro', μ', hr'⟩ := h2
  exact h1 gX gQ w0 H0 ro' μ' w' a' Z hr' hQ
 | ret => exact hQ .ret s' a' w' h1 h2
 | exit i => exact hQ (.exit i) s' a' w' h1 h2
theorem SC.afq {Y : Type} (S : Y → St) (J : Nat → Y → Prop) {c : Code} {s : St} {Q : Ex → St → Prop} (n : Nat) (y : Y) (h0 : Wk m s (S y)) (h1 : J n y)
  (k : ∀ n y, J n y → SC P m c (S y) (fun e s' => match e with | .normal => ∃ y' n', n' < n ∧ Wk m s' (S y') ∧ J n' y' | e => Q e s')) : SC P m (.loop c) s Q := by
 refine SC.loop ?_
 have key : ∀ n y s, Wk m s (S y) → J n y → SI P m c s Q := by
  intro n
  induction n using Nat.strongRecOn with
  | ind n ih =>
   intro y s hw hj
   refine SI.round hw ((k n y hj).mono fun e s' h2 => ?_)
   cases e with
   | normal => obtain ⟨y', n', h3, h4, h5⟩ := h2; exact ih n' h3 y' s' h4 h5
   | ret => exact h2
   | exit i => exact h2
 exact key n y s h0 h1
def Fin (P : Program) (fn : Func) (r : AV) (σ' : List Ob) (e : Ex) (s : St) : Prop := (e = .normal ∨ e = .ret) ∧ ∃ rs, iP P s fn.results.toList = some rs ∧ Ju rs = r ∧ s.σ = σ'
theorem aL.of {f : FuncId} {args : List AV} {σ σ' : List Ob} {r : AV} {fn : Func} {c : Code} (hfn : P.funcs[f]? = some fn) (hbody : fn.body = some c)
  (h : SC P σ.length c ⟨args ++ List.replicate (fn.ntmps - args.length) (.tuple []), σ⟩ (Fin P fn r σ')) : aL P f args σ r σ' := by
 intro ro μ w cargs g hdom ha
 let a0 : Act := { tmps := cargs ++ Array.replicate (fn.ntmps - cargs.size) undef, defers := [] }
 have hrel : Rel σ.length ro μ w (hp σ) ro μ w ⟨args ++ List.replicate (fn.ntmps - args.length) (.tuple []), σ⟩ a0 := by
  refine ⟨g, ?_, hdom, rfl, (Ext.refl _ _ _ _).WA, fun _ _ => rfl, Nat.le_refl _⟩
  have e : fn.ntmps - args.length = fn.ntmps - cargs.size := by rw [ha.size]
  refine kU ha ⟨by simp [e], fun i x v hx hv => ?_⟩
  rw [List.getElem?_replicate] at hx
  rw [Array.getElem?_replicate] at hv
  split at hx
  ·split at hv
   ·simp only [Option.some.injEq] at hx hv
    subst hx; subst hv
    exact .tuple [] #[] rfl (fun i x v hx => by simp at hx)
   ·cases hv
  ·cases hx
 have fin : ∀ s', (∃ rs, iP P s' fn.results.toList = some rs ∧ Ju rs = r ∧ s'.σ = σ') → ∀ a' w', Ends σ.length ro μ w (hp σ) s' a' w' →
   a'.defers = [] ∧ ∃ v, (results fn a'.tmps).run P w' = .ok v w' ∧ (∃ u ro' μ', Ending.returned v = .returned u ∧ VR ro' μ' r u ∧ Good ro' μ' w' (hp σ') ∧ zK ro μ w (hp σ) ro' μ' w' (hp σ') ∧ (∀ id L, μ' id = some L → id < σ'.length) ∧ (∀ id, id < σ.length → μ' id = μ id)) := by
  rintro s' ⟨rs, h1, rfl, rfl⟩ a' w' ⟨ro', μ', hr⟩
  refine ⟨hr.defers, ?_⟩
  obtain ⟨v, k1, k2⟩ := Mi hr.good hr.env h1
  exact ⟨v, k1, v, ro', μ', rfl, k2, hr.good, hr.ext, hr.dom, hr.keep⟩
 refine calls_of_wp hfn hbody ?_
 refine h ro μ w (hp σ) ro μ w a0 _ hrel fun e s' a' w' hq he => ?_
 obtain ⟨he1, hf⟩ := hq
 rcases he1 with rfl | rfl
 ·exact fin s' hf a' w' he
 ·exact fin s' hf a' w' he
end
end Lv
