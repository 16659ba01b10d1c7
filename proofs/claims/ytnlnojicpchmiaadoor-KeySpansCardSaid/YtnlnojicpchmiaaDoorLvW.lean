/- Walking code forwards. -/
import Derived.Test.YtnlnojicpchmiaaDoorLvRuns
namespace Lv
open Go
set_option linter.unusedVariables false
set_option linter.unusedSimpArgs false

section
variable (P : Program) (pm : Prims) (K : FuncId → Keep)

/-- A function yields something of which Q holds. -/
def EvTo (f : FuncId) (args : List AV) (σ : List Ob) (Q : AV → List Ob → Prop) : Prop := ∃ r σ', Ev P pm K f args σ r σ' ∧ Q r σ'
def WC (f : FuncId) (m : Nat) (c : Code) (s : St) (Q : Ex → St → Prop) : Prop := ∃ e s', Runs P pm K f m c s e s' ∧ Q e s'
def WO (ops : Array Oper) (l : List Oper) (s : St) (Q : St → Prop) : Prop := ∃ s', RunsOps P pm K ops l s s' ∧ Q s'
/-- t: what the operations so far have touched, the last first. -/
def WT (ops : Array Oper) (l : List Oper) (s : St) (t : List (List Nat × Bool)) (Q : St → List (List Nat × Bool) → Prop) : Prop := ∃ s' t', RunsOpsT P pm K ops l s s' t' ∧ Q s' (t.reverse ++ t')
/-- From a loop's head. -/
def WI (f : FuncId) (m : Nat) (c : Code) (s : St) (Q : Ex → St → Prop) : Prop := ∃ e s', RunsIter P pm K f m c s e s' ∧ Q e s'
end

def thenW (k : St → Prop) (Q : Ex → St → Prop) : Ex → St → Prop
  | .normal, s => k s
  | e, s => Q e s

def blockW (i : Nat) (Q : Ex → St → Prop) : Ex → St → Prop
  | .exit j, s => if j = i then Q .normal s else Q (.exit j) s
  | e, s => Q e s

def endW (P : Program) (fn : Func) (m : Nat) (Q : AV → List Ob → Prop) : Ex → St → Prop
  | .exit _, _ => False
  | _, s => ∃ r σ', finishF P fn m s = some (r, σ') ∧ Q r σ'

section
variable {P : Program} {pm : Prims} {K : FuncId → Keep} {f : FuncId} {m : Nat} {ops : Array Oper} {o : Oper} {l : List Oper} {env : List AV} {σ σ' : List Ob} {x : AV}

theorem EvTo.mono {args : List AV} {Q Q' : AV → List Ob → Prop} (h : EvTo P pm K f args σ Q) (hq : ∀ r σ', Q r σ' → Q' r σ') : EvTo P pm K f args σ Q' := let ⟨r, σ', h1, h2⟩ := h; ⟨r, σ', h1, hq _ _ h2⟩
theorem WC.mono {c : Code} {s : St} {Q Q' : Ex → St → Prop} (h : WC P pm K f m c s Q) (hq : ∀ e s, Q e s → Q' e s) : WC P pm K f m c s Q' := let ⟨r, σ', h1, h2⟩ := h; ⟨r, σ', h1, hq _ _ h2⟩
theorem WI.mono {c : Code} {s : St} {Q Q' : Ex → St → Prop} (h : WI P pm K f m c s Q) (hq : ∀ e s, Q e s → Q' e s) : WI P pm K f m c s Q' := let ⟨r, σ', h1, h2⟩ := h; ⟨r, σ', h1, hq _ _ h2⟩

theorem EvTo.enter {args : List AV} {Q : AV → List Ob → Prop} {fn : Func} {c : Code} (hp : pm f = none) (hf : P.funcs[f]? = some fn) (hb : fn.body = some c)
    (h : WC P pm K f σ.length c ⟨args ++ List.replicate (fn.ntmps - args.length) (.tuple []), σ⟩ (endW P fn σ.length Q)) : EvTo P pm K f args σ Q := by
  obtain ⟨e, s, h1, h2⟩ := h
  cases e with
  | normal => obtain ⟨r, σ', h3, h4⟩ := h2; exact ⟨r, σ', Ev.of hp hf hb (.inr rfl) h1 h3, h4⟩
  | ret => obtain ⟨r, σ', h3, h4⟩ := h2; exact ⟨r, σ', Ev.of hp hf hb (.inl rfl) h1 h3, h4⟩
  | exit i => exact h2.elim

theorem EvTo.prim {args : List AV} {Q : AV → List Ob → Prop} {g : List AV → Option AV} {r : AV} (hp : pm f = some g) (h : g args = some r) (hq : Q r σ) : EvTo P pm K f args σ Q := ⟨r, σ, Ev.prim hp h, hq⟩

theorem WO.nil {s : St} {Q : St → Prop} (h : Q s) : WO P pm K ops [] s Q := ⟨s, RunsOps.nil, h⟩
theorem WO.step {Q : St → Prop} (hw : wants ops env o = some true) (ha : ∀ call, aop P call env σ o = some (x, σ')) (h : WO P pm K ops l ⟨putA env o.dst x, σ'⟩ Q) : WO P pm K ops (o :: l) ⟨env, σ⟩ Q :=
  let ⟨s', h1, h2⟩ := h; ⟨s', RunsOps.step hw (Op1.any ha) h1, h2⟩
theorem WO.skip {Q : St → Prop} (hw : wants ops env o = some false) (h : WO P pm K ops l ⟨putA env o.dst (.tuple []), σ⟩ Q) : WO P pm K ops (o :: l) ⟨env, σ⟩ Q :=
  let ⟨s', h1, h2⟩ := h; ⟨s', RunsOps.skip hw h1, h2⟩
/-- A test: its outcome gets a letter. -/
theorem WO.test {Q : St → Prop} {b : Bool} (hw : wants ops env o = some true) (ha : ∀ call, aop P call env σ o = some (.d (.bool b), σ)) (h : ∀ c, b = c → WO P pm K ops l ⟨putA env o.dst (.d (.bool c)), σ⟩ Q) : WO P pm K ops (o :: l) ⟨env, σ⟩ Q :=
  WO.step hw ha (h b rfl)
theorem WO.op1 {Q : St → Prop} (hw : wants ops env o = some true) (ha : Op1 P pm K env σ o x σ') (h : WO P pm K ops l ⟨putA env o.dst x, σ'⟩ Q) : WO P pm K ops (o :: l) ⟨env, σ⟩ Q :=
  let ⟨s', h1, h2⟩ := h; ⟨s', RunsOps.step hw ha h1, h2⟩

/-- A call. -/
theorem WO.call {Q : St → Prop} {c : Call} {fo : Operand} {g : FuncId} {args first caps args' : List AV} {ι : List Nat} {σc : List Ob} (hw : wants ops env o = some true) (ho : o.op = .call c) (hargs : opds env c.args.toList = some args) (hcal : c.callee = .value fo)
    (hfo : opd env fo = some (.fn (.func g) first caps)) (hcb : callable P g = true) (hcan : canon σ (idsL (first ++ args ++ caps)) = some (ι, σc)) (hre : reL (numberIn ι) (first ++ args ++ caps) = some args')
    {R : AV → List Ob → Prop} (hev : EvTo P pm K g args' σc R)
    (h : ∀ r' σ2, R r' σ2 → ∃ r os, r'.re (backIn ι σ.length σ2.length) = some r ∧ obsRe (backIn ι σ.length σ2.length) σ2 = some os ∧ ι.length ≤ os.length ∧ WO P pm K ops l ⟨putA env o.dst r, setAll σ ι (os.take ι.length) ++ os.drop ι.length⟩ Q) :
    WO P pm K ops (o :: l) ⟨env, σ⟩ Q := by
  obtain ⟨r', σ2, h1, h2⟩ := hev
  obtain ⟨r, os, h3, h4, h5, h6⟩ := h r' σ2 h2
  exact WO.op1 hw (Op1.call ho hargs hcal hfo hcb hcan hre h1 h3 h4 h5 rfl) h6

theorem WT.nil {s : St} {t : List (List Nat × Bool)} {Q : St → List (List Nat × Bool) → Prop} (h : Q s t.reverse) : WT P pm K ops [] s t Q := ⟨s, [], RunsOpsT.nil, by simpa using h⟩
theorem WT.step {t : List (List Nat × Bool)} {Q : St → List (List Nat × Bool) → Prop} (hw : wants ops env o = some true) (ha : ∀ call, aop P call env σ o = some (x, σ')) (h : WT P pm K ops l ⟨putA env o.dst x, σ'⟩ (marked env σ σ' o :: t) Q) : WT P pm K ops (o :: l) ⟨env, σ⟩ t Q := by
  obtain ⟨s', t', h1, h2⟩ := h
  exact ⟨s', _, RunsOpsT.step hw (Op1.any ha) h1, by simpa using h2⟩
theorem WT.skip {t : List (List Nat × Bool)} {Q : St → List (List Nat × Bool) → Prop} (hw : wants ops env o = some false) (h : WT P pm K ops l ⟨putA env o.dst (.tuple []), σ⟩ (([], false) :: t) Q) : WT P pm K ops (o :: l) ⟨env, σ⟩ t Q := by
  obtain ⟨s', t', h1, h2⟩ := h
  exact ⟨s', _, RunsOpsT.skip hw h1, by simpa using h2⟩
theorem WT.test {t : List (List Nat × Bool)} {Q : St → List (List Nat × Bool) → Prop} {b : Bool} (hw : wants ops env o = some true) (ha : ∀ call, aop P call env σ o = some (.d (.bool b), σ)) (h : ∀ c, b = c → WT P pm K ops l ⟨putA env o.dst (.d (.bool c)), σ⟩ (marked env σ σ o :: t) Q) : WT P pm K ops (o :: l) ⟨env, σ⟩ t Q :=
  WT.step hw ha (h b rfl)
theorem WT.op1 {t : List (List Nat × Bool)} {Q : St → List (List Nat × Bool) → Prop} (hw : wants ops env o = some true) (ha : Op1 P pm K env σ o x σ') (h : WT P pm K ops l ⟨putA env o.dst x, σ'⟩ (marked env σ σ' o :: t) Q) : WT P pm K ops (o :: l) ⟨env, σ⟩ t Q := by
  obtain ⟨s', t', h1, h2⟩ := h
  exact ⟨s', _, RunsOpsT.step hw ha h1, by simpa using h2⟩
theorem WT.call {t : List (List Nat × Bool)} {Q : St → List (List Nat × Bool) → Prop} {c : Call} {fo : Operand} {g : FuncId} {args first caps args' : List AV} {ι : List Nat} {σc : List Ob} (hw : wants ops env o = some true) (ho : o.op = .call c) (hargs : opds env c.args.toList = some args) (hcal : c.callee = .value fo)
    (hfo : opd env fo = some (.fn (.func g) first caps)) (hcb : callable P g = true) (hcan : canon σ (idsL (first ++ args ++ caps)) = some (ι, σc)) (hre : reL (numberIn ι) (first ++ args ++ caps) = some args')
    {R : AV → List Ob → Prop} (hev : EvTo P pm K g args' σc R)
    (h : ∀ r' σ2, R r' σ2 → ∃ r os, r'.re (backIn ι σ.length σ2.length) = some r ∧ obsRe (backIn ι σ.length σ2.length) σ2 = some os ∧ ι.length ≤ os.length ∧ WT P pm K ops l ⟨putA env o.dst r, setAll σ ι (os.take ι.length) ++ os.drop ι.length⟩ (marked env σ (setAll σ ι (os.take ι.length) ++ os.drop ι.length) o :: t) Q) :
    WT P pm K ops (o :: l) ⟨env, σ⟩ t Q := by
  obtain ⟨r', σ2, h1, h2⟩ := hev
  obtain ⟨r, os, h3, h4, h5, h6⟩ := h r' σ2 h2
  exact WT.op1 hw (Op1.call ho hargs hcal hfo hcb hcan hre h1 h3 h4 h5 rfl) h6

theorem WC.region {id : Nat} {s : St} {Q : Ex → St → Prop} (h : WO P pm K ops ops.toList s (Q .normal)) : WC P pm K f m (.region id ops false) s Q := let ⟨s', h1, h2⟩ := h; ⟨.normal, s', Runs.region h1, h2⟩
theorem WC.draws {id : Nat} {s : St} {Q : Ex → St → Prop} (hok : textOk P ops = true) (h : WT P pm K ops ops.toList s [] (fun s' t => unorderedOk ops t = true ∧ Q .normal s')) : WC P pm K f m (.region id ops true) s Q := by
  obtain ⟨s', t, h1, h2, h3⟩ := h
  refine ⟨.normal, s', Runs.draws h1 ?_, h3⟩
  rw [hok]
  simpa using h2
theorem WC.seq {a b : Code} {s : St} {Q : Ex → St → Prop} (h : WC P pm K f m a s (thenW (fun s1 => WC P pm K f m b s1 Q) Q)) : WC P pm K f m (.seq a b) s Q := by
  obtain ⟨e, s1, h1, h2⟩ := h
  cases e with
  | normal => obtain ⟨e', s', h3, h4⟩ := h2; exact ⟨e', s', Runs.seq h1 h3, h4⟩
  | ret => exact ⟨.ret, s1, Runs.seqRet h1, h2⟩
  | exit i => exact ⟨.exit i, s1, Runs.seqExit h1, h2⟩
theorem WC.condT {c : Operand} {a b : Code} {s : St} {Q : Ex → St → Prop} (hc : opd s.env c = some (.d (.bool true))) (h : WC P pm K f m a s Q) : WC P pm K f m (.cond c a b) s Q := let ⟨e, s', h1, h2⟩ := h; ⟨e, s', Runs.condT hc h1, h2⟩
theorem WC.condF {c : Operand} {a b : Code} {s : St} {Q : Ex → St → Prop} (hc : opd s.env c = some (.d (.bool false))) (h : WC P pm K f m b s Q) : WC P pm K f m (.cond c a b) s Q := let ⟨e, s', h1, h2⟩ := h; ⟨e, s', Runs.condF hc h1, h2⟩
theorem WC.skip {s : St} {Q : Ex → St → Prop} (h : Q .normal s) : WC P pm K f m .skip s Q := ⟨_, _, Runs.skip, h⟩
theorem WC.label {i : Nat} {s : St} {Q : Ex → St → Prop} (h : Q .normal s) : WC P pm K f m (.label i) s Q := ⟨_, _, Runs.label, h⟩
theorem WC.ret {s : St} {Q : Ex → St → Prop} (h : Q .ret s) : WC P pm K f m .ret s Q := ⟨_, _, Runs.ret, h⟩
theorem WC.exit {i : Nat} {s : St} {Q : Ex → St → Prop} (h : Q (.exit i) s) : WC P pm K f m (.exit i) s Q := ⟨_, _, Runs.exit, h⟩
theorem WC.block {i : Nat} {a : Code} {s : St} {Q : Ex → St → Prop} (h : WC P pm K f m a s (blockW i Q)) : WC P pm K f m (.block i a) s Q := by
  obtain ⟨e, s1, h1, h2⟩ := h
  cases e with
  | normal => exact ⟨.normal, s1, Runs.blockN h1, h2⟩
  | ret => exact ⟨.ret, s1, Runs.blockRet h1, h2⟩
  | exit j =>
    simp only [blockW] at h2
    split at h2
    · rename_i e; subst e; exact ⟨.normal, s1, Runs.blockExit h1, h2⟩
    · rename_i e; exact ⟨.exit j, s1, Runs.blockOut e h1, h2⟩
theorem WC.loop {a : Code} {s : St} {Q : Ex → St → Prop} (h : WI P pm K f m a s Q) : WC P pm K f m (.loop a) s Q := let ⟨e, s', h1, h2⟩ := h; ⟨e, s', Runs.loop h1, h2⟩
/-- One round. -/
theorem WI.round {a : Code} {s s0 : St} {Q : Ex → St → Prop} (hh : atHead m ((firstRegion a).bind (K f)) s = some s0) (h : WC P pm K f m a s0 (thenW (fun s1 => WI P pm K f m a s1 Q) Q)) : WI P pm K f m a s Q := by
  obtain ⟨e, s1, h1, h2⟩ := h
  cases e with
  | normal => obtain ⟨e', s', h3, h4⟩ := h2; exact ⟨e', s', RunsIter.round hh h1 h3, h4⟩
  | ret => exact ⟨.ret, s1, RunsIter.out hh (by simp) h1, h2⟩
  | exit i => exact ⟨.exit i, s1, RunsIter.out hh (by simp) h1, h2⟩
end

/-- One operation, wanted or not. -/
def stepO (P : Program) (call : Callee) (ops : Array Oper) (s : St) (o : Oper) : Option St :=
  match wants ops s.env o with
  | some true => match aop P call s.env s.σ o with
    | some (v, σ') => some ⟨putA s.env o.dst v, σ'⟩
    | none => none
  | some false => some ⟨putA s.env o.dst (.tuple []), s.σ⟩
  | none => none

section
variable {P : Program} {pm : Prims} {K : FuncId → Keep} {f : FuncId} {m : Nat} {ops : Array Oper} {o : Oper} {l : List Oper}

theorem WO.one {s s1 : St} {Q : St → Prop} (h : ∀ call, stepO P call ops s o = some s1) (k : WO P pm K ops l s1 Q) : WO P pm K ops (o :: l) s Q := by
  have h0 := h (fun _ _ _ => none)
  unfold stepO at h0
  cases hw : wants ops s.env o with
  | none => rw [hw] at h0; cases h0
  | some b =>
    cases b with
    | true =>
      rw [hw] at h0
      cases ha : aop P (fun _ _ _ => none) s.env s.σ o with
      | none => rw [ha] at h0; cases h0
      | some p =>
        obtain ⟨v, σ'⟩ := p
        rw [ha] at h0
        simp only [Option.some.injEq] at h0
        subst h0
        exact WO.op1 hw ⟨0, ha⟩ k
    | false =>
      rw [hw] at h0
      simp only [Option.some.injEq] at h0
      subst h0
      exact WO.skip hw k
end
attribute [irreducible] WO WC WT WI
end Lv
