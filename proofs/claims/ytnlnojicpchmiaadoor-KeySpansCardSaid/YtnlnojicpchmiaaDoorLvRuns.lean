/- Runs without a count of rounds. -/
import Derived.Test.YtnlnojicpchmiaaDoorLvEval
namespace Lv
open Go
set_option linter.unusedVariables false
set_option linter.unusedSimpArgs false

def CLe (c d : Callee) : Prop := ∀ f a σ r, c f a σ = some r → d f a σ = some r

theorem callIn_mono {c d : Callee} (h : CLe c d) {f : FuncId} {a : List AV} {σ : List Ob} {r : AV × List Ob} (hr : callIn c f a σ = some r) : callIn d f a σ = some r := by
  unfold callIn at hr ⊢
  split at hr
  · split at hr
    · rename_i ι σc h1 args' h2
      split at hr
      · rename_i r' σ' h3
        rw [h _ _ _ _ h3]
        simpa using hr
      · cases hr
    · cases hr
  · cases hr

theorem acall_mono {P : Program} {c d : Callee} (h : CLe c d) {σ : List Ob} {cl : Call} {args : List AV} {fv : Option AV} {r : AV × List Ob} (hr : acall P c σ cl args fv = some r) : acall P d σ cl args fv = some r := by
  unfold acall at hr ⊢
  split at hr
  · exact hr
  · exact hr
  · exact hr
  · split at hr
    · split at hr
      · rename_i hcb
        simp only [hcb, if_true]
        exact callIn_mono h hr
      · rename_i hcb
        simp only [hcb]
        exact hr
    · cases hr
  · exact hr
  · exact hr
  · cases hr

theorem aop_mono {P : Program} {c d : Callee} (h : CLe c d) {env : List AV} {σ : List Ob} {o : Oper} {r : AV × List Ob} (hr : aop P c env σ o = some r) : aop P d env σ o = some r := by
  unfold aop at hr ⊢
  split at hr <;> try exact hr
  split at hr
  · split at hr
    · exact acall_mono h hr
    · exact acall_mono h hr
  · cases hr

theorem runOps_mono {P : Program} {c d : Callee} (h : CLe c d) {ops : Array Oper} : ∀ {l : List Oper} {s r : St}, runOps P c ops l s = some r → runOps P d ops l s = some r
  | [], s, r, hr => hr
  | o :: l, s, r, hr => by
    simp only [runOps] at hr ⊢
    split at hr
    · split at hr
      · rename_i v σ' ha
        rw [aop_mono h ha]
        exact runOps_mono h hr
      · cases hr
    · exact runOps_mono h hr
    · cases hr

theorem runOpsT_mono {P : Program} {c d : Callee} (h : CLe c d) {ops : Array Oper} : ∀ {l : List Oper} {s : St} {r : St × List (List Nat × Bool)}, runOpsT P c ops l s = some r → runOpsT P d ops l s = some r
  | [], s, r, hr => hr
  | o :: l, s, r, hr => by
    simp only [runOpsT] at hr ⊢
    split at hr
    · split at hr
      · rename_i v σ' ha
        rw [aop_mono h ha]
        simp only
        split at hr
        · rename_i s' l' hq
          rw [runOpsT_mono h hq]
          exact hr
        · cases hr
      · cases hr
    · split at hr
      · rename_i s' l' hq
        rw [runOpsT_mono h hq]
        exact hr
      · cases hr
    · cases hr

theorem runRegion_mono {P : Program} {c d : Callee} (h : CLe c d) {ops : Array Oper} {draw : Bool} {s r : St} (hr : runRegion P c ops draw s = some r) : runRegion P d ops draw s = some r := by
  unfold runRegion at hr ⊢
  cases draw with
  | true =>
    simp only [if_true] at hr ⊢
    split at hr
    · rename_i s' l hq
      rw [runOpsT_mono h hq]
      exact hr
    · cases hr
  | false => exact runOps_mono h hr

theorem iter_mono {head : St → Option St} {f g : St → Option (Ex × St)} (h : ∀ s r, f s = some r → g s = some r) : ∀ {n n' : Nat} {s : St} {r : Ex × St}, n ≤ n' → iter head f n s = some r → iter head g n' s = some r
  | 0, n', s, r, _, hr => by simp [iter] at hr
  | n + 1, 0, s, r, hn, _ => by omega
  | n + 1, n' + 1, s, r, hn, hr => by
    simp only [iter] at hr ⊢
    split at hr
    · rename_i s0 hs
      cases hf : f s0 with
      | none => rw [hf] at hr; cases hr
      | some p =>
        obtain ⟨e, s'⟩ := p
        rw [hf] at hr
        rw [h _ _ hf]
        cases e with
        | normal => exact iter_mono h (by omega) hr
        | ret => exact hr
        | exit id => exact hr
    · cases hr

theorem runC_mono {P : Program} {c d : Callee} (h : CLe c d) {K : Keep} {m n n' : Nat} (hn : n ≤ n') : ∀ {x : Code} {s : St} {r : Ex × St}, runC P c K m n x s = some r → runC P d K m n' x s = some r := by
  intro x
  induction x with
  | region id ops draw =>
    intro s r hr
    simp only [runC] at hr ⊢
    split at hr
    · rename_i s' hs
      rw [runRegion_mono h hs]; exact hr
    · cases hr
  | seq a b iha ihb =>
    intro s r hr
    simp only [runC] at hr ⊢
    cases hx : runC P c K m n a s with
    | none => rw [hx] at hr; cases hr
    | some p =>
      obtain ⟨e, s'⟩ := p
      rw [hx] at hr
      rw [iha hx]
      cases e with
      | normal => exact ihb hr
      | ret => exact hr
      | exit id => exact hr
  | cond o a b iha ihb =>
    intro s r hr
    simp only [runC] at hr ⊢
    split at hr
    · split at hr
      · rename_i ht; simp only [ht, if_true]; exact iha hr
      · rename_i ht; simp only [ht]; exact ihb hr
    · cases hr
  | block id a ih =>
    intro s r hr
    simp only [runC] at hr ⊢
    cases hx : runC P c K m n a s with
    | none => rw [hx] at hr; cases hr
    | some p => rw [hx] at hr; rw [ih hx]; exact hr
  | loop a ih =>
    intro s r hr
    simp only [runC] at hr ⊢
    exact iter_mono (fun s r h => ih h) hn hr
  | _ => intro s r hr; exact hr

theorem callF_mono1 {P : Program} {pm : Prims} {K : FuncId → Keep} : ∀ k, CLe (callF P pm K k) (callF P pm K (k + 1))
  | 0 => fun f a σ r h => by simp [callF] at h
  | k + 1 => by
    intro f a σ r h
    simp only [callF] at h
    show callBody P pm K (callF P pm K (k + 1)) (k + 1) f a σ = some r
    unfold callBody at h ⊢
    split at h
    · exact h
    · split at h
      · rename_i fn hfn
        split at h
        · rename_i c hc
          split at h
          · rename_i s hs
            rw [runC_mono (callF_mono1 k) (Nat.le_succ k) hs]; exact h
          · rename_i s hs
            rw [runC_mono (callF_mono1 k) (Nat.le_succ k) hs]; exact h
          · cases h
        · cases h
      · cases h

theorem callF_mono {P : Program} {pm : Prims} {K : FuncId → Keep} {k k' : Nat} (h : k ≤ k') : CLe (callF P pm K k) (callF P pm K k') := by
  induction h with
  | refl => exact fun f a σ r h => h
  | step _ ih => exact fun f a σ r h => callF_mono1 _ f a σ r (ih f a σ r h)

section
variable (P : Program) (pm : Prims) (K : FuncId → Keep)

/-- A function yields so much. -/
def Ev (f : FuncId) (args : List AV) (σ : List Ob) (r : AV) (σ' : List Ob) : Prop := ∃ k, callF P pm K k f args σ = some (r, σ')
/-- A piece of a function's code leads from a state to another. -/
def Runs (f : FuncId) (m : Nat) (c : Code) (s : St) (e : Ex) (s' : St) : Prop := ∃ k, runC P (callF P pm K k) (K f) m k c s = some (e, s')
def RunsOps (ops : Array Oper) (l : List Oper) (s s' : St) : Prop := ∃ k, runOps P (callF P pm K k) ops l s = some s'
def RunsOpsT (ops : Array Oper) (l : List Oper) (s s' : St) (t : List (List Nat × Bool)) : Prop := ∃ k, runOpsT P (callF P pm K k) ops l s = some (s', t)
/-- The rounds of a loop, from its head on. -/
def RunsIter (f : FuncId) (m : Nat) (c : Code) (s : St) (e : Ex) (s' : St) : Prop := ∃ k n, iter (atHead m ((firstRegion c).bind (K f))) (runC P (callF P pm K k) (K f) m k c) n s = some (e, s')
def Op1 (env : List AV) (σ : List Ob) (o : Oper) (x : AV) (σ' : List Ob) : Prop := ∃ k, aop P (callF P pm K k) env σ o = some (x, σ')
end

section
variable {P : Program} {pm : Prims} {K : FuncId → Keep} {f : FuncId} {m : Nat}

theorem Op1.any {env : List AV} {σ σ' : List Ob} {o : Oper} {x : AV} (h : ∀ call, aop P call env σ o = some (x, σ')) : Op1 P pm K env σ o x σ' := ⟨0, h _⟩

theorem RunsOps.nil {ops : Array Oper} {s : St} : RunsOps P pm K ops [] s s := ⟨0, rfl⟩

theorem RunsOps.step {ops : Array Oper} {o : Oper} {l : List Oper} {env : List AV} {σ σ' : List Ob} {x : AV} {s' : St} (hw : wants ops env o = some true) (ha : Op1 P pm K env σ o x σ') (h : RunsOps P pm K ops l ⟨putA env o.dst x, σ'⟩ s') :
    RunsOps P pm K ops (o :: l) ⟨env, σ⟩ s' := by
  obtain ⟨k, hk⟩ := ha
  obtain ⟨j, hj⟩ := h
  refine ⟨max k j, ?_⟩
  simp only [runOps, hw]
  rw [aop_mono (callF_mono (Nat.le_max_left k j)) hk]
  exact runOps_mono (callF_mono (Nat.le_max_right k j)) hj

theorem RunsOps.skip {ops : Array Oper} {o : Oper} {l : List Oper} {env : List AV} {σ : List Ob} {s' : St} (hw : wants ops env o = some false) (h : RunsOps P pm K ops l ⟨putA env o.dst (.tuple []), σ⟩ s') :
    RunsOps P pm K ops (o :: l) ⟨env, σ⟩ s' := by
  obtain ⟨j, hj⟩ := h
  refine ⟨j, ?_⟩
  simp only [runOps, hw]
  exact hj

theorem RunsOpsT.nil {ops : Array Oper} {s : St} : RunsOpsT P pm K ops [] s s [] := ⟨0, rfl⟩

theorem RunsOpsT.step {ops : Array Oper} {o : Oper} {l : List Oper} {env : List AV} {σ σ' : List Ob} {x : AV} {s' : St} {t : List (List Nat × Bool)} (hw : wants ops env o = some true) (ha : Op1 P pm K env σ o x σ') (h : RunsOpsT P pm K ops l ⟨putA env o.dst x, σ'⟩ s' t) :
    RunsOpsT P pm K ops (o :: l) ⟨env, σ⟩ s' (marked env σ σ' o :: t) := by
  obtain ⟨k, hk⟩ := ha
  obtain ⟨j, hj⟩ := h
  refine ⟨max k j, ?_⟩
  simp only [runOpsT, hw]
  rw [aop_mono (callF_mono (Nat.le_max_left k j)) hk]
  simp only
  rw [runOpsT_mono (callF_mono (Nat.le_max_right k j)) hj]

theorem RunsOpsT.skip {ops : Array Oper} {o : Oper} {l : List Oper} {env : List AV} {σ : List Ob} {s' : St} {t : List (List Nat × Bool)} (hw : wants ops env o = some false) (h : RunsOpsT P pm K ops l ⟨putA env o.dst (.tuple []), σ⟩ s' t) :
    RunsOpsT P pm K ops (o :: l) ⟨env, σ⟩ s' (([], false) :: t) := by
  obtain ⟨j, hj⟩ := h
  refine ⟨j, ?_⟩
  simp only [runOpsT, hw]
  rw [hj]

theorem Runs.region {id : Nat} {ops : Array Oper} {s s' : St} (h : RunsOps P pm K ops ops.toList s s') : Runs P pm K f m (.region id ops false) s .normal s' := by
  obtain ⟨k, hk⟩ := h
  exact ⟨k, by simp only [runC, runRegion, Bool.false_eq_true, if_false, hk]⟩

theorem Runs.draws {id : Nat} {ops : Array Oper} {s s' : St} {t : List (List Nat × Bool)} (h : RunsOpsT P pm K ops ops.toList s s' t) (hok : (unorderedOk ops t && textOk P ops) = true) :
    Runs P pm K f m (.region id ops true) s .normal s' := by
  obtain ⟨k, hk⟩ := h
  exact ⟨k, by simp only [runC, runRegion, if_true, hk, hok]⟩

theorem Runs.seq {a b : Code} {s s1 s' : St} {e : Ex} (h : Runs P pm K f m a s .normal s1) (h' : Runs P pm K f m b s1 e s') : Runs P pm K f m (.seq a b) s e s' := by
  obtain ⟨k, hk⟩ := h
  obtain ⟨j, hj⟩ := h'
  refine ⟨max k j, ?_⟩
  simp only [runC]
  rw [runC_mono (callF_mono (Nat.le_max_left k j)) (Nat.le_max_left k j) hk]
  exact runC_mono (callF_mono (Nat.le_max_right k j)) (Nat.le_max_right k j) hj

theorem Runs.seqRet {a b : Code} {s s' : St} (h : Runs P pm K f m a s .ret s') : Runs P pm K f m (.seq a b) s .ret s' := by
  obtain ⟨k, hk⟩ := h
  exact ⟨k, by simp only [runC, hk]⟩

theorem Runs.seqExit {a b : Code} {s s' : St} {i : Nat} (h : Runs P pm K f m a s (.exit i) s') : Runs P pm K f m (.seq a b) s (.exit i) s' := by
  obtain ⟨k, hk⟩ := h
  exact ⟨k, by simp only [runC, hk]⟩

theorem Runs.condT {c : Operand} {a b : Code} {s s' : St} {e : Ex} (hc : opd s.env c = some (.d (.bool true))) (h : Runs P pm K f m a s e s') : Runs P pm K f m (.cond c a b) s e s' := by
  obtain ⟨k, hk⟩ := h
  exact ⟨k, by simp only [runC, hc, if_true, hk]⟩

theorem Runs.condF {c : Operand} {a b : Code} {s s' : St} {e : Ex} (hc : opd s.env c = some (.d (.bool false))) (h : Runs P pm K f m b s e s') : Runs P pm K f m (.cond c a b) s e s' := by
  obtain ⟨k, hk⟩ := h
  exact ⟨k, by simp only [runC, hc, Bool.false_eq_true, if_false, hk]⟩

theorem Runs.skip {s : St} : Runs P pm K f m .skip s .normal s := ⟨0, rfl⟩
theorem Runs.label {l : Nat} {s : St} : Runs P pm K f m (.label l) s .normal s := ⟨0, rfl⟩
theorem Runs.ret {s : St} : Runs P pm K f m .ret s .ret s := ⟨0, rfl⟩
theorem Runs.exit {i : Nat} {s : St} : Runs P pm K f m (.exit i) s (.exit i) s := ⟨0, rfl⟩

theorem Runs.blockN {i : Nat} {a : Code} {s s' : St} (h : Runs P pm K f m a s .normal s') : Runs P pm K f m (.block i a) s .normal s' := by
  obtain ⟨k, hk⟩ := h
  exact ⟨k, by simp only [runC, hk]⟩

theorem Runs.blockRet {i : Nat} {a : Code} {s s' : St} (h : Runs P pm K f m a s .ret s') : Runs P pm K f m (.block i a) s .ret s' := by
  obtain ⟨k, hk⟩ := h
  exact ⟨k, by simp only [runC, hk]⟩

theorem Runs.blockExit {i : Nat} {a : Code} {s s' : St} (h : Runs P pm K f m a s (.exit i) s') : Runs P pm K f m (.block i a) s .normal s' := by
  obtain ⟨k, hk⟩ := h
  exact ⟨k, by simp only [runC, hk, if_true]⟩

theorem Runs.blockOut {i j : Nat} {a : Code} {s s' : St} (hne : j ≠ i) (h : Runs P pm K f m a s (.exit j) s') : Runs P pm K f m (.block i a) s (.exit j) s' := by
  obtain ⟨k, hk⟩ := h
  exact ⟨k, by simp only [runC, hk, hne, if_false]⟩

theorem Runs.loop {a : Code} {s s' : St} {e : Ex} (h : RunsIter P pm K f m a s e s') : Runs P pm K f m (.loop a) s e s' := by
  obtain ⟨k, n, hk⟩ := h
  refine ⟨max k n, ?_⟩
  simp only [runC]
  exact iter_mono (fun s r h => runC_mono (callF_mono (Nat.le_max_left k n)) (Nat.le_max_left k n) h) (Nat.le_max_right k n) hk

theorem RunsIter.round {a : Code} {s s0 s1 s' : St} {e : Ex} (hh : atHead m ((firstRegion a).bind (K f)) s = some s0) (h1 : Runs P pm K f m a s0 .normal s1) (h : RunsIter P pm K f m a s1 e s') : RunsIter P pm K f m a s e s' := by
  obtain ⟨k, hk⟩ := h1
  obtain ⟨j, n, hj⟩ := h
  refine ⟨max k j, n + 1, ?_⟩
  simp only [iter, hh]
  rw [runC_mono (callF_mono (Nat.le_max_left k j)) (Nat.le_max_left k j) hk]
  exact iter_mono (fun s r h => runC_mono (callF_mono (Nat.le_max_right k j)) (Nat.le_max_right k j) h) (Nat.le_refl n) hj

theorem RunsIter.out {a : Code} {s s0 s' : St} {e : Ex} (hh : atHead m ((firstRegion a).bind (K f)) s = some s0) (hne : e ≠ .normal) (h1 : Runs P pm K f m a s0 e s') : RunsIter P pm K f m a s e s' := by
  obtain ⟨k, hk⟩ := h1
  refine ⟨k, 1, ?_⟩
  simp only [iter, hh, hk]
  cases e with
  | normal => exact absurd rfl hne
  | ret => rfl
  | exit i => rfl

theorem Ev.of {args : List AV} {σ σ' : List Ob} {r : AV} {fn : Func} {c : Code} {s : St} (hp : pm f = none) (hf : P.funcs[f]? = some fn) (hb : fn.body = some c) {e : Ex} (he : e = .ret ∨ e = .normal)
    (h : Runs P pm K f σ.length c ⟨args ++ List.replicate (fn.ntmps - args.length) (.tuple []), σ⟩ e s) (hfin : finishF P fn σ.length s = some (r, σ')) : Ev P pm K f args σ r σ' := by
  obtain ⟨k, hk⟩ := h
  refine ⟨k + 1, ?_⟩
  simp only [callF, callBody, hp, hf, hb, hk]
  rcases he with rfl | rfl
  · exact hfin
  · exact hfin

theorem Ev.prim {args : List AV} {σ : List Ob} {r : AV} {g : List AV → Option AV} (hp : pm f = some g) (h : g args = some r) : Ev P pm K f args σ r σ := ⟨1, by simp only [callF, callBody, hp, h]⟩

/-- A call of a function. -/
theorem Op1.call {env : List AV} {σ σc σ' σ2 : List Ob} {o : Oper} {c : Call} {fo : Operand} {g : FuncId} {args first caps args' : List AV} {ι : List Nat} {r r' : AV} {os : List Ob} (ho : o.op = .call c) (hargs : opds env c.args.toList = some args) (hcal : c.callee = .value fo)
    (hfo : opd env fo = some (.fn (.func g) first caps)) (hcb : callable P g = true) (hcan : canon σ (idsL (first ++ args ++ caps)) = some (ι, σc)) (hre : reL (numberIn ι) (first ++ args ++ caps) = some args') (hev : Ev P pm K g args' σc r' σ2)
    (hb1 : r'.re (backIn ι σ.length σ2.length) = some r) (hb2 : obsRe (backIn ι σ.length σ2.length) σ2 = some os) (hl : ι.length ≤ os.length) (hσ : setAll σ ι (os.take ι.length) ++ os.drop ι.length = σ') : Op1 P pm K env σ o r σ' := by
  obtain ⟨k, hk⟩ := hev
  refine ⟨k, ?_⟩
  simp only [aop, ho, hargs, hcal, acall, hfo, hcb, if_true, callIn, hcan, hre, hk, hb1, hb2, hl, hσ]

end
end Lv
