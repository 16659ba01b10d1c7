/- Regions in their text's order, code, functions. -/
import Derived.Test.YtddopjhkmkoicaaDoorLvAop
import Derived.Orders
namespace Lv
open Go
set_option linter.unusedVariables false
set_option linter.unusedSimpArgs false
set_option linter.unusedSectionVars false
variable [BaseTab]

/-- How a state of the evaluator stands to the machine's, since the function began. -/
structure Rel (m : Nat) (ro0 : Ro) (μ0 : Mu) (w0 : World) (H0 : Hp) (ro : Ro) (μ : Mu) (w : World) (s : St) (a : Act) : Prop where
  good : Good ro μ w (hp s.σ)
  env : VRs ro μ s.env a.tmps
  dom : ∀ id L, μ id = some L → id < s.σ.length
  defers : a.defers = []
  ext : Ext0 ro0 μ0 w0 H0 ro μ w (hp s.σ)
  keep : ∀ id, id < m → μ id = μ0 id
  hm : m ≤ s.σ.length

/-- What a piece of code may go on with. -/
def Ends (m : Nat) (ro0 : Ro) (μ0 : Mu) (w0 : World) (H0 : Hp) (s : St) (a : Act) (w : World) : Prop := ∃ ro μ, Rel m ro0 μ0 w0 H0 ro μ w s a

theorem VRs_put {ro : Ro} {μ : Mu} {env : List AV} {a : Act} {x : AV} {v : Value} (h : VRs ro μ env a.tmps) (hv : VR ro μ x v) (dst : Option Tmp) : VRs ro μ (putA env dst x) (a.put dst v).tmps := by
  cases dst with
  | none => exact h
  | some d =>
    refine ⟨by simp [putA, Act.put, h.size], fun i y u hy hu => ?_⟩
    simp only [putA, List.getElem?_set] at hy
    simp only [Act.put, Array.getElem?_setIfInBounds] at hu
    split at hy
    · rename_i e
      subst e
      split at hy
      · rename_i hl
        rw [if_pos rfl] at hu
        have : d < a.tmps.size := by rw [h.size]; exact hl
        rw [if_pos this] at hu
        simp only [Option.some.injEq] at hy hu
        subst hy; subst hu
        exact hv
      · cases hy
    · rename_i e
      rw [if_neg e] at hu
      exact h.get i y u hy hu

theorem put_defers' (a : Act) (dst : Option Tmp) (v : Value) : (a.put dst v).defers = a.defers := by cases dst <;> rfl

theorem wants_sound {ro : Ro} {μ : Mu} {env : List AV} {a : Act} {ops : Array Oper} {o : Oper} {b : Bool} (h : VRs ro μ env a.tmps) (hw : wants ops env o = some b) : Region.wanted o (yielded ops a.tmps) = b := by
  unfold wants at hw
  unfold Region.wanted
  split at hw
  · rename_i hg
    simp only [Option.some.injEq] at hw
    rw [hg]; exact hw
  · rename_i j want hg
    rw [hg]
    simp only
    split at hw
    · rename_i t ht
      unfold yielded
      rw [ht]
      simp only [Option.bind_some]
      split at hw
      · rename_i c hc
        have hlt : t < a.tmps.size := by rw [h.size]; exact lt_of_get hc
        have := VR_val (h.get t _ _ hc (Array.getElem?_eq_getElem hlt)) rfl
        rw [Array.getElem?_eq_getElem hlt, this]
        simp only [Option.some.injEq] at hw
        subst hw
        cases c <;> cases want <;> rfl
      · rename_i hc
        have hlt : t < a.tmps.size := by rw [h.size]; exact lt_of_get hc
        obtain ⟨vs, e, _⟩ := VR_tuple (h.get t _ _ hc (Array.getElem?_eq_getElem hlt))
        rw [Array.getElem?_eq_getElem hlt, e]
        simp only [Option.some.injEq] at hw
        subst hw
        rfl
      · cases hw
    · cases hw

theorem Rel.op {m : Nat} {ro0 ro ro' : Ro} {μ0 μ μ' : Mu} {w0 w w' : World} {H0 : Hp} {s : St} {a : Act} {x : AV} {σ' : List Ob} {v : Value} (h : Rel m ro0 μ0 w0 H0 ro μ w s a) (hv : VR ro' μ' x v) (g : Good ro' μ' w' (hp σ')) (e : Ext ro μ w (hp s.σ) ro' μ' w' (hp σ'))
    (hid : ∀ id, μ' id ≠ μ id → s.σ.length ≤ id ∧ id < σ'.length) (hl : s.σ.length ≤ σ'.length) (dst : Option Tmp) : Rel m ro0 μ0 w0 H0 ro' μ' w' ⟨putA s.env dst x, σ'⟩ (a.put dst v) where
  good := g
  env := VRs_put (h.env.mono e.roUp e.muUp) hv dst
  dom id L hL := by
    by_cases q : μ' id = μ id
    · rw [q] at hL; exact Nat.lt_of_lt_of_le (h.dom id L hL) hl
    · exact (hid id q).2
  defers := by rw [put_defers']; exact h.defers
  ext := h.ext.trans e.to0
  keep id hi := by
    have q : μ' id = μ id := by
      by_cases q : μ' id = μ id
      · exact q
      · have := (hid id q).1; have := h.hm; omega
    rw [q]; exact h.keep id hi
  hm := Nat.le_trans h.hm hl

theorem Rel.skip {m : Nat} {ro0 ro : Ro} {μ0 μ : Mu} {w0 w : World} {H0 : Hp} {s : St} {a : Act} (h : Rel m ro0 μ0 w0 H0 ro μ w s a) (dst : Option Tmp) : Rel m ro0 μ0 w0 H0 ro μ w ⟨putA s.env dst (.tuple []), s.σ⟩ (a.put dst undef) :=
  h.op (.tuple [] #[] rfl (fun i x v hx => by simp at hx)) h.good (Ext.refl _ _ _ _) (fun id q => absurd rfl q) (Nat.le_refl _) dst

section
variable {P : Program} {call : Callee} (hc : CallOk P call) {m : Nat} {ro0 : Ro} {μ0 : Mu} {w0 : World} {H0 : Hp} {Q : Exit → Act → World → Prop}
include hc

theorem runOps_sound {ops : Array Oper} : ∀ (l : List Oper) (k : Nat) (s s' : St) (ro : Ro) (μ : Mu) (w : World) (a : Act), (∀ j, l[j]? = ops[k + j]?) → runOps P call ops l s = some s' → Rel m ro0 μ0 w0 H0 ro μ w s a →
    (∀ a' w', Ends m ro0 μ0 w0 H0 s' a' w' → Q .normal a' w') → wpOps P ops Q (List.range' k l.length) a w
  | [], k, s, s', ro, μ, w, a, _, h, hr, hQ => by
    simp only [runOps, Option.some.injEq] at h
    subst h
    exact hQ a w ⟨ro, μ, hr⟩
  | o :: l, k, s, s', ro, μ, w, a, hl, h, hr, hQ => by
    have h0 : ops[k]? = some o := by have := hl 0; simpa using this.symm
    have hl' : ∀ j, l[j]? = ops[k + 1 + j]? := fun j => by have := hl (j + 1); simp at this; rw [this]; congr 1; omega
    simp only [List.length_cons, List.range'_succ]
    rw [wpOps_cons]
    unfold wpOp
    simp only [h0]
    simp only [runOps] at h
    split at h
    · rename_i hw
      rw [wants_sound hr.env hw]
      simp only [if_true]
      split at h
      · rename_i x σ' hop
        refine .inl (aop_sound hc hop hr.good (fun id hid _ => ?_) hr.env ?_)
        · cases hm : μ id with
          | none => rfl
          | some L => have := hr.dom id L hm; omega
        · intro v ro' μ' w' k1 k2 k3 k4 k5
          exact runOps_sound l (k + 1) _ s' ro' μ' w' _ hl' h (hr.op k1 k2 k3 k4 k5 o.dst) hQ
      · cases h
    · rename_i hw
      rw [wants_sound hr.env hw]
      simp only [Bool.false_eq_true, if_false]
      exact runOps_sound l (k + 1) _ s' ro μ w _ hl' h (hr.skip o.dst) hQ
    · cases h

theorem runRegion_sound {ops : Array Oper} {id : Nat} {draw : Bool} {s s' : St} {ro : Ro} {μ : Mu} {w : World} {a : Act}
    (hdraw : ∀ s' l, draw = true → runOpsT P call ops ops.toList s = some (s', l) → (unorderedOk ops l && textOk P ops) = true → (∀ a' w', Ends m ro0 μ0 w0 H0 s' a' w' → Q .normal a' w') → (Code.region id ops true).wp P Q a w)
    (h : runRegion P call ops draw s = some s') (hr : Rel m ro0 μ0 w0 H0 ro μ w s a) (hQ : ∀ a' w', Ends m ro0 μ0 w0 H0 s' a' w' → Q .normal a' w') : (Code.region id ops draw).wp P Q a w := by
  unfold runRegion at h
  cases draw with
  | true =>
    simp only [if_true] at h
    split at h
    · rename_i s1 l hl
      split at h
      · rename_i hok
        simp only [Option.some.injEq] at h
        subst h
        exact hdraw _ _ rfl hl hok hQ
      · cases h
    · cases h
  | false =>
    simp only [Bool.false_eq_true, if_false] at h
    refine wp_region ?_
    rw [List.range_eq_range']
    have := runOps_sound hc (Q := Q) (ops := ops) ops.toList 0 s s' ro μ w a (fun j => by simp) h hr hQ
    simpa using this

end

theorem keepOnly_get (ks : List Nat) : ∀ (env : List AV) (i k : Nat) (x : AV), (keepOnly ks i env)[k]? = some x → x = .undef ∨ env[k]? = some x
  | [], i, k, x, h => by simp [keepOnly] at h
  | y :: env, i, k, x, h => by
    simp only [keepOnly] at h
    cases k with
    | zero =>
      simp only [List.getElem?_cons_zero, Option.some.injEq] at h
      split at h
      · exact .inr (by simp [h])
      · exact .inl h.symm
    | succ k => simpa using keepOnly_get ks env (i + 1) k x (by simpa using h)

theorem keepOnly_length (ks : List Nat) : ∀ (env : List AV) (i : Nat), (keepOnly ks i env).length = env.length
  | [], i => rfl
  | y :: env, i => by simp [keepOnly, keepOnly_length ks env]

theorem VRs_keepOnly {ro : Ro} {μ : Mu} {env : List AV} {vs : Array Value} (h : VRs ro μ env vs) (ks : List Nat) (i : Nat) : VRs ro μ (keepOnly ks i env) vs := by
  refine ⟨by rw [h.size, keepOnly_length], fun k x v hx hv => ?_⟩
  rcases keepOnly_get ks env i k x hx with rfl | hx
  · exact .undef v
  · exact h.get k x v hx hv

/-- Another numbering that leaves the first numbers. -/
theorem Rel.canon {m : Nat} {ro0 ro : Ro} {μ0 μ : Mu} {w0 w : World} {H0 : Hp} {s : St} {a : Act} {ι : List Nat} {roots : List Nat} {os : List Ob} {env' : List AV} (h : Rel m ro0 μ0 w0 H0 ro μ w s a) (hcan : Lv.canon s.σ roots = some (ι, os)) (ht : ι.take m = List.range m)
    (henv : VRs ro (muIn μ ι) env' a.tmps) : Rel m ro0 μ0 w0 H0 ro (muIn μ ι) w ⟨env', os⟩ a := by
  obtain ⟨hnd, hl, hsub, hK⟩ := canon_sound hcan
  have hm : m ≤ ι.length := by
    have := congrArg List.length ht
    simp at this
    omega
  refine ⟨h.good.re muIn_num hK, henv, fun id L hL => ?_, h.defers, h.ext.trans (Ext0.re muIn_num hK), fun id hi => ?_, by simp only; omega⟩
  · simp only [muIn] at hL
    split at hL
    · rename_i i hi; simp only; rw [hl]; exact lt_of_get hi
    · cases hL
  · have : ι[id]? = some id := by
      have e : (ι.take m)[id]? = some id := by rw [ht, List.getElem?_range hi]
      rw [List.getElem?_take, if_pos hi] at e
      exact e
    simp only [muIn, this]
    exact h.keep id hi

theorem atHead_sound {m : Nat} {ro0 ro : Ro} {μ0 μ : Mu} {w0 w : World} {H0 : Hp} {s s0 : St} {a : Act} {keep : Option (List Nat)} (h : Rel m ro0 μ0 w0 H0 ro μ w s a) (hh : atHead m keep s = some s0) : Ends m ro0 μ0 w0 H0 s0 a w := by
  unfold atHead at hh
  split at hh
  · simp only [Option.some.injEq] at hh
    subst hh
    exact ⟨ro, μ, h⟩
  · rename_i ks
    simp only at hh
    split at hh
    · rename_i ι os hcan
      split at hh
      · rename_i ht
        split at hh
        · rename_i env' henv
          simp only [Option.some.injEq] at hh
          subst hh
          exact ⟨ro, muIn μ ι, h.canon hcan ht (VRs_re muIn_num (VRs_keepOnly h.env ks 0) henv)⟩
        · cases hh
      · cases hh
    · cases hh

def Ex.exit' : Ex → Exit
  | .normal => .normal
  | .ret => .ret
  | .exit id => .exit id

/-- From a round's begin. -/
def wpIn (P : Program) (c : Code) (Q : Exit → Act → World → Prop) (a : Act) (w : World) : Prop :=
  ∀ (b : Frame) (k : List Item) (cs : List Frame), ∃ e a' w', Q e a' w' ∧ Arrives P (lone (b.at a (.code c :: .inLoop c :: k)) cs w) b k cs e a' w'

theorem wp_loop_in {P : Program} {c : Code} {Q : Exit → Act → World → Prop} {a : Act} {w : World} (h : wpIn P c Q a w) : (Code.loop c).wp P Q a w := by
  intro b k cs
  obtain ⟨e, a', w', hq, harr⟩ := h b k cs
  exact ⟨e, a', w', hq, .of_steps (.one step_loop) harr⟩

theorem wpIn_round {P : Program} {c : Code} {Q : Exit → Act → World → Prop} {a : Act} {w : World} (h : c.wp P (Exit.then (wpIn P c Q) Q) a w) : wpIn P c Q a w := by
  intro b k cs
  obtain ⟨e, a₁, w₁, hq, harr⟩ := h b (.inLoop c :: k) cs
  cases e with
  | normal =>
    obtain ⟨e₂, a₂, w₂, hq₂, harr₂⟩ := hq b k cs
    exact ⟨e₂, a₂, w₂, hq₂, .of_steps (Steps.trans harr (.one step_inLoop)) harr₂⟩
  | exit id => exact ⟨_, a₁, w₁, hq, .pass (x := .inLoop c) rfl (fun _ _ => .inl (by simp)) harr⟩
  | goto l => exact ⟨_, a₁, w₁, hq, .pass (x := .inLoop c) rfl (fun _ _ => .inl (by simp)) harr⟩
  | ret => exact ⟨_, a₁, w₁, hq, .pass (x := .inLoop c) rfl (fun _ _ => .inl (by simp)) harr⟩
  | panic ch => exact ⟨_, a₁, w₁, hq, .pass (x := .inLoop c) rfl (fun _ _ => .inl (by simp)) harr⟩
  | outgrown => exact ⟨_, a₁, w₁, hq, .pass (x := .inLoop c) rfl (fun _ _ => .inl (by simp)) harr⟩

/-- What is asked of regions that draw their order. -/
def DrawOk (P : Program) (call : Callee) : Prop := ∀ (m : Nat) (ro0 : Ro) (μ0 : Mu) (w0 : World) (H0 : Hp) (Q : Exit → Act → World → Prop) (ops : Array Oper) (id : Nat) (s s' : St) (l : List (List Nat × Bool)) (ro : Ro) (μ : Mu) (w : World) (a : Act),
  runOpsT P call ops ops.toList s = some (s', l) → (unorderedOk ops l && textOk P ops) = true → Rel m ro0 μ0 w0 H0 ro μ w s a →
    (∀ a' w', Ends m ro0 μ0 w0 H0 s' a' w' → Q .normal a' w') → (Code.region id ops true).wp P Q a w

section
variable {P : Program} {call : Callee} (hc : CallOk P call) (hd : DrawOk P call) {K : Keep} {m : Nat} {ro0 : Ro} {μ0 : Mu} {w0 : World} {H0 : Hp}
include hc hd

theorem runC_sound {n : Nat} : ∀ (c : Code) (s s' : St) (e : Ex) (ro : Ro) (μ : Mu) (w : World) (a : Act) (Q : Exit → Act → World → Prop), runC P call K m n c s = some (e, s') → Rel m ro0 μ0 w0 H0 ro μ w s a →
    (∀ a' w', Ends m ro0 μ0 w0 H0 s' a' w' → Q e.exit' a' w') → c.wp P Q a w := by
  intro c
  induction c with
  | skip =>
    intro s s' e ro μ w a Q h hr hQ
    simp only [runC, Option.some.injEq, Prod.mk.injEq] at h
    obtain ⟨rfl, rfl⟩ := h
    exact wp_skip (hQ a w ⟨ro, μ, hr⟩)
  | label l =>
    intro s s' e ro μ w a Q h hr hQ
    simp only [runC, Option.some.injEq, Prod.mk.injEq] at h
    obtain ⟨rfl, rfl⟩ := h
    exact wp_label (hQ a w ⟨ro, μ, hr⟩)
  | region id ops draw =>
    intro s s' e ro μ w a Q h hr hQ
    simp only [runC] at h
    split at h
    · rename_i s1 h1
      simp only [Option.some.injEq, Prod.mk.injEq] at h
      obtain ⟨rfl, rfl⟩ := h
      exact runRegion_sound hc (fun s' l hdr hl hok hQ' => hd m ro0 μ0 w0 H0 Q ops id s s' l ro μ w a hl hok hr hQ') h1 hr hQ
    · cases h
  | seq x y ihx ihy =>
    intro s s' e ro μ w a Q h hr hQ
    simp only [runC] at h
    refine wp_seq ?_
    cases hx : runC P call K m n x s with
    | none => rw [hx] at h; cases h
    | some p =>
      obtain ⟨e1, s1⟩ := p
      rw [hx] at h
      cases e1 with
      | normal =>
        simp only at h
        refine ihx s s1 .normal ro μ w a _ hx hr (fun a' w' hend => ?_)
        obtain ⟨ro', μ', hr'⟩ := hend
        exact ihy s1 s' e ro' μ' w' a' Q h hr' hQ
      | ret =>
        simp only [Option.some.injEq, Prod.mk.injEq] at h
        obtain ⟨rfl, rfl⟩ := h
        exact ihx s s1 .ret ro μ w a _ hx hr hQ
      | exit id =>
        simp only [Option.some.injEq, Prod.mk.injEq] at h
        obtain ⟨rfl, rfl⟩ := h
        exact ihx s s1 (.exit id) ro μ w a _ hx hr hQ
  | cond c x y ihx ihy =>
    intro s s' e ro μ w a Q h hr hQ
    simp only [runC] at h
    split at h
    · rename_i t ht
      have ec : a.eval c = .bool t := VR_val (opd_sound hr.env ht) rfl
      refine wp_cond ec ?_
      cases t with
      | true => exact ihx s s' e ro μ w a Q (by simpa using h) hr hQ
      | false => exact ihy s s' e ro μ w a Q (by simpa using h) hr hQ
    · cases h
  | block id x ih =>
    intro s s' e ro μ w a Q h hr hQ
    simp only [runC] at h
    refine wp_block ?_
    cases hx : runC P call K m n x s with
    | none => rw [hx] at h; cases h
    | some p =>
      obtain ⟨e1, s1⟩ := p
      rw [hx] at h
      cases e1 with
      | normal =>
        simp only [Option.some.injEq, Prod.mk.injEq] at h
        obtain ⟨rfl, rfl⟩ := h
        exact ih s s1 .normal ro μ w a _ hx hr hQ
      | ret =>
        simp only [Option.some.injEq, Prod.mk.injEq] at h
        obtain ⟨rfl, rfl⟩ := h
        exact ih s s1 .ret ro μ w a _ hx hr hQ
      | exit id' =>
        simp only at h
        refine ih s s1 (.exit id') ro μ w a _ hx hr (fun a' w' hend => ?_)
        simp only [Ex.exit', Exit.inBlock]
        split at h
        · rename_i e'
          simp only [Option.some.injEq, Prod.mk.injEq] at h
          obtain ⟨rfl, rfl⟩ := h
          rw [if_pos e']
          exact hQ a' w' hend
        · rename_i e'
          simp only [Option.some.injEq, Prod.mk.injEq] at h
          obtain ⟨rfl, rfl⟩ := h
          rw [if_neg e']
          exact hQ a' w' hend
  | loop x ih =>
    intro s s' e ro μ w a Q h hr hQ
    simp only [runC] at h
    -- the rounds
    have key : ∀ (q : Nat) (s : St) (ro : Ro) (μ : Mu) (w : World) (a : Act), iter (atHead m ((firstRegion x).bind K)) (runC P call K m n x) q s = some (e, s') → Rel m ro0 μ0 w0 H0 ro μ w s a → wpIn P x Q a w := by
      intro q
      induction q with
      | zero => intro s ro μ w a h _; simp [iter] at h
      | succ q ihq =>
        intro s ro μ w a h hr
        simp only [iter] at h
        split at h
        · rename_i s0 hs0
          obtain ⟨ro1, μ1, hr1⟩ := atHead_sound hr hs0
          refine wpIn_round ?_
          cases hx : runC P call K m n x s0 with
          | none => rw [hx] at h; cases h
          | some p =>
            obtain ⟨e1, s1⟩ := p
            rw [hx] at h
            cases e1 with
            | normal =>
              simp only at h
              refine ih s0 s1 .normal ro1 μ1 w a _ hx hr1 (fun a' w' hend => ?_)
              obtain ⟨ro', μ', hr'⟩ := hend
              exact ihq s1 ro' μ' w' a' h hr'
            | ret =>
              simp only [Option.some.injEq, Prod.mk.injEq] at h
              obtain ⟨rfl, rfl⟩ := h
              exact ih s0 s1 .ret ro1 μ1 w a _ hx hr1 hQ
            | exit id =>
              simp only [Option.some.injEq, Prod.mk.injEq] at h
              obtain ⟨rfl, rfl⟩ := h
              exact ih s0 s1 (.exit id) ro1 μ1 w a _ hx hr1 hQ
        · cases h
    exact wp_loop_in (key n s ro μ w a h hr)
  | exit id =>
    intro s s' e ro μ w a Q h hr hQ
    simp only [runC, Option.some.injEq, Prod.mk.injEq] at h
    obtain ⟨rfl, rfl⟩ := h
    exact wp_exit (hQ a w ⟨ro, μ, hr⟩)
  | ret =>
    intro s s' e ro μ w a Q h hr hQ
    simp only [runC, Option.some.injEq, Prod.mk.injEq] at h
    obtain ⟨rfl, rfl⟩ := h
    exact wp_ret (hQ a w ⟨ro, μ, hr⟩)
  | _ =>
    intro s s' e ro μ w a Q h hr hQ
    simp [runC] at h
end

def resVal (tmps : Array Value) : ResultVar → Sem Value
  | .tmp t => pure (tmps.getD t undef)
  | .cell a t => do loadVar t (← asAddr (tmps.getD a undef))

theorem results_eq (fn : Func) (tmps : Array Value) : results fn tmps = (do let vs ← fn.results.mapM (resVal tmps); pure (if h : vs.size = 1 then vs[0] else .tuple vs)) := by
  unfold results
  congr 2

theorem run_asAddr {P : Program} {w : World} (a : Addr) : (asAddr (.pointer (some a))).run P w = .ok a w := rfl

theorem resultsOf_sound {P : Program} {ro : Ro} {μ : Mu} {w : World} {s : St} {a : Act} (g : Good ro μ w (hp s.σ)) (he : VRs ro μ s.env a.tmps) : ∀ (l : List ResultVar) (rs : List AV), resultsOf P s l = some rs →
    ∃ vs : List Value, (l.mapM (resVal a.tmps)).run P w = .ok vs w ∧ VRs ro μ rs vs.toArray
  | [], rs, h => by
    simp only [resultsOf, Option.some.injEq] at h
    subst h
    exact ⟨[], by simp, ⟨rfl, fun i x v hx => by simp at hx⟩⟩
  | .tmp t :: l, rs, h => by
    simp only [resultsOf] at h
    split at h
    · rename_i v vs h1 h2
      simp only [Option.some.injEq] at h
      subst h
      obtain ⟨us, k1, k2⟩ := resultsOf_sound g he l vs h2
      have hlt : t < a.tmps.size := by rw [he.size]; exact lt_of_get h1
      refine ⟨a.tmps.getD t undef :: us, by simp only [List.mapM_cons, resVal, Sem.run_bind, Sem.run_pure, Result.andThen_ok, k1], ?_⟩
      have hv : VR ro μ v (a.tmps.getD t undef) := he.get t v _ h1 (by simp [Array.getD, hlt])
      exact VRs_append (VRs_singleton hv) k2 |> fun q => by simpa using q
    · cases h
  | .cell p t :: l, rs, h => by
    simp only [resultsOf] at h
    split at h
    · rename_i q hq
      split at h
      · rename_i v vs h1 h2
        simp only [Option.some.injEq] at h
        subst h
        obtain ⟨us, k1, k2⟩ := resultsOf_sound g he l vs h2
        have hlt : p < a.tmps.size := by rw [he.size]; exact lt_of_get hq
        have hv : VR ro μ q (a.tmps.getD p undef) := he.get p q _ hq (by simp [Array.getD, hlt])
        obtain ⟨u, ad, e, r1, r2⟩ := aload_sound g hv h1
        refine ⟨u :: us, ?_, ?_⟩
        · simp only [List.mapM_cons, resVal, Sem.run_bind, e, run_asAddr, Sem.run_pure, Result.andThen_ok, r1, k1]
        · exact VRs_append (VRs_singleton r2) k2 |> fun q => by simpa using q
      · cases h
    · cases h

theorem results_run {P : Program} {fn : Func} {ro : Ro} {μ : Mu} {w : World} {s : St} {a : Act} {rs : List AV} (g : Good ro μ w (hp s.σ)) (he : VRs ro μ s.env a.tmps) (h : resultsOf P s fn.results.toList = some rs) :
    ∃ v, (results fn a.tmps).run P w = .ok v w ∧ VR ro μ (oneOr rs) v := by
  obtain ⟨vs, k1, k2⟩ := resultsOf_sound g he fn.results.toList rs h
  have hrun : (fn.results.mapM (resVal a.tmps)).run P w = .ok vs.toArray w := by
    rw [Array.mapM_eq_mapM_toList]
    simp only [Sem.run_map, k1, Result.andThen_ok]
  have hsz := k2.size
  simp only [List.size_toArray] at hsz
  refine ⟨if h : vs.toArray.size = 1 then vs.toArray[0] else .tuple vs.toArray, ?_, ?_⟩
  · rw [results_eq]
    simp only [Sem.run_bind, hrun, Result.andThen_ok, Sem.run_pure]
  · unfold oneOr
    split
    · rename_i x
      have h1 : vs.toArray.size = 1 := by simpa using hsz
      rw [dif_pos h1]
      exact k2.get 0 x _ rfl (Array.getElem?_eq_getElem (by omega))
    · rename_i hne
      have h1 : ¬ vs.toArray.size = 1 := by
        intro q
        simp only [List.size_toArray] at q
        rw [hsz] at q
        match rs, q with
        | [x], _ => exact hne x rfl
      rw [dif_neg h1]
      exact .tuple rs _ k2.size k2.get

/-- What is asked of functions that are taken as they are told. -/
def PrimOk (P : Program) (pm : Prims) : Prop := ∀ (f : FuncId) (g : List AV → Option AV), pm f = some g → ∀ (args : List AV) (r : AV), g args = some r → ∀ (ro : Ro) (μ : Mu) (w : World) (cargs : Array Value), VRs ro μ args cargs → (∀ a v, ro a = some v → w.cell? a = some v) →
  Calls P f cargs w (fun e w' => ∃ v, e = .returned v ∧ VR ro μ r v ∧ RowKit.Below w.heap.size w w')

theorem callF_sound {P : Program} {pm : Prims} {K : FuncId → Keep} (hp' : PrimOk P pm) (hd : ∀ call, CallOk P call → DrawOk P call) : ∀ k, CallOk P (callF P pm K k)
  | 0 => fun f args σ r σ' h => by simp [callF] at h
  | k + 1 => by
    intro f args σ r σ' h ro μ w cargs g hdom ha
    simp only [callF] at h
    unfold callBody at h
    split at h
    · rename_i gg hpm
      split at h
      · rename_i v hv
        simp only [Option.some.injEq, Prod.mk.injEq] at h
        obtain ⟨rfl, rfl⟩ := h
        refine (hp' f gg hpm args v hv ro μ w cargs ha g.roOk).mono ?_
        rintro e w' ⟨u, rfl, hu, hb⟩
        have rolt : ∀ a v, ro a = some v → a.block < w.heap.size := by
          intro a v h
          have := g.roOk a v h
          rcases Nat.lt_or_ge a.block w.heap.size with k | k
          · exact k
          · simp [World.cell?, Array.getElem?_eq_none k] at this
        refine ⟨u, ro, μ, rfl, hu, ⟨fun a v h => ?_, fun id => ?_, g.apart, g.roApart, g.base⟩, ⟨fun _ _ h => h, fun _ _ h => .inl h, fun _ h => .inr h, fun _ h => .inr h, fun b hb' _ => hb.block b hb', hb.size, hb.os, hb.tape, hb.output⟩, hdom, fun _ _ => rfl⟩
        · rw [cell?_of_heap (hb.block _ (rolt a v h))]; exact g.roOk a v h
        · by_cases hl : (hp σ id).live = true
          · exact (g.ob id).keep (fun _ _ h => h) (fun _ _ h => h) rfl (fun L hL => hb.block _ ((g.ob id).lt hl hL))
          · have : hp σ id = .dead := by cases e : hp σ id <;> simp [e, Ob.live] at hl ⊢
            rw [this]; trivial
      · cases h
    · split at h
      · rename_i fn hfn
        split at h
        · rename_i c hbody
          have ih := callF_sound (K := K) hp' hd k
          -- at the beginning
          let a0 : Act := { tmps := cargs ++ Array.replicate (fn.ntmps - cargs.size) undef, defers := [] }
          have hrel : Rel σ.length ro μ w (hp σ) ro μ w ⟨args ++ List.replicate (fn.ntmps - args.length) (.tuple []), σ⟩ a0 := by
            refine ⟨g, ?_, hdom, rfl, (Ext.refl _ _ _ _).to0, fun _ _ => rfl, Nat.le_refl _⟩
            have e : fn.ntmps - args.length = fn.ntmps - cargs.size := by rw [ha.size]
            refine VRs_append ha ⟨by simp [e], fun i x v hx hv => ?_⟩
            rw [List.getElem?_replicate] at hx
            rw [Array.getElem?_replicate] at hv
            split at hx
            · split at hv
              · simp only [Option.some.injEq] at hx hv
                subst hx; subst hv
                exact .tuple [] #[] rfl (fun i x v hx => by simp at hx)
              · cases hv
            · cases hx
          have fin : ∀ s', Ends σ.length ro μ w (hp σ) s' = Ends σ.length ro μ w (hp σ) s' → finishF P fn σ.length s' = some (r, σ') → ∀ a' w', Ends σ.length ro μ w (hp σ) s' a' w' →
              a'.defers = [] ∧ ∃ v, (results fn a'.tmps).run P w' = .ok v w' ∧ (∃ u ro' μ', Ending.returned v = .returned u ∧ VR ro' μ' r u ∧ Good ro' μ' w' (hp σ') ∧ Ext0 ro μ w (hp σ) ro' μ' w' (hp σ') ∧ (∀ id L, μ' id = some L → id < σ'.length) ∧ (∀ id, id < σ.length → μ' id = μ id)) := by
            intro s' _ hf a' w' ⟨ro', μ', hr⟩
            refine ⟨hr.defers, ?_⟩
            unfold finishF at hf
            split at hf
            · rename_i rs hrs
              obtain ⟨v, k1, k2⟩ := results_run hr.good hr.env hrs
              split at hf
              · rename_i ι os hcan
                split at hf
                · rename_i ht
                  split at hf
                  · rename_i r' hr'
                    simp only [Option.some.injEq, Prod.mk.injEq] at hf
                    obtain ⟨rfl, rfl⟩ := hf
                    have hr2 := hr.canon hcan ht (env' := s'.env.map fun _ => AV.undef) ⟨by rw [hr.env.size]; simp, fun i x v hx _ => by
                      simp only [List.getElem?_map, Option.map_eq_some_iff] at hx
                      obtain ⟨_, _, rfl⟩ := hx
                      exact .undef v⟩
                    exact ⟨v, k1, v, ro', muIn μ' ι, rfl, VR_re muIn_num k2 _ hr', hr2.good, hr2.ext, hr2.dom, hr2.keep⟩
                  · cases hf
                · cases hf
              · cases hf
            · cases hf
          refine calls_of_wp hfn hbody ?_
          split at h
          · rename_i s' hrun
            exact runC_sound ih (hd _ ih) c _ s' .normal ro μ w a0 _ hrun hrel (fun a' w' he => fin s' rfl h a' w' he)
          · rename_i s' hrun
            exact runC_sound ih (hd _ ih) c _ s' .ret ro μ w a0 _ hrun hrel (fun a' w' he => fin s' rfl h a' w' he)
          · cases h
        · cases h
      · cases h

end Lv
