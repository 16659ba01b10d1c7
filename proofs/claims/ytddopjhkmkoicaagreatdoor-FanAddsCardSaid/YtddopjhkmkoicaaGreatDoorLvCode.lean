/- Regions in their text's order, code, functions. -/
import Derived.Test.YtddopjhkmkoicaaGreatDoorLvAop
import Derived.Orders
/- Regions in their text's order, code, functions. -/
namespace Lv
open Go
set_option linter.unusedVariables false
set_option linter.unusedSimpArgs false
set_option linter.unusedSectionVars false
variable [BaseTab]
structure Rel (m : Nat) (gX : Ro) (gQ : Mu) (w0 : World) (H0 : Hp) (ro : Ro) (μ : Mu) (w : World) (s : St) (a : Act) : Prop where
 good : Good ro μ w (hp s.σ)
 env : VRs ro μ s.env a.tmps
 dom : ∀ id L, μ id = some L → id < s.σ.length
 defers : a.defers = []
 ext : zK gX gQ w0 H0 ro μ w (hp s.σ)
 keep : ∀ id, id < m → μ id = gQ id
 hm : m ≤ s.σ.length
def Ends (m : Nat) (gX : Ro) (gQ : Mu) (w0 : World) (H0 : Hp) (s : St) (a : Act) (w : World) : Prop := ∃ ro μ, Rel m gX gQ w0 H0 ro μ w s a
theorem zu {ro : Ro} {μ : Mu} {env : List AV} {a : Act} {x : AV} {v : Value} (h : VRs ro μ env a.tmps) (hv : VR ro μ x v) (dst : Option Tmp) : VRs ro μ (qX env dst x) (a.put dst v).tmps := by
 cases dst with
 | none => exact h
 | some d =>
  refine ⟨by simp [qX, Act.put, h.size], fun i y u hy hu => ?_⟩
  simp only [qX, List.getElem?_set] at hy
  simp only [Act.put, Array.getElem?_setIfInBounds] at hu
  split at hy
  ·rename_i e
   subst e
   split at hy
   ·rename_i hl
    rw [if_pos rfl] at hu
    have : d < a.tmps.size := by rw [h.size]; exact hl
    rw [if_pos this] at hu
    simp only [Option.some.injEq] at hy hu
    subst hy; subst hu
    exact hv
   ·cases hy
  ·rename_i e
   rw [if_neg e] at hu
   exact h.get i y u hy hu
theorem yF (a : Act) (dst : Option Tmp) (v : Value) : (a.put dst v).defers = a.defers := by cases dst <;> rfl
theorem pY {ro : Ro} {μ : Mu} {env : List AV} {a : Act} {ops : Array Oper} {o : Oper} {b : Bool} (h : VRs ro μ env a.tmps) (hw : wants ops env o = some b) : Region.wanted o (yielded ops a.tmps) = b := by
 unfold wants at hw
 unfold Region.wanted
 split at hw
 ·rename_i hg
  simp only [Option.some.injEq] at hw
  rw [hg]; exact hw
 ·rename_i j want hg
  rw [hg]
  simp only
  split at hw
  ·rename_i t ht
   unfold yielded
   rw [ht]
   simp only [Option.bind_some]
   split at hw
   ·rename_i c hc
    have hlt : t < a.tmps.size := by rw [h.size]; exact bE hc
    have := fA (h.get t _ _ hc (Array.getElem?_eq_getElem hlt)) rfl
    rw [Array.getElem?_eq_getElem hlt, this]
    simp only [Option.some.injEq] at hw
    subst hw
    cases c <;> cases want <;> rfl
   ·rename_i hc
    have hlt : t < a.tmps.size := by rw [h.size]; exact bE hc
    obtain ⟨vs, e, _⟩ := Ih (h.get t _ _ hc (Array.getElem?_eq_getElem hlt))
    rw [Array.getElem?_eq_getElem hlt, e]
    simp only [Option.some.injEq] at hw
    subst hw
    rfl
   ·cases hw
  ·cases hw
theorem Rel.op {m : Nat} {gX ro ro' : Ro} {gQ μ μ' : Mu} {w0 w w' : World} {H0 : Hp} {s : St} {a : Act} {x : AV} {σ' : List Ob} {v : Value} (h : Rel m gX gQ w0 H0 ro μ w s a) (hv : VR ro' μ' x v) (g : Good ro' μ' w' (hp σ')) (e : Ext ro μ w (hp s.σ) ro' μ' w' (hp σ'))
  (hid : ∀ id, μ' id ≠ μ id → s.σ.length ≤ id ∧ id < σ'.length) (hl : s.σ.length ≤ σ'.length) (dst : Option Tmp) : Rel m gX gQ w0 H0 ro' μ' w' ⟨qX s.env dst x, σ'⟩ (a.put dst v) where
 good := g
 env := zu (h.env.mono e.mR e.GI) hv dst
 dom id L hL := by
  by_cases q : μ' id = μ id
  ·rw [q] at hL; exact Nat.lt_of_lt_of_le (h.dom id L hL) hl
  ·exact (hid id q).2
 defers := by rw [yF]; exact h.defers
 ext := h.ext.trans e.WA
 keep id hi := by
  have q : μ' id = μ id := by
   by_cases q : μ' id = μ id
   ·exact q
   ·have := (hid id q).1; have := h.hm; omega
  rw [q]; exact h.keep id hi
 hm := Nat.le_trans h.hm hl
theorem Rel.skip {m : Nat} {gX ro : Ro} {gQ μ : Mu} {w0 w : World} {H0 : Hp} {s : St} {a : Act} (h : Rel m gX gQ w0 H0 ro μ w s a) (dst : Option Tmp) : Rel m gX gQ w0 H0 ro μ w ⟨qX s.env dst (.tuple []), s.σ⟩ (a.put dst undef) :=
 h.op (.tuple [] #[] rfl (fun i x v hx => by simp at hx)) h.good (Ext.refl _ _ _ _) (fun id q => absurd rfl q) (Nat.le_refl _) dst
section
variable {P : Program} {call : Callee} (hc : A8 P call) {m : Nat} {gX : Ro} {gQ : Mu} {w0 : World} {H0 : Hp} {Q : Exit → Act → World → Prop}
include hc
end
theorem Rel.canon {m : Nat} {gX ro : Ro} {gQ μ : Mu} {w0 w : World} {H0 : Hp} {s : St} {a : Act} {ι : List Nat} {roots : List Nat} {os : List Ob} {env' : List AV} (h : Rel m gX gQ w0 H0 ro μ w s a) (hcan : Lv.canon s.σ roots = some (ι, os)) (ht : ι.take m = List.range m)
  (XU : VRs ro (Ap μ ι) env' a.tmps) : Rel m gX gQ w0 H0 ro (Ap μ ι) w ⟨env', os⟩ a := by
 obtain ⟨hnd, hl, hsub, hK⟩ := yT hcan
 have hm : m ≤ ι.length := by
  have := congrArg List.length ht
  simp at this
  omega
 refine ⟨h.good.re qm hK, XU, fun id L hL => ?_, h.defers, h.ext.trans (zK.re qm hK), fun id hi => ?_, by simp only; omega⟩
 ·simp only [Ap] at hL
  split at hL
  ·rename_i i hi; simp only; rw [hl]; exact bE hi
  ·cases hL
 ·have : ι[id]? = some id := by
   have e : (ι.take m)[id]? = some id := by rw [ht, List.getElem?_range hi]
   rw [List.getElem?_take, if_pos hi] at e
   exact e
  simp only [Ap, this]
  exact h.keep id hi
def Ex.exit' : Ex → Exit
 | .normal => .normal
 | .ret => .ret
 | .exit id => .exit id
def wpIn (P : Program) (c : Code) (Q : Exit → Act → World → Prop) (a : Act) (w : World) : Prop :=
 ∀ (b : Frame) (k : List Item) (cs : List Frame), ∃ e a' w', Q e a' w' ∧ Arrives P (lone (b.at a (.code c :: .inLoop c :: k)) cs w) b k cs e a' w'
theorem Od {P : Program} {c : Code} {Q : Exit → Act → World → Prop} {a : Act} {w : World} (h : wpIn P c Q a w) : (Code.loop c).wp P Q a w := by
 intro b k cs
 obtain ⟨e, a', w', hq, harr⟩ := h b k cs
 exact ⟨e, a', w', hq, .of_steps (.one step_loop) harr⟩
theorem Oe {P : Program} {c : Code} {Q : Exit → Act → World → Prop} {a : Act} {w : World} (h : c.wp P (Exit.then (wpIn P c Q) Q) a w) : wpIn P c Q a w := by
 intro b k cs
 obtain ⟨e, a₁, w₁, hq, harr⟩ := h b (.inLoop c :: k) cs
 cases e with
 | normal =>
  obtain ⟨e₂, a₂, w₂, hq₂, harr₂⟩ := hq b k cs
  exact ⟨e₂, a₂, w₂, hq₂, .of_steps (Steps.trans harr (.one step_inLoop)) harr₂⟩
 | exit id => exact ⟨_, a₁, w₁, hq, .pass (x := .inLoop c) rfl (fun _ _ => .inl (by simp)) harr⟩
 | goto l => exact ⟨_, a₁, w₁, hq, .pass (x := .inLoop c) rfl (fun _ _ => .inl (by simp)) harr⟩
 | ret => exact ⟨_, a₁, w₁, hq, .pass (x := .inLoop c) rfl (fun _ _ => .inl (by simp)) harr⟩
 | panic ch => exact ⟨_, a₁, w₁, hq, .pass (x := .inLoop c) rfl (fun _ _ => .inl (by simp)) harr⟩
 | outgrown => exact ⟨_, a₁, w₁, hq, .pass (x := .inLoop c) rfl (fun _ _ => .inl (by simp)) harr⟩
def ac6 (P : Program) (call : Callee) : Prop := ∀ (m : Nat) (gX : Ro) (gQ : Mu) (w0 : World) (H0 : Hp) (Q : Exit → Act → World → Prop) (ops : Array Oper) (id : Nat) (s s' : St) (l : List (List Nat × Bool)) (ro : Ro) (μ : Mu) (w : World) (a : Act),
 J7 P call ops ops.toList s = some (s', l) → (kK ops l && F6 P ops) = true → Rel m gX gQ w0 H0 ro μ w s a →
  (∀ a' w', Ends m gX gQ w0 H0 s' a' w' → Q .normal a' w') → (Code.region id ops true).wp P Q a w
section
variable {P : Program} {call : Callee} (hc : A8 P call) (hd : ac6 P call) {K : Keep} {m : Nat} {gX : Ro} {gQ : Mu} {w0 : World} {H0 : Hp}
include hc hd
end
def Gd (tmps : Array Value) : ResultVar → Sem Value
 | .tmp t => pure (tmps.getD t undef)
 | .cell a t => do loadVar t (← asAddr (tmps.getD a undef))
theorem OC (fn : Func) (tmps : Array Value) : results fn tmps = (do let vs ← fn.results.mapM (Gd tmps); pure (if h : vs.size = 1 then vs[0] else .tuple vs)) := by
 unfold results
 congr 2
theorem Oz {P : Program} {w : World} (a : Addr) : (asAddr (.pointer (some a))).run P w = .ok a w := rfl
theorem qF {P : Program} {ro : Ro} {μ : Mu} {w : World} {s : St} {a : Act} (g : Good ro μ w (hp s.σ)) (he : VRs ro μ s.env a.tmps) : ∀ (l : List ResultVar) (rs : List AV), iP P s l = some rs →
  ∃ vs : List Value, (l.mapM (Gd a.tmps)).run P w = .ok vs w ∧ VRs ro μ rs vs.toArray
 | [], rs, h => by
  simp only [iP, Option.some.injEq] at h
  subst h
  exact ⟨[], by simp, ⟨rfl, fun i x v hx => by simp at hx⟩⟩
 | .tmp t :: l, rs, h => by
  simp only [iP] at h
  split at h
  ·rename_i v vs h1 h2
   simp only [Option.some.injEq] at h
   subst h
   obtain ⟨us, k1, k2⟩ := qF g he l vs h2
   have hlt : t < a.tmps.size := by rw [he.size]; exact bE h1
   refine ⟨a.tmps.getD t undef :: us, by simp only [List.mapM_cons, Gd, Sem.run_bind, Sem.run_pure, Result.andThen_ok, k1], ?_⟩
   have hv : VR ro μ v (a.tmps.getD t undef) := he.get t v _ h1 (by simp [Array.getD, hlt])
   exact kU (pW hv) k2 |> fun q => by simpa using q
  ·cases h
 | .cell p t :: l, rs, h => by
  simp only [iP] at h
  split at h
  ·rename_i q hq
   split at h
   ·rename_i v vs h1 h2
    simp only [Option.some.injEq] at h
    subst h
    obtain ⟨us, k1, k2⟩ := qF g he l vs h2
    have hlt : p < a.tmps.size := by rw [he.size]; exact bE hq
    have hv : VR ro μ q (a.tmps.getD p undef) := he.get p q _ hq (by simp [Array.getD, hlt])
    obtain ⟨u, ad, e, r1, r2⟩ := yY g hv h1
    refine ⟨u :: us, ?_, ?_⟩
    ·simp only [List.mapM_cons, Gd, Sem.run_bind, e, Oz, Sem.run_pure, Result.andThen_ok, r1, k1]
    ·exact kU (pW r2) k2 |> fun q => by simpa using q
   ·cases h
  ·cases h
theorem Mi {P : Program} {fn : Func} {ro : Ro} {μ : Mu} {w : World} {s : St} {a : Act} {rs : List AV} (g : Good ro μ w (hp s.σ)) (he : VRs ro μ s.env a.tmps) (h : iP P s fn.results.toList = some rs) :
  ∃ v, (results fn a.tmps).run P w = .ok v w ∧ VR ro μ (Ju rs) v := by
 obtain ⟨vs, k1, k2⟩ := qF g he fn.results.toList rs h
 have hrun : (fn.results.mapM (Gd a.tmps)).run P w = .ok vs.toArray w := by
  rw [Array.mapM_eq_mapM_toList]
  simp only [Sem.run_map, k1, Result.andThen_ok]
 have hsz := k2.size
 simp only [List.size_toArray] at hsz
 refine ⟨if h : vs.toArray.size = 1 then vs.toArray[0] else .tuple vs.toArray, ?_, ?_⟩
 ·rw [OC]
  simp only [Sem.run_bind, hrun, Result.andThen_ok, Sem.run_pure]
 ·unfold Ju
  split
  ·rename_i x
   have h1 : vs.toArray.size = 1 := by simpa using hsz
   rw [dif_pos h1]
   exact k2.get 0 x _ rfl (Array.getElem?_eq_getElem (by omega))
  ·rename_i hne
   have h1 : ¬ vs.toArray.size = 1 := by
    intro q
    simp only [List.size_toArray] at q
    rw [hsz] at q
    match rs, q with
    | [x], _ => exact hne x rfl
   rw [dif_neg h1]
   exact .tuple rs _ k2.size k2.get
end Lv
