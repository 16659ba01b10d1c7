/- Regions that draw their order. -/
import Derived.Test.YtddopjhkmkoicaaGreatDoorLvLoc2
import Derived.Test.YtddopjhkmkoicaaGreatDoorLvCode
/- Regions that draw their order. -/
namespace Lv
open Go
set_option linter.unusedVariables false
set_option linter.unusedSimpArgs false
set_option linter.unusedSectionVars false
variable [BaseTab]
def AW (x y : AV) : Prop := ∀ (ro : Ro) (μ : Mu) (v : Value), VR ro μ x v → VR ro μ y v
theorem AW.refl (x : AV) : AW x x := fun _ _ _ h => h
structure One (P : Program) (ops : Array Oper) (o : Oper) (s : St) (v : AV) (mk : List Nat × Bool) (s' : St) : Prop where
 env : s'.env = qX s.env o.dst v
 or : (∃ call v0, A8 P call ∧ AW v0 v ∧ wants ops s.env o = some true ∧ kH P call s.env s.σ o = some (v0, s'.σ) ∧ mk.1 = (marked s.env s.σ s'.σ o).1 ∧ (mk.2 = (marked s.env s.σ s'.σ o).2 ∨ s'.σ = s.σ)) ∨ (wants ops s.env o = some false ∧ v = .tuple [] ∧ s'.σ = s.σ ∧ mk = ([], false))
inductive RunT (P : Program) (ops : Array Oper) : List Oper → St → St → List (List Nat × Bool) → Prop
 | nil (s : St) : RunT P ops [] s s []
 | cons {o : Oper} {r : List Oper} {s s1 s' : St} {v : AV} {mk : List Nat × Bool} {l : List (List Nat × Bool)} (h : One P ops o s v mk s1) (t : RunT P ops r s1 s' l) : RunT P ops (o :: r) s s' (mk :: l)
theorem One.grow {P : Program} {ops : Array Oper} {o : Oper} {s s' : St} {v : AV} {mk : List Nat × Bool} (h : One P ops o s v mk s') : s.σ.length ≤ s'.σ.length := by
 rcases h.or with ⟨_, _, _, _, _, h, _⟩ | ⟨_, _, h, _⟩
 ·exact (FE h).1
 ·rw [h]; exact Nat.le_refl _
theorem One.old {P : Program} {ops : Array Oper} {o : Oper} {s s' : St} {v : AV} {mk : List Nat × Bool} (h : One P ops o s v mk s') {id : Nat} (hid : id ∉ mk.1 ∨ mk.2 = false) : hp s'.σ id = hp s.σ id := by
 rcases h.or with ⟨_, _, _, _, _, ho, q1, q2 | q2⟩ | ⟨_, _, h, _⟩
 rotate_left
 ·rw [q2]
 ·rw [h]
 ·rw [q1, q2] at hid
  have hl := (FE ho).1
  simp only [marked, List.mem_append, List.mem_range'_1, not_or, Bool.or_eq_false_iff, decide_eq_false_iff_not] at hid
  by_cases hlt : id < s.σ.length
  ·have : s'.σ[id]? = s.σ[id]? := by
    rcases hid with hid | hid
    ·exact (FE ho).2.1 id hlt hid.1
    ·exact Sw ho hid.1 id hlt
   simp only [hp, this]
  ·rw [sD (by omega), sD (by rcases hid with hid | hid <;> omega)]
theorem trace {P : Program} {ops : Array Oper} : ∀ (xI : List Oper) (s s' : St) (l : List (List Nat × Bool)), RunT P ops xI s s' l →
  ∃ (S : Nat → St) (V : Nat → AV) (M : Nat → List Nat × Bool), S 0 = s ∧ S xI.length = s' ∧ l.length = xI.length ∧ ∀ (j : Nat) (o : Oper), xI[j]? = some o → l[j]? = some (M j) ∧ One P ops o (S j) (V j) (M j) (S (j + 1))
 | [], s, s', l, h => by
  cases h
  exact ⟨fun _ => s, fun _ => .undef, fun _ => ([], false), rfl, rfl, rfl, fun j o h => by simp at h⟩
 | o :: r, s, s', l, h => by
  cases h with
  | cons h2 h1 =>
   rename_i s1 v mk l1
   obtain ⟨S, V, M, k0, k1, k2, k3⟩ := trace r s1 s' l1 h1
   refine ⟨fun | 0 => s | j + 1 => S j, fun | 0 => v | j + 1 => V j, fun | 0 => mk | j + 1 => M j, rfl, k1, by simp [k2], fun j o' hj => ?_⟩
   cases j with
   | zero =>
    simp only [List.getElem?_cons_zero, Option.some.injEq] at hj
    subst hj
    exact ⟨rfl, by rw [← k0] at h2; exact h2⟩
   | succ j => exact k3 j o' (by simpa using hj)
section
variable (DK : List AV) (dst : Nat → Option Tmp) (V : Nat → AV) (H : Nat → Hp) (M : Nat → List Nat × Bool) (E : Nat → List AV)
def EL (L : Nat → Bool) : Nat → List AV
 | 0 => DK
 | j + 1 => if L j then qX (EL L j) (dst j) (V j) else EL L j
def HL (L : Nat → Bool) : Nat → Hp
 | 0 => H 0
 | j + 1 => fun id => if L j = true ∧ (M j).2 = true ∧ id ∈ (M j).1 then H (j + 1) id else HL L j id
theorem Eu (env : List AV) (d : Option Tmp) (v : AV) : (qX env d v).length = env.length := by cases d <;> simp [qX]
theorem mX {env : List AV} {d : Option Tmp} {v : AV} {t : Nat} (h : d ≠ some t) : (qX env d v)[t]? = env[t]? := by
 cases d with
 | none => rfl
 | some d => simp only [qX]; rw [List.getElem?_set, if_neg (by rintro rfl; exact h rfl)]
theorem Dl {env env' : List AV} {v : AV} {t : Nat} (h : env.length = env'.length) : (qX env (some t) v)[t]? = (qX env' (some t) v)[t]? := by
 simp only [qX, List.getElem?_set, if_true, h]
theorem pE (L : Nat → Bool) : ∀ j, (EL DK dst V L j).length = DK.length
 | 0 => rfl
 | j + 1 => by
  simp only [EL]
  split
  ·rw [Eu, pE L j]
  ·exact pE L j
variable {DK dst V H M E}
theorem Lg {n : Nat} (h0 : E 0 = DK) (hE : ∀ j, j < n → E (j + 1) = qX (E j) (dst j) (V j)) {L : Nat → Bool} {t : Nat} : ∀ j, j ≤ n → (∀ k, k < j → dst k = some t → L k = true) → (EL DK dst V L j)[t]? = (E j)[t]? ∧ (E j).length = DK.length
 | 0, _, _ => by rw [h0]; exact ⟨rfl, rfl⟩
 | j + 1, hj, hk => by
  obtain ⟨h1, h2⟩ := Lg h0 hE (L := L) (t := t) j (by omega) (fun k hk' => hk k (by omega))
  rw [hE j (by omega)]
  refine ⟨?_, by rw [Eu, h2]⟩
  simp only [EL]
  by_cases hd : dst j = some t
  ·rw [if_pos (hk j (by omega) hd), hd]
   exact Dl (by rw [pE, h2])
  ·rw [mX hd]
   split
   ·rw [mX hd, h1]
   ·exact h1
theorem Il {L : Nat → Bool} {t i : Nat} : ∀ d, (∀ k, i ≤ k → k < i + d → L k = true → dst k ≠ some t) → (EL DK dst V L (i + d))[t]? = (EL DK dst V L i)[t]?
 | 0, _ => rfl
 | d + 1, h => by
  rw [← Nat.add_assoc]
  simp only [EL]
  have ih := Il (L := L) (t := t) (i := i) d (fun k h1 h2 => h k h1 (by omega))
  split
  ·rename_i hl
   rw [mX (h (i + d) (by omega) (by omega) hl), ih]
  ·exact ih
theorem ac5 {L : Nat → Bool} {i n : Nat} (hi : i < n) (hL : L i = false) (hlast : ∀ k t, i < k → k < n → L k = true → dst i = some t → dst k ≠ some t) :
  EL DK dst V (fun k => k == i || L k) n = qX (EL DK dst V L n) (dst i) (V i) := by
 apply List.ext_getElem?
 intro t
 by_cases hd : dst i = some t
 ·obtain ⟨d, rfl⟩ := Nat.exists_eq_add_of_lt hi
  have e : i + d + 1 = (i + 1) + d := by omega
  rw [e, Il (i := i + 1) d (fun k h1 h2 h3 h4 => ?_)]
  ·simp only [EL, BEq.rfl, Bool.true_or, if_true]
   rw [hd]
   exact Dl (by rw [pE, pE])
  ·have : (k == i) = false := by simp; omega
   rw [this, Bool.false_or] at h3
   exact hlast k t (by omega) (by omega) h3 hd h4
 ·rw [mX hd]
  have : ∀ j, (EL DK dst V (fun k => k == i || L k) j)[t]? = (EL DK dst V L j)[t]? := by
   intro j
   induction j with
   | zero => rfl
   | succ j ih =>
    simp only [EL]
    by_cases e : j = i
    ·subst e
     simp only [BEq.rfl, Bool.true_or, if_true, hL, Bool.false_eq_true, if_false]
     rw [mX hd, ih]
    ·have : (j == i) = false := by simpa using e
     simp only [this, Bool.false_or]
     by_cases hdj : dst j = some t
     ·split
      ·rw [hdj]; exact Dl (by rw [pE, pE])
      ·exact ih
     ·split
      ·rw [mX hdj, mX hdj, ih]
      ·exact ih
  exact this n
theorem Le {n : Nat} (hH : ∀ j id, j < n → (id ∉ (M j).1 ∨ (M j).2 = false) → H (j + 1) id = H j id) {L : Nat → Bool} {id : Nat} : ∀ j, j ≤ n → (∀ k, k < j → (M k).2 = true → id ∈ (M k).1 → L k = true) → HL H M L j id = H j id
 | 0, _, _ => rfl
 | j + 1, hj, hk => by
  have ih := Le hH (L := L) (id := id) j (by omega) (fun k h1 => hk k (by omega))
  simp only [HL]
  by_cases hw : (M j).2 = true ∧ id ∈ (M j).1
  ·rw [if_pos ⟨hk j (by omega) hw.1 hw.2, hw⟩]
  ·rw [if_neg (fun h => hw h.2), ih, hH j id (by omega)]
   by_cases h2 : (M j).2 = true
   ·exact .inl fun h => hw ⟨h2, h⟩
   ·exact .inr (by simpa using h2)
theorem Ik {L : Nat → Bool} {id i : Nat} : ∀ d, (∀ k, i ≤ k → k < i + d → L k = true → (M k).2 = true → id ∉ (M k).1) → HL H M L (i + d) id = HL H M L i id
 | 0, _ => rfl
 | d + 1, h => by
  rw [← Nat.add_assoc]
  simp only [HL]
  rw [if_neg (fun hc => h (i + d) (by omega) (by omega) hc.1 hc.2.1 hc.2.2)]
  exact Ik d (fun k h1 h2 => h k h1 (by omega))
theorem ac4 {L : Nat → Bool} {i n : Nat} (hi : i < n) (hL : L i = false) (hlast : ∀ k id, i < k → k < n → L k = true → (M i).2 = true → id ∈ (M i).1 → (M k).2 = true → id ∉ (M k).1) (id : Nat) :
  HL H M (fun k => k == i || L k) n id = if (M i).2 = true ∧ id ∈ (M i).1 then H (i + 1) id else HL H M L n id := by
 by_cases hd : (M i).2 = true ∧ id ∈ (M i).1
 ·rw [if_pos hd]
  obtain ⟨d, rfl⟩ := Nat.exists_eq_add_of_lt hi
  have e : i + d + 1 = (i + 1) + d := by omega
  rw [e, Ik (i := i + 1) d (fun k h1 h2 h3 h4 => ?_)]
  ·simp only [HL, BEq.rfl, Bool.true_or, true_and]
   rw [if_pos hd]
  ·have : (k == i) = false := by simp; omega
   rw [this, Bool.false_or] at h3
   exact hlast k id (by omega) (by omega) h3 hd.1 hd.2 h4
 ·rw [if_neg hd]
  have : ∀ j, HL H M (fun k => k == i || L k) j id = HL H M L j id := by
   intro j
   induction j with
   | zero => rfl
   | succ j ih =>
    simp only [HL]
    by_cases e : j = i
    ·subst e
     simp only [BEq.rfl, Bool.true_or, true_and, if_neg hd, hL, Bool.false_eq_true, false_and, if_false]
     exact ih
    ·have : (j == i) = false := by simpa using e
     simp only [this, Bool.false_or, ih]
  exact this n
end
theorem Ev : ∀ (r : List Oper) (j : Nat) (acc : List Nat), acc.length = j →
  (∀ k, k < j → (Ak r j acc).getD (j + r.length - 1 - k) 0 = acc.getD (j - 1 - k) 0) ∧
  ∀ (d : Nat) (o : Oper), r[d]? = some o → ∃ acc' : List Nat, (Ak r j acc).getD (j + r.length - 1 - (j + d)) 0 = wK acc' (j + d) o.after.toList ∧ ∀ k, k < j + d → acc'.getD (j + d - 1 - k) 0 = (Ak r j acc).getD (j + r.length - 1 - k) 0
 | [], j, acc, h => ⟨fun k _ => rfl, fun d o hd => by simp at hd⟩
 | o :: r, j, acc, h => by
  obtain ⟨h1, h2⟩ := Ev r (j + 1) (wK acc j o.after.toList :: acc) (by simp [h])
  have el : j + (o :: r).length = j + 1 + r.length := by simp only [List.length_cons]; omega
  simp only [Ak]
  rw [el]
  have hpre : ∀ k, k < j → (Ak r (j + 1) (wK acc j o.after.toList :: acc)).getD (j + 1 + r.length - 1 - k) 0 = acc.getD (j - 1 - k) 0 := by
   intro k hk
   rw [h1 k (by omega), show j + 1 - 1 - k = (j - 1 - k) + 1 by omega]
   rfl
  refine ⟨hpre, fun d o' hd => ?_⟩
  cases d with
  | zero =>
   simp only [List.getElem?_cons_zero, Option.some.injEq] at hd
   subst hd
   refine ⟨acc, ?_, fun k hk => ?_⟩
   ·simp only [Nat.add_zero]
    rw [h1 j (by omega), show j + 1 - 1 - j = 0 by omega]
    rfl
   ·simp only [Nat.add_zero]
    exact (hpre k (by omega)).symm
  | succ d =>
   obtain ⟨acc', k1, k2⟩ := h2 d o' (by simpa using hd)
   refine ⟨acc', ?_, fun k hk => ?_⟩
   ·rw [show j + (d + 1) = j + 1 + d by omega, k1]
   ·have := k2 k (by omega)
    rw [← this, show j + (d + 1) - 1 - k = j + 1 + d - 1 - k by omega]
theorem Aq {acc : List Nat} {j i : Nat} : ∀ {l : List Edge}, (wK acc j l).testBit i = true → ∃ e, e ∈ l ∧ Region.binds .any e = true ∧ (i = e.on ∨ (acc.getD (j - 1 - e.on) 0).testBit i = true)
 | [], h => by simp [wK] at h
 | e :: l, h => by
  simp only [wK] at h
  split at h
  ·rename_i hb
   rw [Nat.testBit_or, Nat.testBit_or, Bool.or_eq_true, Bool.or_eq_true] at h
   rcases h with (h | h) | h
   ·obtain ⟨e', k1, k2⟩ := Aq h
    exact ⟨e', by simp [k1], k2⟩
   ·rw [Nat.testBit_two_pow] at h
    exact ⟨e, by simp, hb, .inl (by simpa [eq_comm] using h)⟩
   ·exact ⟨e, by simp, hb, .inr h⟩
  ·obtain ⟨e', k1, k2⟩ := Aq h
   exact ⟨e', by simp [k1], k2⟩
theorem Rel.drawn {gX ro : Ro} {gQ μ : Mu} {w0 w : World} {H0 H : Hp} {ro' : Ro} (k : Nat) (g : Good ro μ w H) (e : zK gX gQ w0 H0 ro' μ w H) : Good ro μ { w with drawn := k } H ∧ zK gX gQ w0 H0 ro' μ { w with drawn := k } H :=
 ⟨⟨g.vH, g.ob, g.apart, g.iN, g.base⟩, ⟨e.mR, e.tN, e.oD, e.uh, e.frame, e.size, e.os, e.tape, e.output⟩⟩
def mask (T : List Nat) (σ : List Ob) : List Ob := σ.mapIdx fun i o => if i ∈ T then o else .dead
theorem yN (T : List Nat) (σ : List Ob) : (mask T σ).length = σ.length := by simp [mask]
theorem XJ {T : List Nat} {σ : List Ob} {i : Nat} (h : i ∈ T) : (mask T σ)[i]? = σ[i]? := by
 simp only [mask, List.getElem?_mapIdx, if_pos h]
 cases σ[i]? <;> rfl
theorem KJ (T : List Nat) (σ : List Ob) (i : Nat) : hp (mask T σ) i = if i ∈ T then hp σ i else .dead := by
 simp only [hp, mask, List.getElem?_mapIdx]
 by_cases h : i ∈ T
 ·simp only [if_pos h]
  cases σ[i]? <;> rfl
 ·simp only [if_neg h]
  cases σ[i]? <;> rfl
theorem H8 {ops : Array Oper} {x y : Oper} (h : H9 ops x y = true) {t : Nat} : (x.dst = some t → t ∉ ug ops y) ∧ (y.dst = some t → t ∉ ug ops x) := by
 unfold H9 at h
 rw [Bool.and_eq_true] at h
 refine ⟨fun e => ?_, fun e => ?_⟩
 ·have := h.1
  rw [e] at this
  simpa using this
 ·have := h.2
  rw [e] at this
  simpa using this
theorem Ko {x y : List Nat × Bool} (h : Kq x y = true) (hw : x.2 = true ∨ y.2 = true) {id : Nat} (h1 : id ∈ x.1) (h2 : id ∈ y.1) : False := by
 unfold Kq at h
 rw [Bool.or_eq_true] at h
 rcases h with h | h
 ·rcases hw with hw | hw <;> simp [hw] at h
 ·unfold JB at h
  rw [List.all_eq_true] at h
  have := h id h1
  simp [h2] at this
structure Tr (P : Program) (ops : Array Oper) (S : Nat → St) (V : Nat → AV) (M : Nat → List Nat × Bool) : Prop where
 one : ∀ (j : Nat) (o : Oper), ops[j]? = some o → One P ops o (S j) (V j) (M j) (S (j + 1))
 mark : ∀ i j, i < j → j < ops.size → ahead ops i j = true ∨ Kq (M i) (M j) = true
 text : ∀ i j (p o : Oper), i < j → ops[i]? = some p → ops[j]? = some o → ahead ops i j = true ∨ H9 ops p o = true
 back : ∀ (j : Nat) (o : Oper), ops[j]? = some o → ∀ e, e ∈ o.after.toList → Region.binds .any e = true → e.on < j
def Closed (ops : Array Oper) (L : Nat → Bool) : Prop := ∀ (j : Nat) (o : Oper), L j = true → ops[j]? = some o → ∀ e, e ∈ o.after.toList → Region.binds .any e = true → L e.on = true
theorem Cv {P : Program} {ops : Array Oper} {S : Nat → St} {V : Nat → AV} {M : Nat → List Nat × Bool} (T : Tr P ops S V M) {L : Nat → Bool} (hL : Closed ops L) : ∀ (j : Nat) (o : Oper), ops[j]? = some o →
  (∀ e, e ∈ o.after.toList → Region.binds .any e = true → L e.on = true) → ∀ i, ahead ops i j = true → L i = true := by
 intro j
 induction j using Nat.strongRecOn with
 | ind j ih =>
  intro o ho he i hi
  have hjl := (Array.getElem?_eq_some_iff.1 ho).1
  obtain ⟨acc', k1, k2⟩ := (Ev ops.toList 0 [] rfl).2 j o (by simpa using ho)
  simp only [Nat.zero_add, Array.length_toList] at k1 k2
  unfold ahead at hi
  rw [k1] at hi
  obtain ⟨e, hm, hb, hi⟩ := Aq hi
  rcases hi with rfl | hi
  ·exact he e hm hb
  ·have hlt := T.back j o ho e hm hb
   have hoe : ops[e.on]? = some (ops[e.on]'(by omega)) := Array.getElem?_eq_getElem (by omega)
   rw [k2 e.on hlt] at hi
   exact ih e.on hlt _ hoe (fun e' hm' hb' => hL e.on _ (he e hm hb) hoe e' hm' hb') i hi
structure SG (m : Nat) (gX : Ro) (gQ : Mu) (w0 : World) (H0 : Hp) (ops : Array Oper) (S : Nat → St) (V : Nat → AV) (M : Nat → List Nat × Bool) (L : Nat → Bool) (ro : Ro) (μ : Mu) (w : World) (a : Act) : Prop where
 good : Good ro μ w (HL (fun j => hp (S j).σ) M L ops.size)
 env : VRs ro μ (EL (S 0).env (fun j => (ops[j]?).bind (·.dst)) V L ops.size) a.tmps
 dom : ∀ id X, μ id = some X → id < (S 0).σ.length ∨ ∃ j, j < ops.size ∧ L j = true ∧ (S j).σ.length ≤ id ∧ id < (S (j + 1)).σ.length
 defers : a.defers = []
 ext : zK gX gQ w0 H0 ro μ w (HL (fun j => hp (S j).σ) M L ops.size)
 keep : ∀ id, id < m → μ id = gQ id
 hm : m ≤ (S 0).σ.length
section
variable {P : Program} {ops : Array Oper} {S : Nat → St} {V : Nat → AV} {M : Nat → List Nat × Bool} {m : Nat} {gX ro : Ro} {gQ μ : Mu} {w0 w : World} {H0 : Hp} {a : Act} {L : Nat → Bool}
theorem Tr.mono (T : Tr P ops S V M) {i : Nat} : ∀ d, i + d ≤ ops.size → (S i).σ.length ≤ (S (i + d)).σ.length
 | 0, _ => Nat.le_refl _
 | d + 1, h => Nat.le_trans (T.mono d (by omega)) (T.one (i + d) _ (Array.getElem?_eq_getElem (by omega))).grow
theorem Tr.mono' (T : Tr P ops S V M) {i j : Nat} (h : i ≤ j) (hj : j ≤ ops.size) : (S i).σ.length ≤ (S j).σ.length := by
 obtain ⟨d, rfl⟩ := Nat.le.dest h
 exact T.mono d hj
theorem Tr.ahy (T : Tr P ops S V M) (j : Nat) (hj : j < ops.size) : (S (j + 1)).env = qX (S j).env ((ops[j]?).bind (·.dst)) (V j) := by
 have ho := Array.getElem?_eq_getElem hj
 rw [ho]
 exact (T.one j _ ho).env
theorem Tr.hps (T : Tr P ops S V M) (j id : Nat) (hj : j < ops.size) (h : id ∉ (M j).1 ∨ (M j).2 = false) : hp (S (j + 1)).σ id = hp (S j).σ id :=
 (T.one j _ (Array.getElem?_eq_getElem hj)).old h
theorem SG.step (T : Tr P ops S V M) (hL : Closed ops L) {i : Nat} {o : Oper} (ho : ops[i]? = some o) (hLi : L i = false) (abG : ∀ e, e ∈ o.after.toList → Region.binds .any e = true → L e.on = true)
  (r : SG m gX gQ w0 H0 ops S V M L ro μ w a) {Q : Exit → Act → World → Prop} {K : Act → World → Prop} (hK : ∀ ro' μ' w' a', SG m gX gQ w0 H0 ops S V M (fun k => k == i || L k) ro' μ' w' a' → K a' w') : wpOp P ops Q i K a w := by
 have hn : i < ops.size := (Array.getElem?_eq_some_iff.1 ho).1
 have hpre : ∀ k, ahead ops k i = true → L k = true := Cv T hL i o ho abG
 have hpost : ∀ k, k < ops.size → L k = true → ahead ops i k = true → False := by
  intro k hk hLk ha
  have hok := Array.getElem?_eq_getElem hk
  have := Cv T hL k _ hok (hL k _ hLk hok) i ha
  rw [hLi] at this; cases this
 have h1 := T.one i o ho
 have XU : ∀ t, t ∈ ug ops o → (EL (S 0).env (fun j => (ops[j]?).bind (·.dst)) V L ops.size)[t]? = (S i).env[t]? := by
  intro t ht
  obtain ⟨d, hd⟩ := Nat.le.dest (Nat.le_of_lt hn)
  rw [← hd, Il d (fun k k1 k2 k3 k4 => ?_)]
  ·refine (Lg (E := fun j => (S j).env) (n := ops.size) rfl (fun j hj => T.ahy j hj) i (by omega) (fun k k1 k2 => ?_)).1
   have hk := Array.getElem?_eq_getElem (xs := ops) (i := k) (by omega)
   rw [hk] at k2
   rcases T.text k i _ o k1 hk ho with q | q
   ·exact hpre k q
   ·exact absurd ht ((H8 q).1 k2)
  ·have hk := Array.getElem?_eq_getElem (xs := ops) (i := k) (by omega)
   rw [hk] at k4
   rcases Nat.lt_or_ge i k with k5 | k5
   ·rcases T.text i k o _ k5 ho hk with q | q
    ·exact hpost k (by omega) k3 q
    ·exact (H8 q).2 k4 ht
   ·have : k = i := by omega
    subst this
    rw [hLi] at k3; cases k3
 have hheap : ∀ id, id ∈ (M i).1 → HL (fun j => hp (S j).σ) M L ops.size id = hp (S i).σ id := by
  intro id hid
  obtain ⟨d, hd⟩ := Nat.le.dest (Nat.le_of_lt hn)
  rw [← hd, Ik d (fun k k1 k2 k3 k4 k5 => ?_)]
  ·refine Le (n := ops.size) (fun j id hj h => T.hps j id hj h) i (by omega) (fun k k1 k2 k3 => ?_)
   rcases T.mark k i k1 hn with q | q
   ·exact hpre k q
   ·exact (Ko q (.inl k2) k3 hid).elim
  ·rcases Nat.lt_or_ge i k with k6 | k6
   ·rcases T.mark i k k6 (by omega) with q | q
    ·exact hpost k (by omega) k3 q
    ·exact Ko q (.inr k4) hid k5
   ·have : k = i := by omega
    subst this
    rw [hLi] at k3; cases k3
 have hput : EL (S 0).env (fun j => (ops[j]?).bind (·.dst)) V (fun k => k == i || L k) ops.size = qX (EL (S 0).env (fun j => (ops[j]?).bind (·.dst)) V L ops.size) o.dst (V i) := by
  rw [ac5 hn hLi (fun k t k1 k2 k3 k4 k5 => ?_), ho]
  ·rfl
  ·have hk := Array.getElem?_eq_getElem k2
   rw [hk] at k5
   rw [ho] at k4
   rcases T.text i k o _ k1 ho hk with q | q
   ·exact hpost k k2 k3 q
   ·exact (H8 q).2 k5 (by unfold ug; simp only [Option.bind_some] at k4; rw [k4]; simp)
 have Z8 : ∀ id, HL (fun j => hp (S j).σ) M (fun k => k == i || L k) ops.size id = if (M i).2 = true ∧ id ∈ (M i).1 then hp (S (i + 1)).σ id else HL (fun j => hp (S j).σ) M L ops.size id := by
  intro id
  refine ac4 (H := fun j => hp (S j).σ) hn hLi (fun k id k1 k2 k3 k4 k5 k6 k7 => ?_) id
  rcases T.mark i k k1 k2 with q | q
  ·exact hpost k k2 k3 q
  ·exact Ko q (.inl k4) k5 k7
 have hdom : ∀ (μ' : Mu), (∀ id, μ' id ≠ μ id → (S i).σ.length ≤ id ∧ id < (S (i + 1)).σ.length) → ∀ id X, μ' id = some X → id < (S 0).σ.length ∨ ∃ j, j < ops.size ∧ (j == i || L j) = true ∧ (S j).σ.length ≤ id ∧ id < (S (j + 1)).σ.length := by
  intro μ' hμ id X hX
  by_cases q : μ' id = μ id
  ·rcases r.dom id X (by rw [← q]; exact hX) with k | ⟨j, k1, k2, k3⟩
   ·exact .inl k
   ·exact .inr ⟨j, k1, by simp [k2], k3⟩
  ·exact .inr ⟨i, hn, by simp, hμ id q⟩
 unfold wpOp
 simp only [ho]
 have hw : Region.wanted o (yielded ops a.tmps) = (match wants ops (S i).env o with | some b => b | none => Region.wanted o (yielded ops a.tmps)) := by
  split
  ·rename_i b hb
   refine pY r.env ?_
   rw [QZ (env := (S i).env) fun t ht => XU t (by unfold ug; simp [ht]), hb]
  ·rfl
 rcases h1.or with ⟨call, v0, hc, hAW, hwant, hop, hmk, _⟩ | ⟨hwant, hv, hσ, hmk⟩
 ·rw [hwant] at hw
  simp only at hw
  rw [hw]
  simp only [if_true]
  obtain ⟨l1, l2, l3⟩ := FE hop
  obtain ⟨σm, e1, e2, e3, e4⟩ := l3 (mask (touches (S i).env (S i).σ o).1 (S i).σ) (yN _ _) (fun id hid => XJ hid)
  simp only at e1
  rw [← Yh (env' := EL (S 0).env (fun j => (ops[j]?).bind (·.dst)) V L ops.size) fun t ht => XU t (by unfold ug; simp [ht])] at e1
  have hin : ∀ id, id ∈ (M i).1 ↔ (id ∈ (touches (S i).env (S i).σ o).1 ∨ ((S i).σ.length ≤ id ∧ id < (S (i + 1)).σ.length)) := by
   intro id
   rw [hmk]
   simp only [marked, List.mem_append, List.mem_range'_1]
   constructor
   ·rintro (h | h)
    ·exact .inl h
    ·exact .inr ⟨h.1, by omega⟩
   ·rintro (h | h)
    ·exact .inl h
    ·exact .inr ⟨h.1, by omega⟩
  have hsub : ∀ id, hp (mask (touches (S i).env (S i).σ o).1 (S i).σ) id = HL (fun j => hp (S j).σ) M L ops.size id ∨ hp (mask (touches (S i).env (S i).σ o).1 (S i).σ) id = .dead := by
   intro id
   rw [KJ]
   split
   ·rename_i hid
    exact .inl (hheap id ((hin id).2 (.inl hid))).symm
   ·exact .inr rfl
  have hfree : ∀ id, (mask (touches (S i).env (S i).σ o).1 (S i).σ).length ≤ id → id < σm.length → μ id = none := by
   intro id k1 k2
   rw [yN] at k1
   rw [e2] at k2
   cases hμ : μ id with
   | none => rfl
   | some X =>
    exfalso
    rcases r.dom id X hμ with k | ⟨j, k3, k4, k5, k6⟩
    ·have := T.mono' (Nat.zero_le i) (by omega); omega
    ·rcases Nat.lt_trichotomy j i with q | q | q
     ·have := T.mono' (i := j + 1) (j := i) (by omega) (by omega); omega
     ·subst q; rw [hLi] at k4; cases k4
     ·have := T.mono' (i := i + 1) (j := j) (by omega) (by omega); omega
  refine .inl (JF hc e1 (r.good.less hsub) hfree r.env ?_)
  intro v ro' μ' w' g1 g2 g3 g4 g5
  rw [yN, e2] at g4
  have hD : ∀ id, ¬ (id ∈ (M i).1) → hp (mask (touches (S i).env (S i).σ o).1 (S i).σ) id = .dead ∧ hp σm id = .dead ∧ μ' id = μ id := by
   intro id hid
   have M9 : ¬ (id ∈ (touches (S i).env (S i).σ o).1 ∨ ((S i).σ.length ≤ id ∧ id < (S (i + 1)).σ.length)) := fun h => hid ((hin id).2 h)
   rw [not_or] at M9
   refine ⟨by rw [KJ, if_neg M9.1], ?_, ?_⟩
   ·by_cases hlt : id < (S i).σ.length
    ·have : σm[id]? = (mask (touches (S i).env (S i).σ o).1 (S i).σ)[id]? := e4 id M9.1 hlt
     have k := KJ (touches (S i).env (S i).σ o).1 (S i).σ id
     rw [if_neg M9.1] at k
     simp only [hp, this] at k ⊢
     exact k
    ·exact sD (by have := M9.2; omega)
   ·by_cases q : μ' id = μ id
    ·exact q
    ·exact absurd (g4 id q) M9.2
  obtain ⟨m1, m2⟩ := Good.merge (fun id => id ∈ (M i).1) r.good hsub hD g2 g3
  have hfin : (fun id => if id ∈ (M i).1 then hp σm id else HL (fun j => hp (S j).σ) M L ops.size id) = HL (fun j => hp (S j).σ) M (fun k => k == i || L k) ops.size := by
   funext id
   rw [Z8 id]
   by_cases hid : id ∈ (M i).1
   ·have : hp σm id = hp (S (i + 1)).σ id := by
     have : σm[id]? = (S (i + 1)).σ[id]? := e3 id (((hin id).1 hid).imp (fun h => h) (fun h => h.1))
     simp only [hp, this]
    rw [if_pos hid, this]
    split
    ·rfl
    ·rename_i hw2
     rw [hheap id hid, T.hps i id hn (.inr (by
      cases hb : (M i).2 with
      | false => rfl
      | true => exact absurd ⟨hb, hid⟩ hw2))]
   ·rw [if_neg hid, if_neg (fun h => hid h.2)]
  rw [hfin] at m1 m2
  refine hK ro' μ' w' _ ⟨m1, ?_, hdom μ' g4, by rw [yF]; exact r.defers, r.ext.trans m2.WA, fun id hi => ?_, r.hm⟩
  ·rw [hput]
   exact zu (r.env.mono g3.mR g3.GI) (hAW _ _ _ g1) o.dst
  ·have q : μ' id = μ id := by
    by_cases q : μ' id = μ id
    ·exact q
    ·have := (g4 id q).1
     have := T.mono' (Nat.zero_le i) (by omega)
     have := r.hm
     omega
   rw [q]; exact r.keep id hi
 ·rw [hwant] at hw
  simp only at hw
  rw [hw]
  simp only [Bool.false_eq_true, if_false]
  have hfin : HL (fun j => hp (S j).σ) M (fun k => k == i || L k) ops.size = HL (fun j => hp (S j).σ) M L ops.size := by
   funext id
   rw [Z8 id, hmk, if_neg (by simp)]
  refine hK ro μ w _ ⟨by rw [hfin]; exact r.good, ?_, hdom μ (fun id q => absurd rfl q), by rw [yF]; exact r.defers, by rw [hfin]; exact r.ext, r.keep, r.hm⟩
  rw [hput, hv]
  exact zu r.env (.tuple [] #[] rfl (fun i x v hx => by simp at hx)) o.dst
end
section
variable {P : Program} {ops : Array Oper} {S : Nat → St} {V : Nat → AV} {M : Nat → List Nat × Bool} {m : Nat} {gX : Ro} {gQ : Mu} {w0 : World} {H0 : Hp}
theorem mem_ready {listed : Array Bool} {i : Nat} : i ∈ Region.ready .any ops listed ↔ i < ops.size ∧ listed.getD i true = false ∧ ∃ o, ops[i]? = some o ∧ ∀ e, e ∈ o.after.toList → Region.binds .any e = true → listed.getD e.on false = true := by
 unfold Region.ready
 simp only [List.mem_filter, List.mem_range, Bool.and_eq_true, Bool.not_eq_true']
 constructor
 ·rintro ⟨h1, h2, h3⟩
  refine ⟨h1, h2, ops[i], Array.getElem?_eq_getElem h1, fun e he hb => ?_⟩
  rw [Array.getElem?_eq_getElem h1] at h3
  simp only [Option.map_some, Option.getD_some, Array.all_eq_true'] at h3
  have := h3 e (Array.mem_toList_iff.1 he)
  rw [hb] at this
  simpa using this
 ·rintro ⟨h1, h2, o, ho, h3⟩
  refine ⟨h1, h2, ?_⟩
  rw [ho]
  simp only [Option.map_some, Option.getD_some, Array.all_eq_true']
  intro e he
  by_cases hb : Region.binds .any e = true
  ·rw [h3 e (Array.mem_toList_iff.2 he) hb]; simp
  ·simp [hb]
theorem PU (T : Tr P ops S V M) {listed : Array Bool} (hs : listed.size = ops.size) (h : Region.ready .any ops listed = []) : ∀ i, i < ops.size → listed.getD i false = true := by
 intro i
 induction i using Nat.strongRecOn with
 | ind i ih =>
  intro hi
  cases hc : listed.getD i false with
  | true => rfl
  | false =>
   exfalso
   have : i ∈ Region.ready .any ops listed := mem_ready.2 ⟨hi, by simp [Array.getD, hs, hi] at hc ⊢; exact hc, ops[i], Array.getElem?_eq_getElem hi, fun e he hb => by
    have := T.back i _ (Array.getElem?_eq_getElem hi) e he hb
    exact ih e.on this (by omega)⟩
   rw [h] at this
   cases this
def u6 (n : Nat) (listed : Array Bool) : Nat := ((List.range n).filter fun i => !listed.getD i false).length
theorem JX {listed : Array Bool} {n i : Nat} (hs : listed.size = n) (hi : i < n) (hl : listed.getD i false = false) : u6 n (listed.setIfInBounds i true) < u6 n listed := by
 unfold u6
 have key : ∀ l : List Nat, l.Nodup → ((l.filter fun k => !(listed.setIfInBounds i true).getD k false).length ≤ (l.filter fun k => !listed.getD k false).length) ∧ (i ∈ l → (l.filter fun k => !(listed.setIfInBounds i true).getD k false).length < (l.filter fun k => !listed.getD k false).length) := by
  intro l hnd
  induction l with
  | nil => simp
  | cons k l ih =>
   rw [List.nodup_cons] at hnd
   obtain ⟨h1, h2⟩ := ih hnd.2
   by_cases e : k = i
   ·subst e
    have a1 : (listed.setIfInBounds k true).getD k false = true := by simp [Array.getD, hs, hi]
    simp only [List.filter_cons, a1, hl, Bool.not_true, Bool.not_false, Bool.false_eq_true, if_false, if_true, List.length_cons]
    exact ⟨by omega, fun _ => by omega⟩
   ·have a1 : (listed.setIfInBounds i true).getD k false = listed.getD k false := by
     simp only [Array.getD_eq_getD_getElem?, Array.getElem?_setIfInBounds]
     rw [if_neg (fun h => e h.symm)]
    simp only [List.filter_cons, a1, List.mem_cons]
    split
    ·simp only [List.length_cons]
     exact ⟨by omega, fun h => by have := h2 (h.resolve_left fun q => e q.symm); omega⟩
    ·exact ⟨h1, fun h => h2 (h.resolve_left fun q => e q.symm)⟩
 exact (key (List.range n) List.nodup_range).2 (List.mem_range.2 hi)
theorem Vw {listed : Array Bool} {n i : Nat} (hs : listed.size = n) (hi : i < n) (k : Nat) : (listed.setIfInBounds i true).getD k false = (k == i || listed.getD k false) := by
 simp only [Array.getD_eq_getD_getElem?, Array.getElem?_setIfInBounds]
 by_cases e : k = i
 ·subst e
  simp [hs, hi]
 ·have : (k == i) = false := by simpa using e
  rw [if_neg (fun h => e h.symm), this, Bool.false_or]
theorem Sy (T : Tr P ops S V M) {Q : Exit → Act → World → Prop} (hQ : ∀ a' w', Ends m gX gQ w0 H0 (S ops.size) a' w' → Q .normal a' w') : ∀ (fuel : Nat) (listed : Array Bool) (ro : Ro) (μ : Mu) (w : World) (a : Act), listed.size = ops.size → u6 ops.size listed ≤ fuel →
  Closed ops (fun k => listed.getD k false) → SG m gX gQ w0 H0 ops S V M (fun k => listed.getD k false) ro μ w a → wpAny P .any ops Q fuel listed a w := by
 have done : ∀ (listed : Array Bool) (ro : Ro) (μ : Mu) (w : World) (a : Act), listed.size = ops.size → SG m gX gQ w0 H0 ops S V M (fun k => listed.getD k false) ro μ w a → Region.ready .any ops listed = [] → Q .normal a w := by
  intro listed ro μ w a hs hr hrd
  have hall := PU T hs hrd
  have e1 : EL (S 0).env (fun j => (ops[j]?).bind (·.dst)) V (fun k => listed.getD k false) ops.size = (S ops.size).env := by
   apply List.ext_getElem?
   intro t
   exact (Lg (E := fun j => (S j).env) (n := ops.size) rfl (fun j hj => T.ahy j hj) ops.size (Nat.le_refl _) (fun k hk _ => hall k hk)).1
  have e2 : HL (fun j => hp (S j).σ) M (fun k => listed.getD k false) ops.size = hp (S ops.size).σ := by
   funext id
   exact Le (n := ops.size) (fun j id hj h => T.hps j id hj h) ops.size (Nat.le_refl _) (fun k hk _ _ => hall k hk)
  refine hQ a w ⟨ro, μ, by rw [← e2]; exact hr.good, by rw [← e1]; exact hr.env, fun id X hX => ?_, hr.defers, by rw [← e2]; exact hr.ext, hr.keep, Nat.le_trans hr.hm (T.mono' (Nat.zero_le _) (Nat.le_refl _))⟩
  rcases hr.dom id X hX with k | ⟨j, k1, _, _, k2⟩
  ·have := T.mono' (Nat.zero_le ops.size) (Nat.le_refl _); omega
  ·have := T.mono' (i := j + 1) (j := ops.size) (by omega) (Nat.le_refl _); omega
 intro fuel
 induction fuel with
 | zero =>
  intro listed ro μ w a hs hu hcl hr
  have hrd : Region.ready .any ops listed = [] := by
   rw [List.eq_nil_iff_forall_not_mem]
   intro i hi
   obtain ⟨h1, h2, _⟩ := mem_ready.1 hi
   have : i ∈ (List.range ops.size).filter fun i => !listed.getD i false := by
    rw [List.mem_filter]
    refine ⟨List.mem_range.2 h1, ?_⟩
    simp only [Array.getD, hs, h1, dite_true] at h2 ⊢
    simp only [h2, Bool.not_false]
   have hlen := List.length_pos_of_mem this
   unfold u6 at hu
   omega
  exact ⟨hrd, done listed ro μ w a hs hr hrd⟩
 | succ fuel ih =>
  intro listed ro μ w a hs hu hcl hr
  refine ⟨done listed ro μ w a hs hr, fun i hi => ?_⟩
  obtain ⟨h1, h2, o, ho, h3⟩ := mem_ready.1 hi
  have hli : listed.getD i false = false := by
   simp only [Array.getD, hs, h1, dite_true] at h2 ⊢
   exact h2
  refine SG.step T hcl ho hli h3 hr fun ro' μ' w' a' hr' => ?_
  have eL : (fun k => (listed.setIfInBounds i true).getD k false) = fun k => k == i || listed.getD k false := by
   funext k
   exact Vw hs h1 k
  refine ih _ ro' μ' w' a' (by simp [hs]) (by have := JX hs h1 hli; omega) ?_ (by rw [eL]; exact hr')
  rw [eL]
  intro j p hj hp' e he hb
  simp only [Bool.or_eq_true, beq_iff_eq] at hj ⊢
  rcases hj with rfl | hj
  ·rw [ho] at hp'
   simp only [Option.some.injEq] at hp'
   subst hp'
   exact .inr (h3 e he hb)
  ·exact .inr (hcl j p hj hp' e he hb)
end
theorem acH {P : Program} (m : Nat) (gX : Ro) (gQ : Mu) (w0 : World) (H0 : Hp) (Q : Exit → Act → World → Prop) (ops : Array Oper) (id : Nat) (s s' : St) (l : List (List Nat × Bool)) (ro : Ro) (μ : Mu) (w : World) (a : Act)
 (hT : RunT P ops ops.toList s s' l) (hok : (kK ops l && F6 P ops) = true) (hrel : Rel m gX gQ w0 H0 ro μ w s a)
  (hQ : ∀ a' w', Ends m gX gQ w0 H0 s' a' w' → Q .normal a' w') : (Code.region id ops true).wp P Q a w := by
 rw [Bool.and_eq_true] at hok
 obtain ⟨hun, htx⟩ := hok
 unfold F6 at htx
 rw [Bool.and_eq_true] at htx
 obtain ⟨amC, htx⟩ := htx
 rw [List.all_eq_true] at htx
 obtain ⟨S, V, M, k0, k1, k2, k3⟩ := trace ops.toList s s' l hT
 simp only [Array.length_toList, Array.getElem?_toList] at k1 k2 k3
 have hmk : ∀ j, j < ops.size → l.getD j ([], true) = M j := by
  intro j hj
  rw [List.getD_eq_getElem?_getD, (k3 j _ (Array.getElem?_eq_getElem hj)).1]
  rfl
 have tx : ∀ (j : Nat) (o : Oper), ops[j]? = some o → (∀ e, e ∈ o.after.toList → Region.binds .any e = true → e.on < j) ∧ ∀ (i : Nat) (p : Oper), i < j → ops[i]? = some p → ahead ops i j = true ∨ H9 ops p o = true := by
  intro j o ho
  have := htx j (List.mem_range.2 (Array.getElem?_eq_some_iff.1 ho).1)
  rw [ho] at this
  simp only [Bool.and_eq_true, List.all_eq_true, Bool.or_eq_true, Bool.not_eq_true', decide_eq_true_eq] at this
  refine ⟨fun e he hb => ?_, fun i p hij hi => ?_⟩
  ·rcases this.1 e he with q | q
   ·rw [hb] at q; cases q
   ·exact q
  ·have := this.2 i (List.mem_range.2 hij)
   rw [hi] at this
   simpa using this
 have T : Tr P ops S V M := {
  one := fun j o ho => (k3 j o ho).2
  mark := fun i j hij hj => by
   unfold kK at hun
   simp only [List.all_eq_true, List.mem_range] at hun
   have := hun j (by omega) i hij
   rw [hmk i (by omega), hmk j hj, Bool.or_eq_true] at this
   exact this
  text := fun i j p o hij hi hj => (tx j o hj).2 i p hij hi
  back := fun j o ho => (tx j o ho).1 }
 obtain ⟨g, x⟩ := Rel.drawn (w.drawn + 1) hrel.good hrel.ext
 refine wp_region_any amC (Sy T (m := m) (gX := gX) (gQ := gQ) (w0 := w0) (H0 := H0) (Q := Q) (by rw [k1]; exact hQ) ops.size _ ro μ _ a (by simp) ?_ ?_ ?_)
 ·unfold u6
  exact Nat.le_trans (List.length_filter_le _ _) (by simp)
 ·intro j o hj
  exfalso
  simp [Array.getD] at hj
 ·have e1 : ∀ n, EL (S 0).env (fun j => (ops[j]?).bind (·.dst)) V (fun k => (Array.replicate ops.size false).getD k false) n = (S 0).env := by
   intro n
   induction n with
   | zero => rfl
   | succ n ih =>
    have : (Array.replicate ops.size false).getD n false = false := by simp [Array.getD]
    simp only [EL, this, Bool.false_eq_true, if_false]
    exact ih
  have e2 : ∀ n, HL (fun j => hp (S j).σ) M (fun k => (Array.replicate ops.size false).getD k false) n = hp (S 0).σ := by
   intro n
   induction n with
   | zero => rfl
   | succ n ih =>
    have : (Array.replicate ops.size false).getD n false = false := by simp [Array.getD]
    simp only [HL, this, Bool.false_eq_true, false_and, if_false]
    exact ih
  refine ⟨by rw [e2, k0]; exact g, by rw [e1, k0]; exact hrel.env, fun id X hX => .inl (by rw [k0]; exact hrel.dom id X hX), hrel.defers, by rw [e2, k0]; exact x, hrel.keep, by rw [k0]; exact hrel.hm⟩
end Lv
