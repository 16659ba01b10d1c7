/- Calls. -/
import Derived.Test.YtddopjhkmkoicaaGreatDoorLvRe
/- Calls. -/
namespace Lv
open Go
set_option linter.unusedVariables false
set_option linter.unusedSimpArgs false
set_option linter.unusedSectionVars false
variable [BaseTab]
def A8 (P : Program) (call : Callee) : Prop := ∀ (f : FuncId) (args : List AV) (σ : List Ob) (r : AV) (σ' : List Ob), call f args σ = some (r, σ') →
 ∀ (ro : Ro) (μ : Mu) (w : World) (cargs : Array Value), Good ro μ w (hp σ) → (∀ id L, μ id = some L → id < σ.length) → VRs ro μ args cargs →
  Calls P f cargs w (fun e w' => ∃ v ro' μ', e = .returned v ∧ VR ro' μ' r v ∧ Good ro' μ' w' (hp σ') ∧ zK ro μ w (hp σ) ro' μ' w' (hp σ') ∧ (∀ id L, μ' id = some L → id < σ'.length) ∧ (∀ id, id < σ.length → μ' id = μ id))
theorem eO : ∀ (ι : List Nat) (os σ : List Ob), (jd σ ι os).length = σ.length
 | [], os, σ => by cases os <;> rfl
 | i :: ι, [], σ => rfl
 | i :: ι, o :: os, σ => by simp [jd, eO ι os]
theorem rO : ∀ (ι : List Nat) (os σ : List Ob) (i : Nat), i ∉ ι → (jd σ ι os)[i]? = σ[i]?
 | [], os, σ, i, _ => by cases os <;> rfl
 | j :: ι, [], σ, i, _ => rfl
 | j :: ι, o :: os, σ, i, h => by
  simp only [List.mem_cons, not_or] at h
  simp only [jd]
  rw [rO ι os _ i h.2, List.getElem?_set, if_neg (fun e => h.1 e.symm)]
theorem za : ∀ (ι : List Nat) (os σ : List Ob) (k i : Nat) (o : Ob), ι.Nodup → ι[k]? = some i → os[k]? = some o → i < σ.length → (jd σ ι os)[i]? = some o
 | [], os, σ, k, i, o, _, h, _, _ => by simp at h
 | j :: ι, [], σ, k, i, o, _, _, h, _ => by simp at h
 | j :: ι, p :: os, σ, k, i, o, hn, h1, h2, hi => by
  rw [List.nodup_cons] at hn
  simp only [jd]
  cases k with
  | zero =>
   simp at h1 h2
   subst h1; subst h2
   rw [rO ι os _ _ hn.1, List.getElem?_set]
   simp [hi]
  | succ k => exact za ι os _ k i o hn.2 (by simpa using h1) (by simpa using h2) (by simpa using hi)
theorem wJ {g : Nat → Option Nat} : ∀ {l os : List Ob}, oF g l = some os → os.length = l.length
 | [], os, h => by simp only [oF, Option.some.injEq] at h; subst h; rfl
 | o :: l, os, h => by
  simp only [oF] at h
  split at h
  ·rename_i y ys h1 h2
   simp only [Option.some.injEq] at h; subst h
   simp [wJ h2]
  ·cases h
theorem zh {g : Nat → Option Nat} : ∀ {l os : List Ob}, oF g l = some os → ∀ (k : Nat) (o' : Ob), os[k]? = some o' → ∃ o, l[k]? = some o ∧ o.re g = some o'
 | [], os, h, k, o', hk => by simp only [oF, Option.some.injEq] at h; subst h; simp at hk
 | o :: l, os, h, k, o', hk => by
  simp only [oF] at h
  split at h
  ·rename_i y ys h1 h2
   simp only [Option.some.injEq] at h; subst h
   cases k with
   | zero => simp at hk; subst hk; exact ⟨o, rfl, h1⟩
   | succ k => simpa using zh h2 k o' (by simpa using hk)
  ·cases h
theorem wU {P : Program} {call : Callee} (hc : A8 P call) {f : FuncId} {args : List AV} {σ σ2 : List Ob} {r : AV} (h : nk call f args σ = some (r, σ2)) {ro : Ro} {μ : Mu} {w : World} {cargs : Array Value}
  (g : Good ro μ w (hp σ)) (hfree : ∀ id, σ.length ≤ id → id < σ2.length → μ id = none) (ha : VRs ro μ args cargs) :
  σ.length ≤ σ2.length ∧ Calls P f cargs w (fun e w' => ∃ v ro' μ', e = .returned v ∧ VR ro' μ' r v ∧ Good ro' μ' w' (hp σ2) ∧ Ext ro μ w (hp σ) ro' μ' w' (hp σ2) ∧ (∀ id, μ' id ≠ μ id → σ.length ≤ id ∧ id < σ2.length)) := by
 unfold nk at h
 split at h
 ·rename_i ι lT hcan
  split at h
  ·rename_i args' hargs
   split at h
   ·rename_i r' σ' hcall
    split at h
    ·rename_i r2 os hr hos
     split at h
     ·rename_i hlen
      simp only [Option.some.injEq, Prod.mk.injEq] at h
      obtain ⟨rfl, rfl⟩ := h
      obtain ⟨hnd, afD, hsub, hK⟩ := yT hcan
      have ag0 := wJ hos
      have Z9 : (jd σ ι (os.take ι.length) ++ os.drop ι.length).length = σ.length + (σ'.length - ι.length) := by simp [eO, ag0]
      have hι : ∀ (k i : Nat), ι[k]? = some i → i < σ.length := by
       intro k i hk
       obtain ⟨o, o', h1, _⟩ := hsub k i hk
       exact bE h1
      refine ⟨by rw [Z9]; omega, ?_⟩
      -- the callee's world
      have gc : Good ro (Ap μ ι) w (hp lT) := g.re qm hK
      have hdom : ∀ id L, Ap μ ι id = some L → id < lT.length := by
       intro id L hL
       simp only [Ap] at hL
       split at hL
       ·rename_i i hi; rw [afD]; exact bE hi
       ·cases hL
      refine (hc f args' lT r' σ' hcall ro (Ap μ ι) w cargs gc hdom (Wn qm ha hargs)).mono ?_
      rintro e w' ⟨v, ro', NV, rfl, hv, g1, x1, hd1, hk1⟩
      -- back
      let σ2 := jd σ ι (os.take ι.length) ++ os.drop ι.length
      have amQ : σ2.length = σ.length + (σ'.length - ι.length) := Z9
      let Lp : Mu := fun id => if σ.length ≤ id ∧ id < σ2.length then NV (ι.length + (id - σ.length)) else μ id
      have hlen' : ι.length ≤ σ'.length := by rw [← ag0]; exact hlen
      have hg : ∀ j id, jf ι σ.length σ'.length j = some id → Lp id = NV j := by
       intro j id hj
       simp only [jf] at hj
       split at hj
       ·rename_i hjm
        have hid := hι j id hj
        simp only [Lp]
        rw [if_neg (by omega), hk1 j (by rw [afD]; exact hjm)]
        simp only [Ap, hj]
       ·split at hj
        ·simp only [Option.some.injEq] at hj
         subst hj
         simp only [Lp]
         rw [if_pos (by omega)]
         congr 1
         omega
        ·cases hj
      let D : Nat → Prop := fun id => id ∈ ι ∨ (σ.length ≤ id ∧ id < σ2.length)
      have aod : DecidablePred D := fun id => inferInstanceAs (Decidable (_ ∨ _))
      let H1 : Hp := fun id => if id ∈ ι then hp σ id else .dead
      let H2 : Hp := fun id => if D id then hp σ2 id else .dead
      have hup : ∀ i L, μ i = some L → Lp i = some L := by
       intro i L hL
       simp only [Lp]
       split
       ·rename_i hi
        rw [hfree i hi.1 hi.2] at hL; cases hL
       ·exact hL
      have XQ : ∀ k i, ι[k]? = some i → hp σ2 i = hp os k := by
       intro k i hk
       have hi := hι k i hk
       have hkl := bE hk
       have hko : k < os.length := by omega
       have e1 : (os.take ι.length)[k]? = some os[k] := by rw [List.getElem?_take, if_pos hkl, List.getElem?_eq_getElem hko]
       have e2 := za ι (os.take ι.length) σ k i _ hnd hk e1 hi
       have e3 : σ2[i]? = some os[k] := by
        simp only [σ2]
        rw [List.getElem?_append_left (by rw [eO]; exact hi), e2]
       rw [dI e3, dI (List.getElem?_eq_getElem hko)]
      have Vu : ∀ id, σ.length ≤ id → hp σ2 id = hp os (ι.length + (id - σ.length)) := by
       intro id hid
       simp only [hp, σ2]
       rw [List.getElem?_append_right (by rw [eO]; exact hid), List.getElem?_drop, eO]
      have Vt : ∀ id, id < σ.length → id ∉ ι → hp σ2 id = hp σ id := by
       intro id hid hn
       simp only [hp, σ2]
       rw [List.getElem?_append_left (by rw [eO]; exact hid), rO ι _ σ id hn]
      have ag1 : ∀ j, (hp os j).live = true → j < σ'.length ∧ (hp σ' j).re (jf ι σ.length σ'.length) = some (hp os j) := by
       intro j hl
       have hj : j < os.length := by
        rcases Nat.lt_or_ge j os.length with q | q
        ·exact q
        ·rw [sD q] at hl; simp [Ob.live] at hl
       obtain ⟨o, h1, h2⟩ := zh hos j _ (List.getElem?_eq_getElem hj)
       refine ⟨by omega, ?_⟩
       rw [dI h1, dI (List.getElem?_eq_getElem hj)]
       exact h2
      have hK2 : ∀ id, (H2 id).live = true → ∃ j, jf ι σ.length σ'.length j = some id ∧ (hp σ' j).re (jf ι σ.length σ'.length) = some (H2 id) := by
       intro id hl
       simp only [H2] at hl ⊢
       by_cases hD : D id
       ·rw [if_pos hD] at hl ⊢
        rcases hD with hin | hnew
        ·obtain ⟨k, hk⟩ := List.getElem?_of_mem hin
         rw [XQ k id hk] at hl ⊢
         refine ⟨k, ?_, (ag1 k hl).2⟩
         simp only [jf]
         rw [if_pos (bE hk), hk]
        ·rw [Vu id hnew.1] at hl ⊢
         refine ⟨ι.length + (id - σ.length), ?_, (ag1 _ hl).2⟩
         simp only [jf]
         rw [if_neg (by omega), if_pos (by omega)]
         congr 1
         omega
       ·rw [if_neg hD] at hl; simp [Ob.live] at hl
      have g2 : Good ro' Lp w' H2 := g1.re hg hK2
      -- what the callee might write is what the caller lent
      have abF : ∀ b, WB (hp lT) (Ap μ ι) b → WB H1 μ b := by
       rintro b ⟨j, L, q1, q2, q3⟩
       obtain ⟨i, k1, k2⟩ := hK j (Ob.fO q1)
       rw [qm i j k1] at q2
       refine ⟨i, L, ?_, q2, q3⟩
       have : i ∈ ι := List.mem_of_getElem? (uS k1)
       simp only [H1, this, if_true]
       rw [← (Ob.Gu k2).1]; exact q1
      have amD : ∀ b, LB (hp lT) (Ap μ ι) b → LB H1 μ b := by
       rintro b ⟨j, L, q1, q2, q3⟩
       obtain ⟨i, k1, k2⟩ := hK j q1
       rw [qm i j k1] at q2
       refine ⟨i, L, ?_, q2, q3⟩
       have : i ∈ ι := List.mem_of_getElem? (uS k1)
       simp only [H1, this, if_true]
       rw [← (Ob.Gu k2).2]; exact q1
      have x2 : Ext ro μ w H1 ro' Lp w' H2 := by
       refine ⟨hup, x1.mR, fun a v ha => ?_, fun b hb => ?_, fun b hb => ?_, fun b hb hn => x1.frame b hb (fun q => hn (abF b q)), x1.size, x1.os, x1.tape, x1.output⟩
       ·rcases x1.tN a v ha with q | q | q
        ·exact .inl q
        ·exact .inr (.inl q)
        ·exact .inr (.inr (abF _ q))
       ·exact (x1.oD b (hb.re hg hK2)).imp (fun z => z) (abF b)
       ·exact (x1.uh b (hb.re hg hK2)).imp (fun z => z) (amD b)
      have afC : ∀ id, H1 id = hp σ id ∨ H1 id = .dead := by
       intro id
       simp only [H1]
       split
       ·exact .inl rfl
       ·exact .inr rfl
      have hD1 : ∀ id, ¬ D id → H1 id = .dead ∧ H2 id = .dead ∧ Lp id = μ id := by
       intro id hd
       refine ⟨?_, ?_, ?_⟩
       ·simp only [H1]; rw [if_neg (fun q => hd (.inl q))]
       ·simp only [H2]; rw [if_neg hd]
       ·simp only [Lp]; rw [if_neg (fun q => hd (.inr q))]
      obtain ⟨g3, x3⟩ := g.merge D afC hD1 g2 x2
      have heq : (fun id => if D id then H2 id else hp σ id) = hp σ2 := by
       funext id
       by_cases hD : D id
       ·rw [if_pos hD]; simp only [H2]; rw [if_pos hD]
       ·rw [if_neg hD]
        rcases Nat.lt_or_ge id σ.length with q | q
        ·exact (Vt id q (fun hin => hD (.inl hin))).symm
        ·have q2 : σ2.length ≤ id := by
          rcases Nat.lt_or_ge id σ2.length with q3 | q3
          ·exact absurd (.inr ⟨q, q3⟩) hD
          ·exact q3
         rw [sD q, sD q2]
      rw [heq] at g3 x3
      refine ⟨v, ro', Lp, rfl, NG hg hv _ hr, g3, x3, fun id hne => ?_⟩
      simp only [Lp] at hne
      split at hne
      ·rename_i hi; exact hi
      ·exact absurd rfl hne
     ·cases h
    ·cases h
   ·cases h
  ·cases h
 ·cases h
end Lv
