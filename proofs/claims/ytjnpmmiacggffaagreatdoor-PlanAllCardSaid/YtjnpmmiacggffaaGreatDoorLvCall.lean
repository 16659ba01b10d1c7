/- Calls. -/
import Derived.Test.YtjnpmmiacggffaaGreatDoorLvRe
/- Calls. -/
namespace Lv
open Go
set_option linter.unusedVariables false
set_option linter.unusedSimpArgs false
set_option linter.unusedSectionVars false
variable [bJ]
def Dv (P : Program) (call : Callee) : Prop := ∀ (f : FuncId) (args : List AV) (σ : List Ob) (r : AV) (σ' : List Ob), call f args σ = some (r, σ') →
 ∀ (ro : Ro) (μ : Mu) (w : World) (gF : Array Value), Good ro μ w (hp σ) → (∀ id L, μ id = some L → id < σ.length) → oZ ro μ args gF →
  Calls P f gF w (fun e w' => ∃ v ro' μ', e = .returned v ∧ VR ro' μ' r v ∧ Good ro' μ' w' (hp σ') ∧ BP ro μ w (hp σ) ro' μ' w' (hp σ') ∧ (∀ id L, μ' id = some L → id < σ'.length) ∧ (∀ id, id < σ.length → μ' id = μ id))
theorem fQ : ∀ (ι : List Nat) (os σ : List Ob), (jq σ ι os).length = σ.length
 | [], os, σ => by cases os <;> rfl
 | i :: ι, [], σ => rfl
 | i :: ι, o :: os, σ => by simp [jq, fQ ι os]
theorem tQ : ∀ (ι : List Nat) (os σ : List Ob) (i : Nat), i ∉ ι → (jq σ ι os)[i]? = σ[i]?
 | [], os, σ, i, _ => by cases os <;> rfl
 | j :: ι, [], σ, i, _ => rfl
 | j :: ι, o :: os, σ, i, h => by
  simp only [List.mem_cons, not_or] at h
  simp only [jq]
  rw [tQ ι os _ i h.2, List.getElem?_set, if_neg (fun e => h.1 e.symm)]
theorem Bl : ∀ (ι : List Nat) (os σ : List Ob) (k i : Nat) (o : Ob), ι.Nodup → ι[k]? = some i → os[k]? = some o → i < σ.length → (jq σ ι os)[i]? = some o
 | [], os, σ, k, i, o, _, h, _, _ => by simp at h
 | j :: ι, [], σ, k, i, o, _, _, h, _ => by simp at h
 | j :: ι, p :: os, σ, k, i, o, hn, h1, h2, hi => by
  rw [List.nodup_cons] at hn
  simp only [jq]
  cases k with
  | zero =>
   simp at h1 h2
   subst h1; subst h2
   rw [tQ ι os _ _ hn.1, List.getElem?_set]
   simp [hi]
  | succ k => exact Bl ι os _ k i o hn.2 (by simpa using h1) (by simpa using h2) (by simpa using hi)
theorem yC {g : Nat → Option Nat} : ∀ {l os : List Ob}, oN g l = some os → os.length = l.length
 | [], os, h => by simp only [oN, Option.some.injEq] at h; subst h; rfl
 | o :: l, os, h => by
  simp only [oN] at h
  split at h
  ·rename_i y ys h1 h2
   simp only [Option.some.injEq] at h; subst h
   simp [yC h2]
  ·cases h
theorem Bt {g : Nat → Option Nat} : ∀ {l os : List Ob}, oN g l = some os → ∀ (k : Nat) (o' : Ob), os[k]? = some o' → ∃ o, l[k]? = some o ∧ o.re g = some o'
 | [], os, h, k, o', hk => by simp only [oN, Option.some.injEq] at h; subst h; simp at hk
 | o :: l, os, h, k, o', hk => by
  simp only [oN] at h
  split at h
  ·rename_i y ys h1 h2
   simp only [Option.some.injEq] at h; subst h
   cases k with
   | zero => simp at hk; subst hk; exact ⟨o, rfl, h1⟩
   | succ k => simpa using Bt h2 k o' (by simpa using hk)
  ·cases h
theorem yP {P : Program} {call : Callee} (hc : Dv P call) {f : FuncId} {args : List AV} {σ σ2 : List Ob} {r : AV} (h : oF call f args σ = some (r, σ2)) {ro : Ro} {μ : Mu} {w : World} {gF : Array Value}
  (g : Good ro μ w (hp σ)) (hfree : ∀ id, σ.length ≤ id → id < σ2.length → μ id = none) (ha : oZ ro μ args gF) :
  σ.length ≤ σ2.length ∧ Calls P f gF w (fun e w' => ∃ v ro' μ', e = .returned v ∧ VR ro' μ' r v ∧ Good ro' μ' w' (hp σ2) ∧ Ext ro μ w (hp σ) ro' μ' w' (hp σ2) ∧ (∀ id, μ' id ≠ μ id → σ.length ≤ id ∧ id < σ2.length)) := by
 unfold oF at h
 split at h
 ·rename_i ι lM hcan
  split at h
  ·rename_i args' hargs
   split at h
   ·rename_i r' σ' hcall
    split at h
    ·rename_i r2 os hr hos
     split at h
     ·rename_i hlen
      simp only [Option.some.injEq, Prod.mk.injEq] at h
      obtain ⟨rfl, rfl⟩ := h
      obtain ⟨hnd, ahU, hsub, hK⟩ := A8 hcan
      have aiZ := yC hos
      have ac9 : (jq σ ι (os.take ι.length) ++ os.drop ι.length).length = σ.length + (σ'.length - ι.length) := by simp [fQ, aiZ]
      have hι : ∀ (k i : Nat), ι[k]? = some i → i < σ.length := by
       intro k i hk
       obtain ⟨o, o', h1, _⟩ := hsub k i hk
       exact bU h1
      refine ⟨by rw [ac9]; omega, ?_⟩
      -- the callee's world
      have gc : Good ro (C8 μ ι) w (hp lM) := g.re rQ hK
      have hdom : ∀ id L, C8 μ ι id = some L → id < lM.length := by
       intro id L hL
       simp only [C8] at hL
       split at hL
       ·rename_i i hi; rw [ahU]; exact bU hi
       ·cases hL
      refine (hc f args' lM r' σ' hcall ro (C8 μ ι) w gF gc hdom (Yo rQ ha hargs)).mono ?_
      rintro e w' ⟨v, ro', Qt, rfl, hv, g1, x1, hd1, hk1⟩
      -- back
      let σ2 := jq σ ι (os.take ι.length) ++ os.drop ι.length
      have apP : σ2.length = σ.length + (σ'.length - ι.length) := ac9
      let Ot : Mu := fun id => if σ.length ≤ id ∧ id < σ2.length then Qt (ι.length + (id - σ.length)) else μ id
      have hlen' : ι.length ≤ σ'.length := by rw [← aiZ]; exact hlen
      have hg : ∀ j id, ji ι σ.length σ'.length j = some id → Ot id = Qt j := by
       intro j id hj
       simp only [ji] at hj
       split at hj
       ·rename_i hjm
        have hid := hι j id hj
        simp only [Ot]
        rw [if_neg (by omega), hk1 j (by rw [ahU]; exact hjm)]
        simp only [C8, hj]
       ·split at hj
        ·simp only [Option.some.injEq] at hj
         subst hj
         simp only [Ot]
         rw [if_pos (by omega)]
         congr 1
         omega
        ·cases hj
      let D : Nat → Prop := fun id => id ∈ ι ∨ (σ.length ≤ id ∧ id < σ2.length)
      have aru : DecidablePred D := fun id => inferInstanceAs (Decidable (_ ∨ _))
      let H1 : Hp := fun id => if id ∈ ι then hp σ id else .dead
      let H2 : Hp := fun id => if D id then hp σ2 id else .dead
      have hup : ∀ i L, μ i = some L → Ot i = some L := by
       intro i L hL
       simp only [Ot]
       split
       ·rename_i hi
        rw [hfree i hi.1 hi.2] at hL; cases hL
       ·exact hL
      have ZI : ∀ k i, ι[k]? = some i → hp σ2 i = hp os k := by
       intro k i hk
       have hi := hι k i hk
       have hkl := bU hk
       have hko : k < os.length := by omega
       have e1 : (os.take ι.length)[k]? = some os[k] := by rw [List.getElem?_take, if_pos hkl, List.getElem?_eq_getElem hko]
       have e2 := Bl ι (os.take ι.length) σ k i _ hnd hk e1 hi
       have e3 : σ2[i]? = some os[k] := by
        simp only [σ2]
        rw [List.getElem?_append_left (by rw [fQ]; exact hi), e2]
       rw [eG e3, eG (List.getElem?_eq_getElem hko)]
      have XE : ∀ id, σ.length ≤ id → hp σ2 id = hp os (ι.length + (id - σ.length)) := by
       intro id hid
       simp only [hp, σ2]
       rw [List.getElem?_append_right (by rw [fQ]; exact hid), List.getElem?_drop, fQ]
      have XD : ∀ id, id < σ.length → id ∉ ι → hp σ2 id = hp σ id := by
       intro id hid hn
       simp only [hp, σ2]
       rw [List.getElem?_append_left (by rw [fQ]; exact hid), tQ ι _ σ id hn]
      have ai0 : ∀ j, (hp os j).live = true → j < σ'.length ∧ (hp σ' j).re (ji ι σ.length σ'.length) = some (hp os j) := by
       intro j hl
       have hj : j < os.length := by
        rcases Nat.lt_or_ge j os.length with q | q
        ·exact q
        ·rw [uF q] at hl; simp [Ob.live] at hl
       obtain ⟨o, h1, h2⟩ := Bt hos j _ (List.getElem?_eq_getElem hj)
       refine ⟨by omega, ?_⟩
       rw [eG h1, eG (List.getElem?_eq_getElem hj)]
       exact h2
      have hK2 : ∀ id, (H2 id).live = true → ∃ j, ji ι σ.length σ'.length j = some id ∧ (hp σ' j).re (ji ι σ.length σ'.length) = some (H2 id) := by
       intro id hl
       simp only [H2] at hl ⊢
       by_cases hD : D id
       ·rw [if_pos hD] at hl ⊢
        rcases hD with hin | hnew
        ·obtain ⟨k, hk⟩ := List.getElem?_of_mem hin
         rw [ZI k id hk] at hl ⊢
         refine ⟨k, ?_, (ai0 k hl).2⟩
         simp only [ji]
         rw [if_pos (bU hk), hk]
        ·rw [XE id hnew.1] at hl ⊢
         refine ⟨ι.length + (id - σ.length), ?_, (ai0 _ hl).2⟩
         simp only [ji]
         rw [if_neg (by omega), if_pos (by omega)]
         congr 1
         omega
       ·rw [if_neg hD] at hl; simp [Ob.live] at hl
      have g2 : Good ro' Ot w' H2 := g1.re hg hK2
      -- what the callee might write is what the caller lent
      have adY : ∀ b, WB (hp lM) (C8 μ ι) b → WB H1 μ b := by
       rintro b ⟨j, L, q1, q2, q3⟩
       obtain ⟨i, k1, k2⟩ := hK j (Ob.fV q1)
       rw [rQ i j k1] at q2
       refine ⟨i, L, ?_, q2, q3⟩
       have : i ∈ ι := List.mem_of_getElem? (wz k1)
       simp only [H1, this, if_true]
       rw [← (Ob.I4 k2).1]; exact q1
      have apF : ∀ b, LB (hp lM) (C8 μ ι) b → LB H1 μ b := by
       rintro b ⟨j, L, q1, q2, q3⟩
       obtain ⟨i, k1, k2⟩ := hK j q1
       rw [rQ i j k1] at q2
       refine ⟨i, L, ?_, q2, q3⟩
       have : i ∈ ι := List.mem_of_getElem? (wz k1)
       simp only [H1, this, if_true]
       rw [← (Ob.I4 k2).2]; exact q1
      have x2 : Ext ro μ w H1 ro' Ot w' H2 := by
       refine ⟨hup, x1.nZ, fun a v ha => ?_, fun b hb => ?_, fun b hb => ?_, fun b hb hn => x1.frame b hb (fun q => hn (adY b q)), x1.size, x1.os, x1.tape, x1.output⟩
       ·rcases x1.vg a v ha with q | q | q
        ·exact .inl q
        ·exact .inr (.inl q)
        ·exact .inr (.inr (adY _ q))
       ·exact (x1.ql b (hb.re hg hK2)).imp (fun z => z) (adY b)
       ·exact (x1.vG b (hb.re hg hK2)).imp (fun z => z) (apF b)
      have ahT : ∀ id, H1 id = hp σ id ∨ H1 id = .dead := by
       intro id
       simp only [H1]
       split
       ·exact .inl rfl
       ·exact .inr rfl
      have hD1 : ∀ id, ¬ D id → H1 id = .dead ∧ H2 id = .dead ∧ Ot id = μ id := by
       intro id hd
       refine ⟨?_, ?_, ?_⟩
       ·simp only [H1]; rw [if_neg (fun q => hd (.inl q))]
       ·simp only [H2]; rw [if_neg hd]
       ·simp only [Ot]; rw [if_neg (fun q => hd (.inr q))]
      obtain ⟨g3, x3⟩ := g.merge D ahT hD1 g2 x2
      have heq : (fun id => if D id then H2 id else hp σ id) = hp σ2 := by
       funext id
       by_cases hD : D id
       ·rw [if_pos hD]; simp only [H2]; rw [if_pos hD]
       ·rw [if_neg hD]
        rcases Nat.lt_or_ge id σ.length with q | q
        ·exact (XD id q (fun hin => hD (.inl hin))).symm
        ·have q2 : σ2.length ≤ id := by
          rcases Nat.lt_or_ge id σ2.length with q3 | q3
          ·exact absurd (.inr ⟨q, q3⟩) hD
          ·exact q3
         rw [uF q, uF q2]
      rw [heq] at g3 x3
      refine ⟨v, ro', Ot, rfl, Qh hg hv _ hr, g3, x3, fun id hne => ?_⟩
      simp only [Ot] at hne
      split at hne
      ·rename_i hi; exact hi
      ·exact absurd rfl hne
     ·cases h
    ·cases h
   ·cases h
  ·cases h
 ·cases h
end Lv
