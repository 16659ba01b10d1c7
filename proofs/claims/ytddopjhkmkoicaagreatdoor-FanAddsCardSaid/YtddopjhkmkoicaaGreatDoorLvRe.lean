/- Other numbers for objects; calls. -/
import Derived.Test.YtddopjhkmkoicaaGreatDoorLvOps7
/- Other numbers for objects; calls. -/
namespace Lv
open Go
set_option linter.unusedVariables false
set_option linter.unusedSimpArgs false
set_option linter.unusedSectionVars false
variable [BaseTab]
theorem oP {g : Nat → Option Nat} : ∀ {cs ds : List AV}, zW g cs = some ds → ds.length = cs.length
 | [], ds, h => by simp only [zW, Option.some.injEq] at h; subst h; rfl
 | c :: cs, ds, h => by
  simp only [zW] at h
  split at h
  ·rename_i y ys h1 h2
   simp only [Option.some.injEq] at h
   subst h
   simp [oP h2]
  ·cases h
theorem ze {g : Nat → Option Nat} : ∀ {cs ds : List AV}, zW g cs = some ds → ∀ (i : Nat) (y : AV), ds[i]? = some y → ∃ x, cs[i]? = some x ∧ x.re g = some y
 | [], ds, h, i, y, hy => by simp only [zW, Option.some.injEq] at h; subst h; simp at hy
 | c :: cs, ds, h, i, y, hy => by
  simp only [zW] at h
  split at h
  ·rename_i z zs h1 h2
   simp only [Option.some.injEq] at h
   subst h
   cases i with
   | zero => simp at hy; subst hy; exact ⟨c, rfl, h1⟩
   | succ i => simpa using ze h2 i y (by simpa using hy)
  ·cases h
theorem NG {ro : Ro} {μ μ' : Mu} {g : Nat → Option Nat} (hg : ∀ i j, g i = some j → μ' j = μ i) {x : AV} {v : Value} (h : VR ro μ x v) : ∀ y, x.re g = some y → VR ro μ' y v := by
 induction h with
 | undef v => intro y hy; simp only [AV.re, Option.some.injEq] at hy; subst hy; exact .undef v
 | d x v h => intro y hy; simp only [AV.re, Option.some.injEq] at hy; subst hy; exact .d x v h
 | ref id idx off L h =>
  intro y hy
  simp only [AV.re] at hy
  split at hy
  ·rename_i j hj
   simp only [Option.some.injEq] at hy; subst hy
   exact .ref j idx off L (by rw [hg id j hj, h])
  ·cases hy
 | rop cs b o g' h1 h2 => intro y hy; simp only [AV.re, Option.some.injEq] at hy; subst hy; exact .rop cs b o g' h1 h2
 | slc id sz off len cap L c a h hsz hl hc ha =>
  intro y hy
  simp only [AV.re] at hy
  split at hy
  ·rename_i j hj
   simp only [Option.some.injEq] at hy; subst hy
   exact .slc j sz off len cap L c a (by rw [hg id j hj, h]) hsz hl hc ha
  ·cases hy
 | dX id sz off =>
  intro y hy
  simp only [AV.re] at hy
  split at hy
  ·simp only [Option.some.injEq] at hy; subst hy
   exact .dX _ _ _
  ·cases hy
 | agg cs vs hs _ ih =>
  intro y hy
  simp only [AV.re] at hy
  split at hy
  ·rename_i ds hd
   simp only [Option.some.injEq] at hy; subst hy
   refine .agg ds vs (by rw [hs, oP hd]) (fun i z v hz hv => ?_)
   obtain ⟨x, hx, hr⟩ := ze hd i z hz
   exact ih i x v hx hv z hr
  ·cases hy
 | tuple cs vs hs _ ih =>
  intro y hy
  simp only [AV.re] at hy
  split at hy
  ·rename_i ds hd
   simp only [Option.some.injEq] at hy; subst hy
   refine .tuple ds vs (by rw [hs, oP hd]) (fun i z v hz hv => ?_)
   obtain ⟨x, hx, hr⟩ := ze hd i z hz
   exact ih i x v hx hv z hr
  ·cases hy
 | fn f cs ds vs us hs ht _ _ ih ih' =>
  intro y hy
  simp only [AV.re] at hy
  split at hy
  ·rename_i cs' ds' hc hd
   simp only [Option.some.injEq] at hy; subst hy
   refine .fn f cs' ds' vs us (by rw [hs, oP hc]) (by rw [ht, oP hd]) (fun i z v hz hv => ?_) (fun i z v hz hv => ?_)
   ·obtain ⟨x, hx, hr⟩ := ze hc i z hz
    exact ih i x v hx hv z hr
   ·obtain ⟨x, hx, hr⟩ := ze hd i z hz
    exact ih' i x v hx hv z hr
  ·cases hy
 | qN id L h =>
  intro y hy
  simp only [AV.re] at hy
  split at hy
  ·rename_i j hj
   simp only [Option.some.injEq] at hy; subst hy
   exact .qN j L (by rw [hg id j hj, h])
  ·cases hy
 | iface t x v _ ih =>
  intro y hy
  simp only [AV.re] at hy
  split at hy
  ·rename_i z hz
   simp only [Option.some.injEq] at hy; subst hy
   exact .iface t z v (ih z hz)
  ·cases hy
theorem Wn {ro : Ro} {μ μ' : Mu} {g : Nat → Option Nat} (hg : ∀ i j, g i = some j → μ' j = μ i) {xs ys : List AV} {vs : Array Value} (h : VRs ro μ xs vs) (hy : zW g xs = some ys) : VRs ro μ' ys vs :=
 ⟨by rw [h.size, oP hy], fun i y v hi hv => let ⟨x, hx, hr⟩ := ze hy i y hi; NG hg (h.get i x v hx hv) y hr⟩
theorem Jm (g : Nat → Option Nat) : ∀ ds : List D, zW g (ds.map AV.d) = some (ds.map AV.d)
 | [] => rfl
 | d :: ds => by simp [zW, AV.re, Jm g ds]
theorem Us {g : Nat → Option Nat} {x y : AV} (h : x.re g = some y) : zW g x.cells = some y.cells := by
  cases x
  case d z =>
    simp only [AV.re, Option.some.injEq] at h
    subst h
    cases z <;> first | exact Jm g _ | simp [AV.cells, zW, AV.re]
  case agg cs =>
    simp only [AV.re] at h
    split at h
    · rename_i ds hd
      simp only [Option.some.injEq] at h; subst h
      simpa [AV.cells] using hd
    · cases h
  all_goals
    have h' := h
    simp only [AV.re] at h
    first
      | (split at h
         · simp only [Option.some.injEq] at h; subst h; simp only [AV.cells, zW, h']
         · cases h)
      | (simp only [Option.some.injEq] at h; subst h; simp only [AV.cells, zW, h'])
theorem aiz {ro : Ro} {μ μ' : Mu} {g : Nat → Option Nat} (hg : ∀ i j, g i = some j → μ' j = μ i) {w : World} {i j : Nat} (hij : μ' j = μ i) {o o' : Ob} (h : OR ro μ w i o) (ho : o.re g = some o') : OR ro μ' w j o' := by
 cases o with
 | dead => simp only [Ob.re, Option.some.injEq] at ho; subst ho; trivial
 | box x =>
  simp only [Ob.re] at ho
  split at ho
  ·rename_i y hy
   simp only [Option.some.injEq] at ho; subst ho
   intro L hL
   rw [hij] at hL
   obtain ⟨C, T, fz, h0, e, hf, hv⟩ := h L hL
   exact ⟨C, T, fz, h0, e, hf, Wn hg hv (Us hy)⟩
  ·cases ho
 | row sz xs wr =>
  simp only [Ob.re, Option.some.injEq] at ho; subst ho
  intro L hL
  rw [hij] at hL
  exact h L hL
 | map es =>
  simp only [Ob.re, Option.some.injEq] at ho; subst ho
  intro L hL
  rw [hij] at hL
  exact h L hL
theorem Ob.Gu {g : Nat → Option Nat} {o o' : Ob} (h : o.re g = some o') : o'.wr = o.wr ∧ o'.live = o.live := by
 cases o with
 | dead => simp only [Ob.re, Option.some.injEq] at h; subst h; exact ⟨rfl, rfl⟩
 | box x =>
  simp only [Ob.re] at h
  split at h
  ·simp only [Option.some.injEq] at h; subst h; exact ⟨rfl, rfl⟩
  ·cases h
 | row sz xs wr => simp only [Ob.re, Option.some.injEq] at h; subst h; exact ⟨rfl, rfl⟩
 | map es => simp only [Ob.re, Option.some.injEq] at h; subst h; exact ⟨rfl, rfl⟩
theorem Good.re {ro : Ro} {μ μ' : Mu} {w : World} {H K : Hp} {g : Nat → Option Nat} (h : Good ro μ w H) (hg : ∀ i j, g i = some j → μ' j = μ i)
  (hK : ∀ j, (K j).live = true → ∃ i, g i = some j ∧ (H i).re g = some (K j)) : Good ro μ' w K := by
 refine ⟨h.vH, fun j => ?_, fun j j' L L' h1 h2 h3 h4 h5 => ?_, fun b hb a ha => ?_, h.base⟩
 ·by_cases hl : (K j).live = true
  ·obtain ⟨i, h1, h2⟩ := hK j hl
   exact aiz hg (hg i j h1) (h.ob i) h2
  ·have : K j = .dead := by cases e : K j <;> simp [e, Ob.live] at hl ⊢
   rw [this]; trivial
 ·obtain ⟨i, k1, k2⟩ := hK j (Ob.fO h1)
  obtain ⟨i', k3, k4⟩ := hK j' h2
  rw [hg i j k1] at h3
  rw [hg i' j' k3] at h4
  have := h.apart i i' L L' (by rw [← (Ob.Gu k2).1]; exact h1) (by rw [← (Ob.Gu k4).2]; exact h2) h3 h4 h5
  subst this
  rw [k1] at k3
  exact Option.some.inj k3
 ·obtain ⟨j, L, h1, h2, h3⟩ := hb
  obtain ⟨i, k1, k2⟩ := hK j (Ob.fO h1)
  rw [hg i j k1] at h2
  exact h.iN b ⟨i, L, by rw [← (Ob.Gu k2).1]; exact h1, h2, h3⟩ a ha
theorem WB.re {μ μ' : Mu} {H K : Hp} {g : Nat → Option Nat} {b : Nat} (hb : WB K μ' b) (hg : ∀ i j, g i = some j → μ' j = μ i) (hK : ∀ j, (K j).live = true → ∃ i, g i = some j ∧ (H i).re g = some (K j)) : WB H μ b := by
 obtain ⟨j, L, h1, h2, h3⟩ := hb
 obtain ⟨i, k1, k2⟩ := hK j (Ob.fO h1)
 rw [hg i j k1] at h2
 exact ⟨i, L, by rw [← (Ob.Gu k2).1]; exact h1, h2, h3⟩
theorem LB.re {μ μ' : Mu} {H K : Hp} {g : Nat → Option Nat} {b : Nat} (hb : LB K μ' b) (hg : ∀ i j, g i = some j → μ' j = μ i) (hK : ∀ j, (K j).live = true → ∃ i, g i = some j ∧ (H i).re g = some (K j)) : LB H μ b := by
 obtain ⟨j, L, h1, h2, h3⟩ := hb
 obtain ⟨i, k1, k2⟩ := hK j h1
 rw [hg i j k1] at h2
 exact ⟨i, L, by rw [← (Ob.Gu k2).2]; exact h1, h2, h3⟩
structure zK (ro : Ro) (μ : Mu) (w : World) (H : Hp) (ro' : Ro) (μ' : Mu) (w' : World) (H' : Hp) : Prop where
 mR : ∀ a v, ro a = some v → ro' a = some v
 tN : ∀ a v, ro' a = some v → ro a = some v ∨ w.heap.size ≤ a.block ∨ WB H μ a.block
 oD : ∀ b, WB H' μ' b → w.heap.size ≤ b ∨ WB H μ b
 uh : ∀ b, LB H' μ' b → w.heap.size ≤ b ∨ LB H μ b
 frame : ∀ b, b < w.heap.size → ¬ WB H μ b → w'.heap[b]? = w.heap[b]?
 size : w.heap.size ≤ w'.heap.size
 os : w'.os = w.os
 tape : w'.tape = w.tape
 output : w'.output = w.output
theorem Ext.WA {ro ro' : Ro} {μ μ' : Mu} {w w' : World} {H H' : Hp} (x : Ext ro μ w H ro' μ' w' H') : zK ro μ w H ro' μ' w' H' :=
 ⟨x.mR, x.tN, x.oD, x.uh, x.frame, x.size, x.os, x.tape, x.output⟩
theorem zK.trans {ro tu Xm : Ro} {μ NV Lp : Mu} {w w1 w2 : World} {H H1 H2 : Hp} (h : zK ro μ w H tu NV w1 H1) (k : zK tu NV w1 H1 Xm Lp w2 H2) : zK ro μ w H Xm Lp w2 H2 where
 mR a v hi := k.mR _ _ (h.mR _ _ hi)
 tN a v hi := by
  rcases k.tN a v hi with h1 | h1 | h1
  ·exact h.tN a v h1
  ·exact .inr (.inl (Nat.le_trans h.size h1))
  ·exact .inr (h.oD _ h1)
 oD b hb := by
  rcases k.oD b hb with h1 | h1
  ·exact .inl (Nat.le_trans h.size h1)
  ·exact h.oD _ h1
 uh b hb := by
  rcases k.uh b hb with h1 | h1
  ·exact .inl (Nat.le_trans h.size h1)
  ·exact h.uh _ h1
 frame b hb hn := by
  rw [k.frame b (Nat.lt_of_lt_of_le hb h.size) (fun hw => (h.oD b hw).elim (fun x => by omega) hn)]
  exact h.frame b hb hn
 size := Nat.le_trans h.size k.size
 os := k.os.trans h.os
 tape := k.tape.trans h.tape
 output := k.output.trans h.output
theorem zK.re {ro : Ro} {μ μ' : Mu} {w : World} {H K : Hp} {g : Nat → Option Nat} (hg : ∀ i j, g i = some j → μ' j = μ i)
  (hK : ∀ j, (K j).live = true → ∃ i, g i = some j ∧ (H i).re g = some (K j)) : zK ro μ w H ro μ' w K :=
 ⟨fun _ _ h => h, fun _ _ h => .inl h, fun _ hb => .inr (hb.re hg hK), fun _ hb => .inr (hb.re hg hK), fun _ _ _ => rfl, Nat.le_refl _, rfl, rfl, rfl⟩
theorem tO (σ : List Ob) : ∀ (n : Nat) (todo seen : List Nat), seen.Nodup → (reach σ n todo seen).Nodup
 | 0, _, seen, h => h
 | n + 1, [], seen, h => h
 | n + 1, i :: r, seen, h => by
  simp only [reach]
  split
  ·exact tO σ n r seen h
  ·rename_i hc
   have hi : i ∉ seen := by simpa using hc
   have h2 : (seen ++ [i]).Nodup := by
    rw [List.nodup_append]
    exact ⟨h, by simp, fun a ha b hb => by simp at hb; subst hb; rintro rfl; exact hi ha⟩
   split
   ·exact tO σ n _ _ h2
   ·exact tO σ n _ _ h2
theorem Ai {σ : List Ob} {ι : List Nat} {g : Nat → Option Nat} : ∀ {l : List Nat} {os : List Ob}, sub σ ι g l = some os → os.length = l.length
 | [], os, h => by simp only [sub, Option.some.injEq] at h; subst h; rfl
 | i :: l, os, h => by
  simp only [sub] at h
  split at h
  ·split at h
   ·rename_i o' os' h1 h2
    simp only [Option.some.injEq] at h; subst h
    simp [Ai h2]
   ·cases h
  ·cases h
theorem J4 {σ : List Ob} {ι : List Nat} {g : Nat → Option Nat} : ∀ {l : List Nat} {os : List Ob}, sub σ ι g l = some os → ∀ (k : Nat) (i : Nat), l[k]? = some i → ∃ o o', σ[i]? = some o ∧ os[k]? = some o' ∧ o.re g = some o'
 | [], os, h, k, i, hk => by simp at hk
 | j :: l, os, h, k, i, hk => by
  simp only [sub] at h
  split at h
  ·rename_i o ho
   split at h
   ·rename_i o' os' h1 h2
    simp only [Option.some.injEq] at h; subst h
    cases k with
    | zero => simp at hk; subst hk; exact ⟨o, o', ho, rfl, h1⟩
    | succ k => simpa using J4 h2 k i (by simpa using hk)
   ·cases h
  ·cases h
theorem uS {ι : List Nat} {i j : Nat} (h : eD ι i = some j) : ι[j]? = some i := by
 unfold eD at h
 have := List.idxOf?_eq_some_iff.1 h
 obtain ⟨hj, hi, _⟩ := this
 rw [List.getElem?_eq_getElem hj]
 simpa using hi
theorem Mw {ι : List Nat} (hn : ι.Nodup) {i j : Nat} (h : ι[j]? = some i) : eD ι i = some j := by
 unfold eD
 rw [List.idxOf?_eq_some_iff]
 have hj := bE h
 refine ⟨hj, ?_, fun k hk => ?_⟩
 ·rw [List.getElem?_eq_getElem hj] at h
  simpa using h
 ·intro e
  have hk' : k < ι.length := by omega
  have e2 : ι[k] = ι[j] := by
   rw [List.getElem?_eq_getElem hj] at h
   have := Option.some.inj h
   rw [this]
   simpa using e
  exact (List.pairwise_iff_getElem.1 hn) k j hk' hj (by omega) e2
def Ap (μ : Mu) (ι : List Nat) : Mu := fun j => match ι[j]? with
 | some i => μ i
 | none => none
theorem qm {μ : Mu} {ι : List Nat} : ∀ i j, eD ι i = some j → Ap μ ι j = μ i := by
 intro i j h
 simp only [Ap, uS h]
theorem yT {σ os : List Ob} {roots ι : List Nat} (h : canon σ roots = some (ι, os)) : ι.Nodup ∧ os.length = ι.length ∧
  (∀ (k i : Nat), ι[k]? = some i → ∃ o o', σ[i]? = some o ∧ os[k]? = some o' ∧ o.re (eD ι) = some o') ∧
  (∀ j, (hp os j).live = true → ∃ i, eD ι i = some j ∧ (hp σ i).re (eD ι) = some (hp os j)) := by
 unfold canon at h
 simp only at h
 split at h
 ·rename_i os' hs
  simp only [Option.some.injEq, Prod.mk.injEq] at h
  obtain ⟨rfl, rfl⟩ := h
  have hn := tO σ 100000 roots [] List.nodup_nil
  refine ⟨hn, Ai hs, fun k i hk => J4 hs k i hk, fun j hl => ?_⟩
  have hj : j < os'.length := by
   rcases Nat.lt_or_ge j os'.length with k | k
   ·exact k
   ·rw [sD k] at hl; simp [Ob.live] at hl
  rw [Ai hs] at hj
  obtain ⟨o, o', h1, h2, h3⟩ := J4 hs j _ (List.getElem?_eq_getElem hj)
  refine ⟨_, Mw hn (List.getElem?_eq_getElem hj), ?_⟩
  rw [dI h1, dI h2]
  exact h3
 ·cases h
end Lv
