/- Contracts of frozen arguments serve for rows. -/
import Derived.Test.YtddopjhkmkoicaaGreatDoorGwMore
/- Contracts of frozen arguments serve for rows. -/
namespace Lv
open Go
set_option linter.unusedVariables false
set_option linter.unusedSimpArgs false
set_option linter.unusedSectionVars false
variable [BaseTab]
inductive fM : List AV → List Ob → List AV → List Ob → Prop
 | nil (σ : List Ob) : fM [] σ [] σ
 | keep {x : AV} {xs ys : List AV} {σ σ' : List Ob} (h : fM xs σ ys σ') : fM (x :: xs) σ (x :: ys) σ'
 | aw {x y : AV} {xs ys : List AV} {σ σ' : List Ob} (k : AW x y) (h : fM xs σ ys σ') : fM (x :: xs) σ (y :: ys) σ'
 | lX {x : AV} {y : D} {xs ys : List AV} {σ σ1 σ' : List Ob} (k : Lv.lX σ x = some (y, σ1)) (h : fM xs σ1 ys σ') : fM (x :: xs) σ (.d y :: ys) σ'
 | jN {x : AV} {zs : List D} {xs ys : List AV} {σ σ1 σ' : List Ob} (ha : x.isAgg = true) (k : Lv.jN σ x.cells = some (zs, σ1)) (h : fM xs σ1 ys σ') : fM (x :: xs) σ (.d (.agg zs) :: ys) σ'
 | XW {x y : AV} {zs : List D} {xs ys : List AV} {σ σ1 σ' : List Ob} (ha : x.isAgg = true) (k : Lv.jN σ x.cells = some (zs, σ1)) (q : AW (.d (.agg zs)) y) (h : fM xs σ1 ys σ') : fM (x :: xs) σ (y :: ys) σ'
theorem fM.sound {args args1 : List AV} {σ σ1 : List Ob} (h : fM args σ args1 σ1) : ∀ {ro : Ro} {μ : Mu} {w : World} {cs : List Value}, Good ro μ w (hp σ) → cs.length = args.length → (∀ (i : Nat) (x : AV) (v : Value), args[i]? = some x → cs[i]? = some v → VR ro μ x v) →
  ∃ ro', Good ro' μ w (hp σ1) ∧ Ext ro μ w (hp σ) ro' μ w (hp σ1) ∧ args1.length = args.length ∧ (∀ (i : Nat) (x : AV) (v : Value), args1[i]? = some x → cs[i]? = some v → VR ro' μ x v) ∧ σ1.length = σ.length := by
 have tail : ∀ {ro tu : Ro} {μ : Mu} {w : World} {H H1 : Hp} {x : AV} {xs : List AV} {c : Value} {cs : List Value}, Ext ro μ w H tu μ w H1 → (∀ (i : Nat) (y : AV) (v : Value), (x :: xs)[i]? = some y → (c :: cs)[i]? = some v → VR ro μ y v) →
   (∀ (i : Nat) (y : AV) (v : Value), xs[i]? = some y → cs[i]? = some v → VR tu μ y v) := fun e h i y v hy hv => (h (i + 1) y v (by simpa using hy) (by simpa using hv)).mono e.mR (fun _ _ h => h)
 have cons : ∀ {ro : Ro} {μ : Mu} {x : AV} {xs : List AV} {c : Value} {cs : List Value}, VR ro μ x c → (∀ (i : Nat) (y : AV) (v : Value), xs[i]? = some y → cs[i]? = some v → VR ro μ y v) → (∀ (i : Nat) (y : AV) (v : Value), (x :: xs)[i]? = some y → (c :: cs)[i]? = some v → VR ro μ y v) := by
  intro ro μ x xs c cs h k i y v hy hv
  cases i with
  | zero => simp at hy hv; subst hy; subst hv; exact h
  | succ i => exact k i y v (by simpa using hy) (by simpa using hv)
 induction h with
 | nil σ => intro ro μ w cs g hl hv; exact ⟨ro, g, Ext.refl _ _ _ _, rfl, hv, rfl⟩
 | keep h ih =>
  intro ro μ w cs g hl hv
  cases cs with
  | nil => simp at hl
  | cons c cs =>
   obtain ⟨ro', g', e', l', v', s'⟩ := ih g (by simpa using hl) (tail (Ext.refl ro μ w (hp [])) hv)
   exact ⟨ro', g', e', by simp [l'], cons ((hv 0 _ c rfl rfl).mono e'.mR (fun _ _ h => h)) v', s'⟩
 | aw k h ih =>
  intro ro μ w cs g hl hv
  cases cs with
  | nil => simp at hl
  | cons c cs =>
   obtain ⟨ro', g', e', l', v', s'⟩ := ih g (by simpa using hl) (tail (Ext.refl ro μ w (hp [])) hv)
   exact ⟨ro', g', e', by simp [l'], cons (k _ _ _ ((hv 0 _ c rfl rfl).mono e'.mR (fun _ _ h => h))) v', s'⟩
 | lX k h ih =>
  intro ro μ w cs g hl hv
  cases cs with
  | nil => simp at hl
  | cons c cs =>
   obtain ⟨tu, g1, e1, d1, _, s1⟩ := vR g (hv 0 _ c rfl rfl) k
   obtain ⟨ro', g', e', l', v', s'⟩ := ih g1 (by simpa using hl) (tail e1 hv)
   exact ⟨ro', g', e1.trans e', by simp [l'], cons ((VR.d _ _ d1).mono e'.mR (fun _ _ h => h)) v', by omega⟩
 | jN ha k h ih =>
  intro ro μ w cs g hl hv
  cases cs with
  | nil => simp at hl
  | cons c cs =>
   obtain ⟨C, rfl, hvs⟩ := Cx (hv 0 _ c rfl rfl) ha
   obtain ⟨tu, g1, e1, hlen, hd, _, s1⟩ := ni _ (vs := C.toList) g (by simpa using hvs.size) (fun j z u hz hu => hvs.get j z u hz (by simpa using hu)) k
   have hagg : VR tu μ (.d (.agg _)) (.agg C) := .d _ _ (.agg _ C (by rw [hvs.size, hlen]) (fun j z u hz hu => hd j z u hz (by simpa using hu)))
   obtain ⟨ro', g', e', l', v', s'⟩ := ih g1 (by simpa using hl) (tail e1 hv)
   exact ⟨ro', g', e1.trans e', by simp [l'], cons (hagg.mono e'.mR (fun _ _ h => h)) v', by omega⟩
 | XW ha k q h ih =>
  intro ro μ w cs g hl hv
  cases cs with
  | nil => simp at hl
  | cons c cs =>
   obtain ⟨C, rfl, hvs⟩ := Cx (hv 0 _ c rfl rfl) ha
   obtain ⟨tu, g1, e1, hlen, hd, _, s1⟩ := ni _ (vs := C.toList) g (by simpa using hvs.size) (fun j z u hz hu => hvs.get j z u hz (by simpa using hu)) k
   have hagg : VR tu μ (.d (.agg _)) (.agg C) := .d _ _ (.agg _ C (by rw [hvs.size, hlen]) (fun j z u hz hu => hd j z u hz (by simpa using hu)))
   obtain ⟨ro', g', e', l', v', s'⟩ := ih g1 (by simpa using hl) (tail e1 hv)
   exact ⟨ro', g', e1.trans e', by simp [l'], cons (q _ _ _ (hagg.mono e'.mR (fun _ _ h => h))) v', by omega⟩
theorem aL.lX {P : Program} {f : FuncId} {args args1 : List AV} {σ σ1 σ2 : List Ob} {r : AV} (hf : fM args σ args1 σ1) (h : aL P f args1 σ1 r σ2) : aL P f args σ r σ2 := by
 intro ro μ w cargs g hdom hV
 obtain ⟨tu, g1, e1, l1, v1, s1⟩ := hf.sound (cs := cargs.toList) g (by simpa using hV.size) (fun i x v hx hv => hV.get i x v hx (by simpa using hv))
 refine (h tu μ w cargs g1 (fun id L hL => by rw [s1]; exact hdom id L hL) ⟨by rw [hV.size, l1], fun i x v hx hv => v1 i x v hx (by simpa using hv)⟩).mono ?_
 rintro e w' ⟨v, ro', μ', he, k1, k2, k3, k4, k5⟩
 exact ⟨v, ro', μ', he, k1, k2, (e1.WA).trans k3, k4, fun id hid => k5 id (by rw [s1]; exact hid)⟩
theorem aL.frame {P : Program} {f : FuncId} {args args' : List AV} {σ lT σ2 os σ' : List Ob} {ι : List Nat} {r r' : AV} (hcan : canon σ (kg args) = some (ι, lT)) (hre : zW (eD ι) args = some args') (hc : aL P f args' lT r' σ2)
  (hr : r'.re (jf ι σ.length σ2.length) = some r) (hos : oF (jf ι σ.length σ2.length) σ2 = some os) (hle : ι.length ≤ os.length) (hσ : jd σ ι (os.take ι.length) ++ os.drop ι.length = σ') : aL P f args σ r σ' := by
 intro ro μ w cargs g hdom hV
 have hs : single f args' lT r' σ2 f args' lT = some (r', σ2) := by unfold single; rw [if_pos ⟨rfl, rfl, rfl⟩]
 have hin : nk (single f args' lT r' σ2) f args σ = some (r, σ') := by simp only [nk, hcan, hre, hs, hr, hos, hle, if_true, hσ]
 obtain ⟨hlen, G9⟩ := wU (vC hc) hin g (fun id h1 _ => by
  cases hm : μ id with
  | none => rfl
  | some L => have := hdom id L hm; omega) hV
 refine G9.mono ?_
 rintro e w' ⟨v, ro', μ', he, k1, k2, k3, k4⟩
 refine ⟨v, ro', μ', he, k1, k2, k3.WA, fun id L hL => ?_, fun id hid => ?_⟩
 ·by_cases h : μ' id = μ id
  ·have := hdom id L (h ▸ hL); omega
  ·exact (k4 id h).2
 ·by_cases h : μ' id = μ id
  ·exact h
  ·have := (k4 id h).1; omega
end Lv
