/- Contracts of frozen arguments serve for rows. -/
import Derived.Test.YtddopjhkmkoicaaGreatDoorGwMore
/- Contracts of frozen arguments serve for rows. -/
namespace Lv
open Go
set_option linter.unusedVariables false
set_option linter.unusedSimpArgs false
set_option linter.unusedSectionVars false
variable [BaseTab]
inductive ArgF : List AV → List Ob → List AV → List Ob → Prop
 | nil (σ : List Ob) : ArgF [] σ [] σ
 | keep {x : AV} {xs ys : List AV} {σ σ' : List Ob} (h : ArgF xs σ ys σ') : ArgF (x :: xs) σ (x :: ys) σ'
 | aw {x y : AV} {xs ys : List AV} {σ σ' : List Ob} (k : AW x y) (h : ArgF xs σ ys σ') : ArgF (x :: xs) σ (y :: ys) σ'
 | frz {x : AV} {y : D} {xs ys : List AV} {σ σ1 σ' : List Ob} (k : Lv.frz σ x = some (y, σ1)) (h : ArgF xs σ1 ys σ') : ArgF (x :: xs) σ (.d y :: ys) σ'
 | frzs {x : AV} {zs : List D} {xs ys : List AV} {σ σ1 σ' : List Ob} (ha : x.isAgg = true) (k : Lv.frzs σ x.cells = some (zs, σ1)) (h : ArgF xs σ1 ys σ') : ArgF (x :: xs) σ (.d (.agg zs) :: ys) σ'
 | frzw {x y : AV} {zs : List D} {xs ys : List AV} {σ σ1 σ' : List Ob} (ha : x.isAgg = true) (k : Lv.frzs σ x.cells = some (zs, σ1)) (q : AW (.d (.agg zs)) y) (h : ArgF xs σ1 ys σ') : ArgF (x :: xs) σ (y :: ys) σ'
theorem ArgF.sound {args args1 : List AV} {σ σ1 : List Ob} (h : ArgF args σ args1 σ1) : ∀ {ro : Ro} {μ : Mu} {w : World} {cs : List Value}, Good ro μ w (hp σ) → cs.length = args.length → (∀ (i : Nat) (x : AV) (v : Value), args[i]? = some x → cs[i]? = some v → VR ro μ x v) →
  ∃ ro', Good ro' μ w (hp σ1) ∧ Ext ro μ w (hp σ) ro' μ w (hp σ1) ∧ args1.length = args.length ∧ (∀ (i : Nat) (x : AV) (v : Value), args1[i]? = some x → cs[i]? = some v → VR ro' μ x v) ∧ σ1.length = σ.length := by
 have tail : ∀ {ro ro1 : Ro} {μ : Mu} {w : World} {H H1 : Hp} {x : AV} {xs : List AV} {c : Value} {cs : List Value}, Ext ro μ w H ro1 μ w H1 → (∀ (i : Nat) (y : AV) (v : Value), (x :: xs)[i]? = some y → (c :: cs)[i]? = some v → VR ro μ y v) →
   (∀ (i : Nat) (y : AV) (v : Value), xs[i]? = some y → cs[i]? = some v → VR ro1 μ y v) := fun e h i y v hy hv => (h (i + 1) y v (by simpa using hy) (by simpa using hv)).mono e.roUp (fun _ _ h => h)
 have cons : ∀ {ro : Ro} {μ : Mu} {x : AV} {xs : List AV} {c : Value} {cs : List Value}, VR ro μ x c → (∀ (i : Nat) (y : AV) (v : Value), xs[i]? = some y → cs[i]? = some v → VR ro μ y v) → (∀ (i : Nat) (y : AV) (v : Value), (x :: xs)[i]? = some y → (c :: cs)[i]? = some v → VR ro μ y v) := by
  intro ro μ x xs c cs h k i y v hy hv
  cases i with
  | zero => simp at hy hv; subst hy; subst hv; exact h
  | succ i => exact k i y v (by simpa using hy) (by simpa using hv)
 induction h with
 | nil σ => intro ro μ w cs g hl hv; exact ⟨ro, g, Ext.refl _ _ _ _, rfl, hv, rfl⟩
 | keep h ih =>
  intro ro μ w cs g hl hv
  cases cs with
  | nil => simp at hl
  | cons c cs =>
   obtain ⟨ro', g', e', l', v', s'⟩ := ih g (by simpa using hl) (tail (Ext.refl ro μ w (hp [])) hv)
   exact ⟨ro', g', e', by simp [l'], cons ((hv 0 _ c rfl rfl).mono e'.roUp (fun _ _ h => h)) v', s'⟩
 | aw k h ih =>
  intro ro μ w cs g hl hv
  cases cs with
  | nil => simp at hl
  | cons c cs =>
   obtain ⟨ro', g', e', l', v', s'⟩ := ih g (by simpa using hl) (tail (Ext.refl ro μ w (hp [])) hv)
   exact ⟨ro', g', e', by simp [l'], cons (k _ _ _ ((hv 0 _ c rfl rfl).mono e'.roUp (fun _ _ h => h))) v', s'⟩
 | frz k h ih =>
  intro ro μ w cs g hl hv
  cases cs with
  | nil => simp at hl
  | cons c cs =>
   obtain ⟨ro1, g1, e1, d1, _, s1⟩ := frz_sound g (hv 0 _ c rfl rfl) k
   obtain ⟨ro', g', e', l', v', s'⟩ := ih g1 (by simpa using hl) (tail e1 hv)
   exact ⟨ro', g', e1.trans e', by simp [l'], cons ((VR.d _ _ d1).mono e'.roUp (fun _ _ h => h)) v', by omega⟩
 | frzs ha k h ih =>
  intro ro μ w cs g hl hv
  cases cs with
  | nil => simp at hl
  | cons c cs =>
   obtain ⟨C, rfl, hvs⟩ := VR_aggc (hv 0 _ c rfl rfl) ha
   obtain ⟨ro1, g1, e1, hlen, hd, _, s1⟩ := frzs_sound _ (vs := C.toList) g (by simpa using hvs.size) (fun j z u hz hu => hvs.get j z u hz (by simpa using hu)) k
   have hagg : VR ro1 μ (.d (.agg _)) (.agg C) := .d _ _ (.agg _ C (by rw [hvs.size, hlen]) (fun j z u hz hu => hd j z u hz (by simpa using hu)))
   obtain ⟨ro', g', e', l', v', s'⟩ := ih g1 (by simpa using hl) (tail e1 hv)
   exact ⟨ro', g', e1.trans e', by simp [l'], cons (hagg.mono e'.roUp (fun _ _ h => h)) v', by omega⟩
 | frzw ha k q h ih =>
  intro ro μ w cs g hl hv
  cases cs with
  | nil => simp at hl
  | cons c cs =>
   obtain ⟨C, rfl, hvs⟩ := VR_aggc (hv 0 _ c rfl rfl) ha
   obtain ⟨ro1, g1, e1, hlen, hd, _, s1⟩ := frzs_sound _ (vs := C.toList) g (by simpa using hvs.size) (fun j z u hz hu => hvs.get j z u hz (by simpa using hu)) k
   have hagg : VR ro1 μ (.d (.agg _)) (.agg C) := .d _ _ (.agg _ C (by rw [hvs.size, hlen]) (fun j z u hz hu => hd j z u hz (by simpa using hu)))
   obtain ⟨ro', g', e', l', v', s'⟩ := ih g1 (by simpa using hl) (tail e1 hv)
   exact ⟨ro', g', e1.trans e', by simp [l'], cons (q _ _ _ (hagg.mono e'.roUp (fun _ _ h => h))) v', by omega⟩
theorem CallAt.frz {P : Program} {f : FuncId} {args args1 : List AV} {σ σ1 σ2 : List Ob} {r : AV} (hf : ArgF args σ args1 σ1) (h : CallAt P f args1 σ1 r σ2) : CallAt P f args σ r σ2 := by
 intro ro μ w cargs g hdom hV
 obtain ⟨ro1, g1, e1, l1, v1, s1⟩ := hf.sound (cs := cargs.toList) g (by simpa using hV.size) (fun i x v hx hv => hV.get i x v hx (by simpa using hv))
 refine (h ro1 μ w cargs g1 (fun id L hL => by rw [s1]; exact hdom id L hL) ⟨by rw [hV.size, l1], fun i x v hx hv => v1 i x v hx (by simpa using hv)⟩).mono ?_
 rintro e w' ⟨v, ro', μ', he, k1, k2, k3, k4, k5⟩
 exact ⟨v, ro', μ', he, k1, k2, (e1.to0).trans k3, k4, fun id hid => k5 id (by rw [s1]; exact hid)⟩
theorem CallAt.frame {P : Program} {f : FuncId} {args args' : List AV} {σ σc σ2 os σ' : List Ob} {ι : List Nat} {r r' : AV} (hcan : canon σ (idsL args) = some (ι, σc)) (hre : reL (numberIn ι) args = some args') (hc : CallAt P f args' σc r' σ2)
  (hr : r'.re (backIn ι σ.length σ2.length) = some r) (hos : obsRe (backIn ι σ.length σ2.length) σ2 = some os) (hle : ι.length ≤ os.length) (hσ : setAll σ ι (os.take ι.length) ++ os.drop ι.length = σ') : CallAt P f args σ r σ' := by
 intro ro μ w cargs g hdom hV
 have hs : single f args' σc r' σ2 f args' σc = some (r', σ2) := by unfold single; rw [if_pos ⟨rfl, rfl, rfl⟩]
 have hin : callIn (single f args' σc r' σ2) f args σ = some (r, σ') := by simp only [callIn, hcan, hre, hs, hr, hos, hle, if_true, hσ]
 obtain ⟨hlen, hcalls⟩ := callIn_sound (single_ok hc) hin g (fun id h1 _ => by
  cases hm : μ id with
  | none => rfl
  | some L => have := hdom id L hm; omega) hV
 refine hcalls.mono ?_
 rintro e w' ⟨v, ro', μ', he, k1, k2, k3, k4⟩
 refine ⟨v, ro', μ', he, k1, k2, k3.to0, fun id L hL => ?_, fun id hid => ?_⟩
 ·by_cases h : μ' id = μ id
  ·have := hdom id L (h ▸ hL); omega
  ·exact (k4 id h).2
 ·by_cases h : μ' id = μ id
  ·exact h
  ·have := (k4 id h).1; omega
end Lv
