/- What an operation looks at. -/
import Derived.Test.YtddopjhkmkoicaaGreatDoorLvAop
/- What an operation looks at. -/
namespace Lv
open Go
set_option linter.unusedVariables false
set_option linter.unusedSimpArgs false
set_option linter.unusedSectionVars false
variable [BaseTab]
def bY {β : Type} (T : List Nat) (n : Nat) (G : List Ob → Option (β × List Ob)) : Prop := ∀ σ y σ', σ.length = n → G σ = some (y, σ') →
 n ≤ σ'.length ∧ (∀ id, id < n → id ∉ T → σ'[id]? = σ[id]?) ∧
 ∀ σ1 : List Ob, σ1.length = n → (∀ id, id ∈ T → σ1[id]? = σ[id]?) → ∃ EK, G σ1 = some (y, EK) ∧ EK.length = σ'.length ∧ (∀ id, (id ∈ T ∨ n ≤ id) → EK[id]? = σ'[id]?) ∧ (∀ id, id ∉ T → id < n → EK[id]? = σ1[id]?)
section
variable {β γ : Type} {T : List Nat} {n : Nat}
theorem bY.keep {G : List Ob → Option (β × List Ob)} (x : β) (h : ∀ σ, σ.length = n → G σ = some (x, σ)) : bY T n G := by
 intro σ y σ' hn hg
 rw [h σ hn] at hg
 simp only [Option.some.injEq, Prod.mk.injEq] at hg
 obtain ⟨rfl, rfl⟩ := hg
 refine ⟨by omega, fun _ _ _ => rfl, fun σ1 h1 h2 => ⟨σ1, h σ1 h1, by omega, fun id hid => ?_, fun _ _ _ => rfl⟩⟩
 rcases hid with hid | hid
 ·exact h2 id hid
 ·rw [List.getElem?_eq_none (by omega), List.getElem?_eq_none (by omega)]
theorem bY.no {G : List Ob → Option (β × List Ob)} (h : ∀ σ, σ.length = n → G σ = none) : bY T n G := by
 intro σ y σ' hn hg
 rw [h σ hn] at hg; cases hg
theorem bY.read {G : List Ob → Option (β × List Ob)} {α : Type} (rd : List Ob → α) (hr : ∀ σ σ1, (∀ id, id ∈ T → σ1[id]? = σ[id]?) → rd σ1 = rd σ) (F : α → List Ob → Option (β × List Ob)) (hG : ∀ σ, G σ = F (rd σ) σ) (hF : ∀ a, bY T n (F a)) : bY T n G := by
 intro σ y σ' hn hg
 rw [hG] at hg
 obtain ⟨h1, h2, h3⟩ := hF (rd σ) σ y σ' hn hg
 refine ⟨h1, h2, fun σ1 k1 k2 => ?_⟩
 rw [hG, hr σ σ1 k2]
 exact h3 σ1 k1 k2
theorem bY.push {x : β} {ob : Ob} {G : List Ob → Option (β × List Ob)} (h : ∀ σ, σ.length = n → G σ = some (x, σ ++ [ob])) : bY T n G := by
 intro σ y σ' hn hg
 rw [h σ hn] at hg
 simp only [Option.some.injEq, Prod.mk.injEq] at hg
 obtain ⟨rfl, rfl⟩ := hg
 refine ⟨by simp; omega, fun id hid _ => by rw [List.getElem?_append_left (by omega)], fun σ1 h1 h2 => ⟨σ1 ++ [ob], h σ1 h1, by simp; omega, fun id hid => ?_, fun id _ hid => by rw [List.getElem?_append_left (by omega)]⟩⟩
 by_cases hl : id < n
 ·rw [List.getElem?_append_left (by omega), List.getElem?_append_left (by omega)]
  exact h2 id (hid.resolve_right (by omega))
 ·rw [List.getElem?_append_right (by omega), List.getElem?_append_right (by omega), hn, h1]
theorem bY.set {x : β} {i : Nat} {ob : Ob} (hi : i ∈ T) {G : List Ob → Option (β × List Ob)} (h : ∀ σ, σ.length = n → G σ = some (x, σ.set i ob)) : bY T n G := by
 intro σ y σ' hn hg
 rw [h σ hn] at hg
 simp only [Option.some.injEq, Prod.mk.injEq] at hg
 obtain ⟨rfl, rfl⟩ := hg
 have ne : ∀ id, id ∉ T → i ≠ id := fun id hid e => hid (e ▸ hi)
 refine ⟨by simp; omega, fun id hid hT => by rw [List.getElem?_set, if_neg (ne id hT)], fun σ1 h1 h2 => ⟨σ1.set i ob, h σ1 h1, by simp; omega, fun id hid => ?_, fun id hT _ => by rw [List.getElem?_set, if_neg (ne id hT)]⟩⟩
 rw [List.getElem?_set, List.getElem?_set]
 by_cases e : i = id
 ·simp [e, h1, hn]
 ·rw [if_neg e, if_neg e]
  rcases hid with hid | hid
  ·exact h2 id hid
  ·rw [List.getElem?_eq_none (by omega), List.getElem?_eq_none (by omega)]
theorem bY.bind {F : List Ob → Option (β × List Ob)} {H : β → List Ob → Option (γ × List Ob)} {G : List Ob → Option (γ × List Ob)} (hF : bY T n F) (hl : ∀ σ y σ', σ.length = n → F σ = some (y, σ') → σ'.length = n) (hH : ∀ y, bY T n (H y))
  (hG : ∀ σ, G σ = match F σ with | some (y, σ') => H y σ' | none => none) : bY T n G := by
 intro σ z σ' hn hg
 rw [hG] at hg
 split at hg
 ·rename_i y σ2 hf
  have hl2 := hl σ y σ2 hn hf
  obtain ⟨a1, a2, a3⟩ := hF σ y σ2 hn hf
  obtain ⟨b1, b2, b3⟩ := hH y σ2 z σ' hl2 hg
  refine ⟨b1, fun id hid hT => (b2 id hid hT).trans (a2 id hid hT), fun σ1 h1 h2 => ?_⟩
  obtain ⟨σ3, c1, c2, c3, c4⟩ := a3 σ1 h1 h2
  obtain ⟨σ4, d1, d2, d3, d4⟩ := b3 σ3 (by omega) (fun id hid => c3 id (.inl hid))
  refine ⟨σ4, by rw [hG, c1]; exact d1, d2, d3, fun id hT hid => (d4 id hT hid).trans (c4 id hT hid)⟩
 ·cases hg
end
theorem KM {T : List Nat} {n : Nat} (x : AV) (hT : ∀ i, i ∈ x.ids → i ∈ T) : bY T n (fun σ => lX σ x) := by
 cases x
 case d y =>
  by_cases h : y.isAgg
  ·exact bY.no fun σ _ => by simp [lX, h]
  ·exact bY.keep y fun σ _ => by simp [lX, h]
 case slc id sz off len cap =>
  have hid : id ∈ T := hT id (by simp [AV.ids])
  refine bY.read (fun σ => σ[id]?) (fun σ σ1 h => h id hid) (fun a σ => match a with
   | some (.row sz' xs _) => if sz' = sz ∧ off + len ≤ xs.length then some (.xI sz ((xs.drop off).take len), σ.set id (.row sz' xs false)) else none
   | _ => none) (fun σ => by simp only [lX]; rfl) (fun a => ?_)
  split
  ·split
   ·exact bY.set hid fun σ _ => rfl
   ·exact bY.no fun σ _ => rfl
  ·exact bY.no fun σ _ => rfl
 all_goals exact bY.no fun σ _ => by simp [lX]
theorem Cc {T : List Nat} {n : Nat} : ∀ (l : List AV), (∀ i, i ∈ kg l → i ∈ T) → bY T n (fun σ => jN σ l)
 | [], _ => bY.keep [] fun σ _ => rfl
 | x :: l, hT => by
  simp only [kg, List.mem_append] at hT
  refine bY.bind (F := fun σ => lX σ x) (H := fun y σ => match jN σ l with
   | some (ys, σ2) => some (y :: ys, σ2)
   | none => none) (KM x fun i hi => hT i (.inl hi)) (fun σ y σ' hn h => by rw [sG h, hn]) (fun y => ?_) (fun σ => by
   simp only [jN]
   rcases lX σ x with _ | ⟨a, b⟩
   ·rfl
   ·rcases jN b l with _ | ⟨c, d⟩ <;> rfl)
  exact bY.bind (F := fun σ => jN σ l) (H := fun ys σ => some (y :: ys, σ)) (Cc l fun i hi => hT i (.inr hi)) (fun σ y σ' hn h => by rw [jD h, hn]) (fun ys => bY.keep _ fun σ _ => rfl) (fun σ => by rcases jN σ l with _ | ⟨c, d⟩ <;> rfl)
theorem Aw (x : AV) : ∀ i, i ∈ kg x.cells → i ∈ x.ids := by
 intro i hi
 cases x
 case d y =>
  exfalso
  have hd : ∀ (l : List D), kg (l.map AV.d) = [] := by
   intro l
   induction l with
   | nil => rfl
   | cons a l ih => simp [kg, AV.ids, ih]
  cases y <;> simp [AV.cells, kg, AV.ids, hd] at hi
 all_goals (simp [AV.cells, kg, AV.ids] at hi ⊢; try exact hi)
theorem H7 {T : List Nat} {n sz : Nat} : ∀ (l : List (Nat × AV)) (k : Nat), (∀ i, i ∈ kg (l.map (·.2)) → i ∈ T) → bY T n (fun σ => jR σ sz k l)
 | [], k, _ => bY.keep [] fun σ _ => rfl
 | (i, v) :: l, k, hT => by
  simp only [List.map_cons, kg, List.mem_append] at hT
  by_cases hc : i = k ∧ v.cells.length = sz
  ·refine bY.bind (F := fun σ => zH σ v) (H := fun y σ => match jR σ sz (k + 1) l with
    | some (ys, σ2) => some (y :: ys, σ2)
    | none => none) ?_ (fun σ y σ' hn h => ?_) (fun y => ?_) (fun σ => by
    simp only [jR, if_pos hc]
    rcases zH σ v with _ | ⟨a, b⟩
    ·rfl
    ·rcases jR b sz (k + 1) l with _ | ⟨c, d⟩ <;> rfl)
   ·unfold zH
    by_cases ha : v.isAgg
    ·simp only [ha, if_true]
     exact bY.bind (F := fun σ => jN σ v.cells) (H := fun ds σ => some (D.agg ds, σ)) (Cc _ fun j hj => hT j (.inl (Aw v j hj))) (fun σ y σ' hn h => by rw [jD h, hn]) (fun ds => bY.keep _ fun σ _ => rfl) (fun σ => by rcases jN σ v.cells with _ | ⟨c, d⟩ <;> rfl)
    ·simp only [ha]
     exact KM v fun j hj => hT j (.inl hj)
   ·unfold zH at h
    split at h
    ·split at h
     ·rename_i es σ1 hfz
      simp only [Option.some.injEq, Prod.mk.injEq] at h
      rw [← h.2, jD hfz, hn]
     ·cases h
    ·rw [sG h, hn]
   ·exact bY.bind (F := fun σ => jR σ sz (k + 1) l) (H := fun ys σ => some (y :: ys, σ)) (H7 l (k + 1) fun j hj => hT j (.inr hj)) (fun σ y σ' hn h => by rw [pV h, hn]) (fun ys => bY.keep _ fun σ _ => rfl) (fun σ => by rcases jR σ sz (k + 1) l with _ | ⟨c, d⟩ <;> rfl)
  ·exact bY.no fun σ _ => by simp only [jR, if_neg hc]
section
variable {β : Type} {T : List Nat} {n : Nat} {G : List Ob → Option (β × List Ob)}
theorem bY.still (h : ∀ σ v σ', G σ = some (v, σ') → σ' = σ ∧ ∀ σ1 : List Ob, σ1.length = σ.length → (∀ id, id ∈ T → σ1[id]? = σ[id]?) → G σ1 = some (v, σ1)) : bY T n G := by
 intro σ y σ' hn hg
 obtain ⟨rfl, h2⟩ := h σ y σ' hg
 refine ⟨by omega, fun _ _ _ => rfl, fun σ1 h1 h3 => ⟨σ1, h2 σ1 (by omega) h3, by omega, fun id hid => ?_, fun _ _ _ => rfl⟩⟩
 rcases hid with hid | hid
 ·exact h3 id hid
 ·rw [List.getElem?_eq_none (by omega), List.getElem?_eq_none (by omega)]
theorem bY.pushes (h : ∀ σ v σ', G σ = some (v, σ') → ∃ ob, σ' = σ ++ [ob] ∧ ∀ σ1 : List Ob, σ1.length = σ.length → (∀ id, id ∈ T → σ1[id]? = σ[id]?) → G σ1 = some (v, σ1 ++ [ob])) : bY T n G := by
 intro σ y σ' hn hg
 obtain ⟨ob, rfl, h2⟩ := h σ y σ' hg
 refine ⟨by simp; omega, fun id hid _ => by rw [List.getElem?_append_left (by omega)], fun σ1 h1 h3 => ⟨σ1 ++ [ob], h2 σ1 (by omega) h3, by simp; omega, fun id hid => ?_, fun id _ hid => by rw [List.getElem?_append_left (by omega)]⟩⟩
 by_cases hl : id < n
 ·rw [List.getElem?_append_left (by omega), List.getElem?_append_left (by omega)]
  exact h3 id (hid.resolve_right (by omega))
 ·rw [List.getElem?_append_right (by omega), List.getElem?_append_right (by omega), hn, h1]
theorem bY.sets (h : ∀ σ v σ', G σ = some (v, σ') → ∃ i ob, i ∈ T ∧ σ' = σ.set i ob ∧ ∀ σ1 : List Ob, σ1.length = σ.length → (∀ id, id ∈ T → σ1[id]? = σ[id]?) → G σ1 = some (v, σ1.set i ob)) : bY T n G := by
 intro σ y σ' hn hg
 obtain ⟨i, ob, hi, rfl, h2⟩ := h σ y σ' hg
 have ne : ∀ id, id ∉ T → i ≠ id := fun id hid e => hid (e ▸ hi)
 refine ⟨by simp; omega, fun id hid hT => by rw [List.getElem?_set, if_neg (ne id hT)], fun σ1 h1 h3 => ⟨σ1.set i ob, h2 σ1 (by omega) h3, by simp; omega, fun id hid => ?_, fun id hT _ => by rw [List.getElem?_set, if_neg (ne id hT)]⟩⟩
 rw [List.getElem?_set, List.getElem?_set]
 by_cases e : i = id
 ·simp [e, h1, hn]
 ·rw [if_neg e, if_neg e]
  rcases hid with hid | hid
  ·exact h3 id hid
  ·rw [List.getElem?_eq_none (by omega), List.getElem?_eq_none (by omega)]
end
theorem PS {P : Program} {t : TypeId} {v : AV} {σ σ1 : List Ob} (h : ∀ id, id ∈ v.ids → σ1[id]? = σ[id]?) : oJ P σ1 t v = oJ P σ t v := by
 cases v
 case ref id idx off => simp only [oJ]; rw [h id (by simp [AV.ids])]
 all_goals rfl
theorem AL {sz : Nat} {v : AV} {σ σ1 : List Ob} (h : ∀ id, id ∈ v.ids → σ1[id]? = σ[id]?) : elems σ1 sz v = elems σ sz v := by
 cases v
 case slc id sz' off len cap => simp only [elems]; rw [h id (by simp [AV.ids])]
 case d y => cases y <;> rfl
 all_goals rfl
theorem PN {P : Program} {t : TypeId} {v y : AV} {T : List Nat} {n : Nat} (hv : ∀ i, i ∈ v.ids → i ∈ T) (hy : ∀ i, i ∈ y.ids → i ∈ T) : bY T n (fun σ => match jQ P σ t v y with
  | some σ' => some (AV.tuple [], σ')
  | none => none) := by
 unfold jQ
 rcases bU P t with _ | s
 ·exact bY.no fun σ _ => rfl
 simp only
 by_cases hc : y.cells.length = s ∧ y.cells.all AV.one = true
 ·cases v
  case ref id idx off =>
   have hid : id ∈ T := hv id (by simp [AV.ids])
   simp only [if_pos hc]
   refine bY.read (fun σ => σ[id]?) (fun σ σ1 h => h id hid) (fun a σ => match (match a with
    | some (.box x) => if idx = 0 ∧ off + s ≤ x.cells.length then
      (if x.isAgg then some (σ.set id (.box (yM (over x.cells off y.cells)))) else match y.cells with
       | [z] => some (σ.set id (.box z))
       | _ => none)
      else none
    | some (.row _ _ _) => match jN σ y.cells with
     | some (ds, σ1) => match σ1[id]? with
      | some (.row sz xs true) => match xs[idx]? with
       | some x => if off + s ≤ x.cells.length then
         (if x.isAgg then some (σ1.set id (.row sz (xs.set idx (.agg (over x.cells off ds))) true)) else match ds with
          | [z] => some (σ1.set id (.row sz (xs.set idx z) true))
          | _ => none)
         else none
       | none => none
      | _ => none
     | none => none
    | _ => none : Option (List Ob)) with
    | some σ' => some (AV.tuple [], σ')
    | none => none) (fun σ => rfl) (fun a => ?_)
   rcases a with _ | o
   ·exact bY.no fun σ _ => rfl
   cases o
   case box x =>
    simp only
    split
    ·split
     ·exact bY.set hid fun σ _ => rfl
     ·split
      ·exact bY.set hid fun σ _ => rfl
      ·exact bY.no fun σ _ => rfl
    ·exact bY.no fun σ _ => rfl
   case row sz xs wr =>
    simp only
    refine bY.bind (F := fun σ => jN σ y.cells) (H := fun ds σ1 => match (match σ1[id]? with
      | some (.row sz xs true) => match xs[idx]? with
       | some x => if off + s ≤ x.cells.length then
         (if x.isAgg then some (σ1.set id (.row sz (xs.set idx (.agg (over x.cells off ds))) true)) else match ds with
          | [z] => some (σ1.set id (.row sz (xs.set idx z) true))
          | _ => none)
         else none
       | none => none
      | _ => none : Option (List Ob)) with
      | some σ' => some (AV.tuple [], σ')
      | none => none) (Cc _ fun i hi => hy i (Aw y i hi)) (fun σ y σ' hn h => by rw [jD h, hn]) (fun ds => ?_) (fun σ => by
      rcases jN σ y.cells with _ | ⟨a, b⟩ <;> rfl)
    refine bY.sets fun σ u σ' h => ?_
    split at h
    ·rename_i σ2 hm
     simp only [Option.some.injEq, Prod.mk.injEq] at h
     obtain ⟨rfl, rfl⟩ := h
     split at hm
     ·rename_i sz' xs' hr
      split at hm
      ·rename_i x hx
       split at hm
       ·rename_i ho
        split at hm
        ·rename_i ha
         simp only [Option.some.injEq] at hm
         subst hm
         exact ⟨id, _, hid, rfl, fun σ1 _ h1 => by rw [h1 id hid, hr]; simp only [hx, if_pos ho, ha, if_true]⟩
        ·rename_i ha
         split at hm
         ·simp only [Option.some.injEq] at hm
          subst hm
          exact ⟨id, _, hid, rfl, fun σ1 _ h1 => by rw [h1 id hid, hr]; simp only [hx, if_pos ho, if_neg ha]⟩
         ·cases hm
       ·cases hm
      ·cases hm
     ·cases hm
    ·cases h
   all_goals exact bY.no fun σ _ => rfl
  all_goals exact bY.no fun σ _ => by simp only [if_pos hc]
 ·exact bY.no fun σ _ => by simp only [if_neg hc]
inductive PZ (T : List Nat) : (List Ob → List Ob) → Prop
 | still : PZ T (fun σ => σ)
 | push (ob : Ob) : PZ T (fun σ => σ ++ [ob])
 | set (i : Nat) (ob : Ob) (hi : i ∈ T) : PZ T (fun σ => σ.set i ob)
 | both (i : Nat) (o ob : Ob) (hi : i ∈ T) : PZ T (fun σ => σ.set i o ++ [ob])
theorem PZ.loc {T : List Nat} {f : List Ob → List Ob} (h : PZ T f) (n : Nat) : bY T n (fun σ => some ((), f σ)) := by
 cases h with
 | still => exact bY.keep _ fun σ _ => rfl
 | push ob => exact bY.push fun σ _ => rfl
 | set i ob hi => exact bY.set hi fun σ _ => rfl
 | both i o ob hi =>
  refine bY.bind (β := Unit) (F := fun σ => some ((), σ.set i o)) (H := fun _ σ => some ((), σ ++ [ob])) (bY.set hi fun σ _ => rfl) (fun σ y σ' hn h => ?_) (fun _ => bY.push fun σ _ => rfl) (fun σ => rfl)
  simp only [Option.some.injEq, Prod.mk.injEq, true_and] at h
  rw [← h]; simpa using hn
theorem bY.deed {β : Type} {T : List Nat} {n : Nat} {G : List Ob → Option (β × List Ob)} (h : ∀ σ v σ', G σ = some (v, σ') → ∃ f, PZ T f ∧ σ' = f σ ∧ ∀ σ1 : List Ob, σ1.length = σ.length → (∀ id, id ∈ T → σ1[id]? = σ[id]?) → G σ1 = some (v, f σ1)) : bY T n G := by
 intro σ v σ' hn hg
 obtain ⟨f, hf, rfl, h2⟩ := h σ v σ' hg
 obtain ⟨k1, k2, k3⟩ := hf.loc n σ () (f σ) hn rfl
 refine ⟨k1, k2, fun σ1 h1 h3 => ?_⟩
 obtain ⟨EK, e, q⟩ := k3 σ1 h1 h3
 simp only [Option.some.injEq, Prod.mk.injEq, true_and] at e
 subst e
 exact ⟨_, h2 σ1 (by omega) h3, q⟩
theorem NC {P : Program} {t : TypeId} {s x : AV} {T : List Nat} {n : Nat} (hs : ∀ i, i ∈ s.ids → i ∈ T) (hx : ∀ i, i ∈ x.ids → i ∈ T) : bY T n (fun σ => jk P σ t s x) := by
 refine bY.deed fun σ v σ' h => ?_
 have hr : ∀ (sz : Nat) (σ1 : List Ob), (∀ id, id ∈ T → σ1[id]? = σ[id]?) → elems σ1 sz x = elems σ sz x := fun sz σ1 h1 => AL fun id hid => h1 id (hx id hid)
 simp only [jk] at h ⊢
 split at h
 ·rename_i e he
  split at h
  ·rename_i i hi
   split at h
   ·rename_i ys z hys hz
    split at h
    ·rename_i hc
     split at h
     ·split at h
      ·rename_i hc2
       simp only [Option.some.injEq, Prod.mk.injEq] at h
       obtain ⟨rfl, rfl⟩ := h
       exact ⟨_, .push _, rfl, fun σ1 hl h1 => by simp only [hr _ σ1 h1, hys, hz, hc, ne_eq, not_false_eq_true, and_self, if_true, if_pos hc2, hl]⟩
      ·cases h
     ·split at h
      ·rename_i hc2
       simp only [Option.some.injEq, Prod.mk.injEq] at h
       obtain ⟨rfl, rfl⟩ := h
       exact ⟨_, .still, rfl, fun σ1 hl h1 => by simp only [hr _ σ1 h1, hys, hz, hc, ne_eq, not_false_eq_true, and_self, if_true, if_pos hc2]⟩
      ·cases h
     ·rename_i id sz off len cap
      have hid : id ∈ T := hs id (by simp [AV.ids])
      split at h
      ·rename_i sz' xs wr hrow
       split at h
       ·rename_i hc2
        split at h
        ·rename_i c
         split at h
         ·rename_i hc3
          split at h
          ·rename_i hc4
           simp only [Option.some.injEq, Prod.mk.injEq] at h
           obtain ⟨rfl, rfl⟩ := h
           exact ⟨_, .set _ _ hid, rfl, fun σ1 hl h1 => by simp only [hr _ σ1 h1, hys, hz, hc, ne_eq, not_false_eq_true, and_self, if_true, h1 id hid, hrow, if_pos hc2, if_pos hc3, if_pos hc4]⟩
          ·cases h
         ·rename_i hc3
          simp only [Option.some.injEq, Prod.mk.injEq] at h
          obtain ⟨rfl, rfl⟩ := h
          exact ⟨_, .push _, rfl, fun σ1 hl h1 => by simp only [hr _ σ1 h1, hys, hz, hc, ne_eq, not_false_eq_true, and_self, if_true, h1 id hid, hrow, if_pos hc2, if_neg hc3, hl]⟩
        ·split at h
         ·rename_i hc3
          simp only [Option.some.injEq, Prod.mk.injEq] at h
          obtain ⟨rfl, rfl⟩ := h
          exact ⟨_, .both _ _ _ hid, rfl, fun σ1 hl h1 => by simp only [hr _ σ1 h1, hys, hz, hc, ne_eq, not_false_eq_true, and_self, if_true, h1 id hid, hrow, if_pos hc2, if_pos hc3, hl]⟩
         ·cases h
       ·cases h
      ·cases h
     ·cases h
    ·cases h
   ·cases h
  ·cases h
 ·cases h
theorem SE {P : Program} {t : TypeId} {s x : AV} {T : List Nat} {n : Nat} (hs : ∀ i, i ∈ s.ids → i ∈ T) (hx : ∀ i, i ∈ x.ids → i ∈ T) : bY T n (fun σ => NA P σ t s x) := by
 refine bY.deed fun σ v σ' h => ?_
 have hr : ∀ (sz : Nat) (σ1 : List Ob), (∀ id, id ∈ T → σ1[id]? = σ[id]?) → elems σ1 sz x = elems σ sz x := fun sz σ1 h1 => AL fun id hid => h1 id (hx id hid)
 simp only [NA] at h ⊢
 split at h
 ·rename_i e he
  split at h
  ·rename_i z hz
   split at h
   ·rename_i ys hys
    split at h
    ·simp only [Option.some.injEq, Prod.mk.injEq] at h
     obtain ⟨rfl, rfl⟩ := h
     exact ⟨_, .still, rfl, fun σ1 hl h1 => by simp only [hr _ σ1 h1, hys]⟩
    ·rename_i id sz off len cap
     have hid : id ∈ T := hs id (by simp [AV.ids])
     split at h
     ·rename_i sz' xs hrow
      split at h
      ·rename_i hc
       simp only [Option.some.injEq, Prod.mk.injEq] at h
       obtain ⟨rfl, rfl⟩ := h
       exact ⟨_, .set _ _ hid, rfl, fun σ1 hl h1 => by simp only [hr _ σ1 h1, hys, hz, hc, ne_eq, not_false_eq_true, and_self, if_true, h1 id hid, hrow, if_pos hc]⟩
      ·cases h
     ·cases h
    ·cases h
   ·cases h
  ·cases h
 ·cases h
theorem K9 {P : Program} {t t' : TypeId} {x : AV} {T : List Nat} {n : Nat} (hx : ∀ i, i ∈ x.ids → i ∈ T) : bY T n (fun σ => dR P σ t t' x) := by
 unfold dR
 split
 ·split
  ·split
   ·exact bY.no fun σ _ => rfl
   ·refine bY.still fun σ v σ' h => ?_
    have hr : ∀ σ1 : List Ob, (∀ id, id ∈ T → σ1[id]? = σ[id]?) → elems σ1 1 x = elems σ 1 x := fun σ1 h1 => AL fun id hid => h1 id (hx id hid)
    split at h
    ·rename_i xs hxs
     split at h
     ·rename_i bs hbs
      simp only [Option.some.injEq, Prod.mk.injEq] at h
      obtain ⟨rfl, rfl⟩ := h
      exact ⟨rfl, fun σ1 _ h1 => by rw [hr σ1 h1, hxs]; simp only [hbs]⟩
     ·cases h
    ·cases h
  ·exact bY.no fun σ _ => rfl
 ·split
  ·split
   ·rename_i s
    refine bY.push (x := .slc n 1 0 s.size none) fun σ hn => by rw [hn]
   ·exact bY.no fun σ _ => rfl
  ·exact bY.no fun σ _ => rfl
 ·split
  ·rename_i id sz off len cap _
   refine bY.still fun σ v σ' h => ?_
   have hr : ∀ σ1 : List Ob, (∀ id, id ∈ T → σ1[id]? = σ[id]?) → σ1[id]? = σ[id]? := fun σ1 h1 => h1 id (hx id (by simp [AV.ids]))
   split at h
   ·rename_i s0 xs hid
    split at h
    ·rename_i hc
     simp only [Option.some.injEq, Prod.mk.injEq] at h
     obtain ⟨rfl, rfl⟩ := h
     exact ⟨rfl, fun σ1 _ h1 => by rw [hr σ1 h1, hid]; simp only [hc, ne_eq, not_false_eq_true, and_self, if_true]⟩
    ·cases h
   ·cases h
  ·exact bY.no fun σ _ => rfl
 ·split
  ·split
   ·exact bY.keep _ fun σ _ => rfl
   ·exact bY.no fun σ _ => rfl
  ·exact bY.no fun σ _ => rfl
 ·exact bY.no fun σ _ => rfl
theorem Fw {P : Program} {t : TypeId} {len : Nat} {ps : List (Nat × AV)} {T : List Nat} {n : Nat} (hx : ∀ i, i ∈ kg (ps.map (·.2)) → i ∈ T) : bY T n (fun σ => iX P σ t len ps) := by
 unfold iX
 split
 ·rename_i e he
  rcases bU P e with _ | s
  ·exact bY.no fun σ _ => rfl
  rcases zeroOf P e with _ | z
  ·exact bY.no fun σ _ => rfl
  simp only
  split
  ·exact bY.bind (F := fun σ => jR σ s 0 ps) (H := fun ds σ1 => some (AV.slc σ1.length s 0 len (some len), σ1 ++ [.row s ds true])) (H7 ps 0 hx) (fun σ y σ' hn h => by rw [pV h, hn]) (fun ds => bY.push (x := .slc n s 0 len (some len)) fun σ hn => by rw [hn]) (fun σ => by rcases jR σ s 0 ps with _ | ⟨a, b⟩ <;> rfl)
  ·exact bY.no fun σ _ => rfl
 ·exact bY.no fun σ _ => rfl
theorem Ib {P : Program} {t : TypeId} {l c : AV} {T : List Nat} {n : Nat} : bY T n (fun σ => iM P σ t l c) := by
 unfold iM
 split
 ·split
  ·split
   ·rename_i i z _ _ _
    refine bY.push (x := .slc n i.size 0 _ _) fun σ hn => by rw [hn]
   ·exact bY.no fun σ _ => rfl
  ·exact bY.no fun σ _ => rfl
 ·exact bY.no fun σ _ => rfl
theorem K5 {P : Program} {t : TypeId} {r : Option AV} {T : List Nat} {n : Nat} : bY T n (fun σ => sU P σ t r) := by
 unfold sU
 split
 ·exact bY.push (x := .qN n) fun σ hn => by rw [hn]
 ·exact bY.push (x := .qN n) fun σ hn => by rw [hn]
 ·exact bY.no fun σ _ => rfl
theorem K6 {P : Program} {t : TypeId} {v i : AV} {ok : Bool} {σ σ1 : List Ob} (h : ∀ id, id ∈ v.ids → σ1[id]? = σ[id]?) : wV P σ1 t v i ok = wV P σ t v i ok := by
 cases v
 case qN id =>
  unfold wV
  split
  ·rename_i td e id' k hT hx
   cases hx
   rw [h _ (by simp [AV.ids])]
  ·rfl
 all_goals
  unfold wV
  split
  ·rename_i h; cases h
  ·rfl
theorem Vy {T : List Nat} {n : Nat} (x : AV) (hT : ∀ i, i ∈ x.ids → i ∈ T) : bY T n (fun σ => zH σ x) := by
 unfold zH
 by_cases ha : x.isAgg
 ·simp only [ha, if_true]
  exact bY.bind (F := fun σ => jN σ x.cells) (H := fun ds σ => some (D.agg ds, σ)) (Cc _ fun j hj => hT j (Aw x j hj)) (fun σ y σ' hn h => by rw [jD h, hn]) (fun ds => bY.keep _ fun σ _ => rfl) (fun σ => by rcases jN σ x.cells with _ | ⟨c, d⟩ <;> rfl)
 ·simp only [ha]
  exact KM x hT
theorem Nb {x : AV} {σ σ' : List Ob} {y : D} (h : zH σ x = some (y, σ')) : σ'.length = σ.length := by
 unfold zH at h
 split at h
 ·split at h
  ·rename_i es σ1 hfz
   simp only [Option.some.injEq, Prod.mk.injEq] at h
   rw [← h.2, jD hfz]
  ·cases h
 ·rw [sG h]
theorem Ia {P : Program} {t : TypeId} {m i v : AV} {T : List Nat} {n : Nat} (hm : ∀ i, i ∈ m.ids → i ∈ T) (hv : ∀ i, i ∈ v.ids → i ∈ T) : bY T n (fun σ => sS P σ t m i v) := by
 unfold sS
 split
 ·rename_i td e id k hT
  have hid : id ∈ T := hm id (by simp [AV.ids])
  split
  ·refine bY.bind (F := fun σ => zH σ v) (H := fun y σ1 => match σ1[id]? with
    | some (.map es) => match XH k y es with
     | some es' => some (AV.tuple [], σ1.set id (.map es'))
     | none => none
    | _ => none) (Vy v hv) (fun σ y σ' hn h => by rw [Nb h, hn]) (fun y => ?_) (fun σ => by rcases zH σ v with _ | ⟨a, b⟩ <;> rfl)
   refine bY.read (fun σ => σ[id]?) (fun σ σ1 h => h id hid) (fun a σ => match a with
    | some (.map es) => match XH k y es with
     | some es' => some (AV.tuple [], σ.set id (.map es'))
     | none => none
    | _ => none) (fun σ => rfl) (fun a => ?_)
   split
   ·split
    ·exact bY.set hid fun σ _ => rfl
    ·exact bY.no fun σ _ => rfl
   ·exact bY.no fun σ _ => rfl
  ·exact bY.no fun σ _ => rfl
 ·exact bY.no fun σ _ => rfl
end Lv
