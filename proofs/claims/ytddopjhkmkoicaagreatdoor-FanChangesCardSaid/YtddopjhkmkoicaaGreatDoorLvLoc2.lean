/- What an operation looks at, all of them. -/
import Derived.Test.YtddopjhkmkoicaaGreatDoorLvLoc
/- What an operation looks at, all of them. -/
namespace Lv
open Go
set_option linter.unusedVariables false
set_option linter.unusedSimpArgs false
set_option linter.unusedSectionVars false
variable [BaseTab]
def LocC {β : Type} (T : List Nat) (σ : List Ob) (y : β) (σ' : List Ob) (G : List Ob → Option (β × List Ob)) : Prop :=
 σ.length ≤ σ'.length ∧ (∀ id, id < σ.length → id ∉ T → σ'[id]? = σ[id]?) ∧
 ∀ σ1 : List Ob, σ1.length = σ.length → (∀ id, id ∈ T → σ1[id]? = σ[id]?) → ∃ σ1', G σ1 = some (y, σ1') ∧ σ1'.length = σ'.length ∧ (∀ id, (id ∈ T ∨ σ.length ≤ id) → σ1'[id]? = σ'[id]?) ∧ (∀ id, id ∉ T → id < σ.length → σ1'[id]? = σ1[id]?)
theorem Loc'.at {β : Type} {T : List Nat} {n : Nat} {G : List Ob → Option (β × List Ob)} (h : Loc' T n G) {σ : List Ob} {y : β} {σ' : List Ob} (hn : σ.length = n) (hg : G σ = some (y, σ')) : LocC T σ y σ' G := by
 subst hn
 exact h σ y σ' rfl hg
theorem LocC.still {β : Type} {T : List Nat} {σ : List Ob} {y : β} {σ' : List Ob} {G : List Ob → Option (β × List Ob)} (h : G σ = some (y, σ')) (hs : ∀ v σ', G σ = some (v, σ') → σ' = σ ∧ ∀ σ1, G σ1 = some (v, σ1)) : LocC T σ y σ' G := by
 obtain ⟨rfl, h2⟩ := hs y σ' h
 refine ⟨Nat.le_refl _, fun _ _ _ => rfl, fun σ1 h1 h3 => ⟨σ1, h2 σ1, h1, fun id hid => ?_, fun _ _ _ => rfl⟩⟩
 rcases hid with hid | hid
 ·exact h3 id hid
 ·rw [List.getElem?_eq_none (by omega), List.getElem?_eq_none (by omega)]
theorem reach_seen (σ : List Ob) : ∀ (n : Nat) (todo seen : List Nat) (i : Nat), i ∈ seen → i ∈ reach σ n todo seen
 | 0, todo, seen, i, h => by simpa [reach] using h
 | n + 1, [], seen, i, h => by simpa [reach] using h
 | n + 1, j :: r, seen, i, h => by
  simp only [reach]
  split
  ·exact reach_seen σ n r seen i h
  ·split
   ·exact reach_seen σ n _ _ i (by simp [h])
   ·exact reach_seen σ n _ _ i (by simp [h])
theorem reach_congr (σ σ1 : List Ob) : ∀ (n : Nat) (todo seen : List Nat), (∀ i, i ∈ reach σ n todo seen → σ1[i]? = σ[i]?) → reach σ1 n todo seen = reach σ n todo seen
 | 0, todo, seen, h => rfl
 | n + 1, [], seen, h => rfl
 | n + 1, j :: r, seen, h => by
  simp only [reach] at h ⊢
  split
  ·rename_i hc
   simp only [hc, if_true] at h
   exact reach_congr σ σ1 n r seen h
  ·rename_i hc
   simp only [hc] at h
   have hj : σ1[j]? = σ[j]? := by
    apply h
    simp only [Bool.false_eq_true, if_false]
    split
    ·exact reach_seen σ n _ _ j (by simp)
    ·exact reach_seen σ n _ _ j (by simp)
   rw [hj]
   simp only [Bool.false_eq_true, if_false] at h
   split
   ·rename_i o ho
    simp only [ho] at h
    exact reach_congr σ σ1 n _ _ h
   ·rename_i ho
    simp only [ho] at h
    exact reach_congr σ σ1 n _ _ h
theorem sub_congr {σ σ1 : List Ob} {ι : List Nat} {g : Nat → Option Nat} : ∀ {l : List Nat}, (∀ i, i ∈ l → σ1[i]? = σ[i]?) → sub σ1 ι g l = sub σ ι g l
 | [], _ => rfl
 | i :: l, h => by
  simp only [sub]
  rw [h i (by simp), sub_congr fun j hj => h j (by simp [hj])]
theorem canon_congr {σ σ1 : List Ob} {roots : List Nat} (h : ∀ i, i ∈ reach σ 100000 roots [] → σ1[i]? = σ[i]?) : canon σ1 roots = canon σ roots := by
 unfold canon
 simp only
 rw [reach_congr σ σ1 _ _ _ h, sub_congr h]
theorem canon_reach {σ : List Ob} {roots ι : List Nat} {os : List Ob} (h : canon σ roots = some (ι, os)) : ι = reach σ 100000 roots [] := by
 unfold canon at h
 simp only at h
 split at h
 ·simp only [Option.some.injEq, Prod.mk.injEq] at h
  exact h.1.symm
 ·cases h
theorem callIn_loc {call : Callee} {f : FuncId} {args : List AV} {σ σ' : List Ob} {r : AV} (h : callIn call f args σ = some (r, σ')) : LocC (reach σ 100000 (idsL args) []) σ r σ' (fun σ => callIn call f args σ) := by
 unfold callIn at h
 split at h
 ·rename_i ι σc hcan
  obtain ⟨hnd, hl, hsub, _⟩ := canon_sound hcan
  have hι := canon_reach hcan
  split at h
  ·rename_i args' hargs
   split at h
   ·rename_i r' σ2 hcall
    split at h
    ·rename_i r2 os hr hos
     split at h
     ·rename_i hlen
      simp only [Option.some.injEq, Prod.mk.injEq] at h
      obtain ⟨rfl, rfl⟩ := h
      rw [← hι]
      have hsl := setAll_length ι (os.take ι.length) σ
      refine ⟨by simp [setAll_length], fun id hid hT => ?_, fun σ1 h1 h2 => ⟨setAll σ1 ι (os.take ι.length) ++ os.drop ι.length, ?_, by simp [setAll_length, h1], fun id hid => ?_, fun id hT hid => ?_⟩⟩
      ·rw [List.getElem?_append_left (by rw [setAll_length]; exact hid), setAll_out _ _ _ _ hT]
      ·show callIn call f args σ1 = _
       unfold callIn
       rw [canon_congr (σ := σ) (σ1 := σ1) (by rw [← hι]; exact h2), hcan]
       simp only [hargs, hcall, h1, hr, hos, if_pos hlen]
      ·have hs1 := setAll_length ι (os.take ι.length) σ1
       by_cases hlt : id < σ.length
       ·have hid' : id ∈ ι := hid.resolve_right (by omega)
        rw [List.getElem?_append_left (by omega), List.getElem?_append_left (by omega)]
        obtain ⟨k, hk⟩ := List.mem_iff_getElem?.1 hid'
        have hkl := lt_of_get hk
        have hto : (os.take ι.length)[k]? = some os[k] := by
         rw [List.getElem?_take, if_pos hkl, List.getElem?_eq_getElem (by omega)]
        rw [setAll_in ι _ σ1 k id _ hnd hk hto (by omega), setAll_in ι _ σ k id _ hnd hk hto hlt]
       ·rw [List.getElem?_append_right (by omega), List.getElem?_append_right (by omega), hs1, hsl, h1]
      ·rw [List.getElem?_append_left (by rw [setAll_length]; omega), setAll_out _ _ _ _ hT]
     ·cases h
    ·cases h
   ·cases h
  ·cases h
 ·cases h
theorem aop_loc {P : Program} {call : Callee} {env : List AV} {σ σ' : List Ob} {o : Oper} {v : AV} (h : aop P call env σ o = some (v, σ')) : LocC (touches env σ o).1 σ v σ' (fun σ => aop P call env σ o) := by
  unfold aop touches at *
  generalize o.op = op at *
  cases op
  case alloc t =>
    refine Loc'.at (Loc'.pushes fun σ v σ' h => ?_) rfl h
    dsimp only at h ⊢
    split at h
    · simp only [Option.some.injEq, Prod.mk.injEq] at h
      obtain ⟨rfl, rfl⟩ := h
      exact ⟨_, rfl, fun σ1 hl _ => by rw [hl]⟩
    · cases h
  case box t x =>
    refine Loc'.at (Loc'.pushes fun σ v σ' h => ?_) rfl h
    dsimp only at h ⊢
    split at h
    · cases h
    · simp only [Option.some.injEq, Prod.mk.injEq] at h
      obtain ⟨rfl, rfl⟩ := h
      exact ⟨_, rfl, fun σ1 hl _ => by rw [hl]⟩
    · cases h
  case load t x =>
    dsimp only at h ⊢
    split at h
    · rename_i a ha
      refine Loc'.at (Loc'.still fun σ v σ' h => ?_) rfl h
      split at h
      · rename_i y hy
        simp only [Option.some.injEq, Prod.mk.injEq] at h
        obtain ⟨rfl, rfl⟩ := h
        exact ⟨rfl, fun σ1 _ h1 => by rw [aload_read fun id hid => h1 id (by simpa [ha] using hid), hy]⟩
      · cases h
    · cases h
  case store t x y =>
    dsimp only at h ⊢
    split at h
    · rename_i a b ha hb
      exact Loc'.at (astore_loc (fun i hi => by simp [ha, hi]) (fun i hi => by simp [hb, hi])) rfl h
    · cases h
  case convert t t' x =>
    dsimp only at h ⊢
    split at h
    · rename_i a ha
      exact Loc'.at (aconvert_loc (fun i hi => by simpa [ha] using hi)) rfl h
    · cases h
  case buildSlice t len ps =>
    dsimp only at h ⊢
    split at h
    · rename_i l hl
      exact Loc'.at (abuildSlice_loc (fun i hi => by simpa [hl] using hi)) rfl h
    · cases h
  case makeSlice t l c =>
    dsimp only at h ⊢
    split at h
    · exact Loc'.at amakeSlice_loc rfl h
    · cases h
  case makeMap t r =>
    dsimp only at h ⊢
    split at h
    · exact Loc'.at amakeMap_loc rfl h
    · cases h
  case lookup t x i ok =>
    dsimp only at h ⊢
    split at h
    · rename_i a b ha hb
      refine Loc'.at (Loc'.still fun σ v σ' h => ?_) rfl h
      split at h
      · rename_i y hy
        simp only [Option.some.injEq, Prod.mk.injEq] at h
        obtain ⟨rfl, rfl⟩ := h
        exact ⟨rfl, fun σ1 _ h1 => by rw [alookup_read fun id hid => h1 id (by simpa [ha] using hid), hy]⟩
      · cases h
    · cases h
  case mapUpdate t x y z =>
    dsimp only at h ⊢
    split at h
    · rename_i a b c ha hb hc
      exact Loc'.at (amapUpdate_loc (fun i hi => by simp [ha, hi]) (fun i hi => by simp [hc, hi])) rfl h
    · cases h
  case call c =>
    dsimp only at h ⊢
    split at h
    · rename_i args hargs
      rcases hcal : c.callee with f | ⟨rc, mt⟩ | b
      · simp only [hcal] at h ⊢
        unfold acall at h ⊢
        simp only [hcal] at h ⊢
        split at h
        · rename_i f' first caps hf
          simp only [hf] at h ⊢
          split at h
          · rename_i hcl
            simp only [hcl, if_true, hargs]
            exact callIn_loc h
          · rename_i hcl
            simp only [hcl]
            refine LocC.still (G := fun σ => outside P f' (first ++ args ++ caps) σ) h fun v σ' h => ?_
            unfold outside at h ⊢
            split at h
            · split at h
              · rename_i u hu
                split at h
                · rename_i y hy
                  simp only [Option.some.injEq, Prod.mk.injEq] at h
                  obtain ⟨rfl, rfl⟩ := h
                  exact ⟨rfl, fun σ1 => by simp only [hu, hy]⟩
                · cases h
              · cases h
            · cases h
        · cases h
      · simp only [hcal, acall] at h
        cases h
      · cases b
        case len =>
          simp only [hcal] at h ⊢
          unfold acall at h ⊢
          simp only [hcal] at h ⊢
          refine LocC.still h fun v σ' h => ?_
          split at h
          · split at h
            · rename_i y hy
              simp only [Option.some.injEq, Prod.mk.injEq] at h
              obtain ⟨rfl, rfl⟩ := h
              exact ⟨rfl, fun σ1 => by simp only [hy]⟩
            · cases h
          · cases h
        case append =>
          simp only [hcal] at h ⊢
          unfold acall at h ⊢
          simp only [hcal] at h ⊢
          split at h
          · split at h
            · cases h
            · rename_i hby
              simp only [hby]
              refine Loc'.at (aappend_loc (fun i hi => by simp [hargs, idsL, hi]) (fun i hi => by simp [hargs, idsL, hi])) rfl h
          · cases h
        case copy =>
          simp only [hcal] at h ⊢
          unfold acall at h ⊢
          simp only [hcal] at h ⊢
          split at h
          · refine Loc'.at (acopy_loc (fun i hi => by simp [hargs, idsL, hi]) (fun i hi => by simp [hargs, idsL, hi])) rfl h
          · cases h
        case max =>
          simp only [hcal] at h ⊢
          unfold acall at h ⊢
          simp only [hcal] at h ⊢
          refine LocC.still h fun v σ' h => ?_
          split at h
          · split at h
            · rename_i y hy
              simp only [Option.some.injEq, Prod.mk.injEq] at h
              obtain ⟨rfl, rfl⟩ := h
              exact ⟨rfl, fun σ1 => by simp only [hy]⟩
            · cases h
          · cases h
        case min =>
          simp only [hcal] at h ⊢
          unfold acall at h ⊢
          simp only [hcal] at h ⊢
          refine LocC.still h fun v σ' h => ?_
          split at h
          · split at h
            · rename_i y hy
              simp only [Option.some.injEq, Prod.mk.injEq] at h
              obtain ⟨rfl, rfl⟩ := h
              exact ⟨rfl, fun σ1 => by simp only [hy]⟩
            · cases h
          · cases h
        all_goals (simp only [hcal, acall] at h; cases h)
    · cases h
  all_goals first
    | (cases h; done)
    | (refine LocC.still h fun v σ' h => ?_
       dsimp only at h ⊢
       repeat' split at h
       all_goals first
         | (cases h; done)
         | (simp only [Option.some.injEq, Prod.mk.injEq] at h
            obtain ⟨rfl, rfl⟩ := h
            exact ⟨rfl, fun σ1 => by simp [*]⟩))
theorem aop_reads {P : Program} {call : Callee} {env : List AV} {σ σ' : List Ob} {o : Oper} {v : AV} (h : aop P call env σ o = some (v, σ')) (hw : (touches env σ o).2 = false) : ∀ id, id < σ.length → σ'[id]? = σ[id]? := by
  have app : ∀ (ob : Ob) (id : Nat), id < σ.length → (σ ++ [ob])[id]? = σ[id]? := fun ob id hid => by rw [List.getElem?_append_left hid]
  unfold aop touches at *
  generalize o.op = op at *
  cases op
  case call c =>
    dsimp only at h hw
    split at h
    · rename_i args hargs
      rcases hcal : c.callee with f | ⟨rc, mt⟩ | b
      · simp only [hcal] at hw; cases hw
      · simp only [hcal, acall] at h; cases h
      · cases b
        case len =>
          simp only [hcal, acall] at h
          split at h
          · split at h
            · simp only [Option.some.injEq, Prod.mk.injEq] at h
              rw [← h.2]; exact fun _ _ => rfl
            · cases h
          · cases h
        all_goals (simp only [hcal] at hw; cases hw)
    · cases h
  case convert t t' x =>
    dsimp only at h
    split at h
    · unfold aconvert at h
      repeat' split at h
      all_goals first
        | (cases h; done)
        | (simp only [Option.some.injEq, Prod.mk.injEq] at h
           rw [← h.2]
           first
             | exact fun _ _ => rfl
             | exact app _)
    · cases h
  case makeMap t r =>
    dsimp only at h
    split at h
    · unfold amakeMap at h
      repeat' split at h
      all_goals first
        | (cases h; done)
        | (simp only [Option.some.injEq, Prod.mk.injEq] at h
           rw [← h.2]
           exact app _)
    · cases h
  case makeSlice t l c =>
    dsimp only at h
    split at h
    · unfold amakeSlice at h
      repeat' split at h
      all_goals first
        | (cases h; done)
        | (simp only [Option.some.injEq, Prod.mk.injEq] at h
           rw [← h.2]
           exact app _)
    · cases h
  all_goals first
    | (cases hw; done)
    | (cases h; done)
    | (dsimp only at h
       repeat' split at h
       all_goals first
         | (cases h; done)
         | (simp only [Option.some.injEq, Prod.mk.injEq] at h
            rw [← h.2]
            first
              | exact fun _ _ => rfl
              | exact app _))
theorem opd_congr {env env' : List AV} {x : Operand} (h : ∀ t, x = .tmp t → env'[t]? = env[t]?) : opd env' x = opd env x := by
 cases x
 case tmp t => exact h t rfl
 all_goals rfl
theorem opds_congr {env env' : List AV} : ∀ {l : List Operand}, (∀ x, x ∈ l → opd env' x = opd env x) → opds env' l = opds env l
 | [], _ => rfl
 | x :: l, h => by
  simp only [opds]
  rw [h x (by simp), opds_congr fun y hy => h y (by simp [hy])]
theorem partsOf_congr {env env' : List AV} : ∀ {l : List (Nat × Operand)}, (∀ x, x ∈ l.map (·.2) → opd env' x = opd env x) → partsOf env' l = partsOf env l
 | [], _ => rfl
 | (i, x) :: l, h => by
  simp only [partsOf]
  rw [h x (by simp), partsOf_congr fun y hy => h y (by simp only [List.map_cons, List.mem_cons]; exact .inr hy)]
theorem optOf_congr {env env' : List AV} {x : Option Operand} (h : ∀ y, x = some y → opd env' y = opd env y) : optOf env' x = optOf env x := by
 cases x with
 | none => rfl
 | some y => simp only [optOf]; rw [h y rfl]
theorem aop_env {P : Program} {call : Callee} {env env' : List AV} {σ : List Ob} {o : Oper} (h : ∀ t, t ∈ tempsOf o → env'[t]? = env[t]?) : aop P call env' σ o = aop P call env σ o := by
 have hx : ∀ x, x ∈ o.op.operands.toList → opd env' x = opd env x := by
  intro x hx
  refine opd_congr fun t ht => h t ?_
  subst ht
  unfold tempsOf
  rw [List.mem_filterMap]
  exact ⟨_, hx, rfl⟩
 clear h
 unfold aop
 generalize o.op = op at *
 cases op
 case build t ps =>
  dsimp only
  rw [partsOf_congr fun x h => hx x (by simpa [Op.operands] using h)]
 case buildSlice t len ps =>
  dsimp only
  rw [partsOf_congr fun x h => hx x (by simpa [Op.operands] using h)]
 case slice t x l hh m =>
  dsimp only
  rw [hx x (by simp [Op.operands]), optOf_congr (x := l) fun y e => hx y (by simp [Op.operands, e]), optOf_congr (x := hh) fun y e => hx y (by simp [Op.operands, e]), optOf_congr (x := m) fun y e => hx y (by simp [Op.operands, e])]
 case makeFunc f first caps =>
  dsimp only
  rw [opds_congr fun x h => hx x (by simpa [Op.operands] using Or.inl h), opds_congr fun x h => hx x (by simpa [Op.operands] using Or.inr h)]
 case pick c a b =>
  dsimp only
  rw [hx c (by simp [Op.operands])]
  split
  ·rename_i t ht
   cases t
   ·simp only [Bool.false_eq_true, if_false, hx b (by simp [Op.operands])]
   ·simp only [if_true, hx a (by simp [Op.operands])]
  ·rfl
 case call c =>
  dsimp only
  rw [opds_congr fun x h => hx x (by simp [Op.operands, Call.operands, h])]
  rcases hcal : c.callee with f | ⟨rc, mt⟩ | b
  ·simp only
   rw [hx f (by simp [Op.operands, Call.operands, hcal])]
  ·rfl
  ·rfl
 case move x => dsimp only; rw [hx x (by simp [Op.operands])]
 case assign x => dsimp only; rw [hx x (by simp [Op.operands])]
 case box t x => dsimp only; rw [hx x (by simp [Op.operands])]
 case load t x => dsimp only; rw [hx x (by simp [Op.operands])]
 case nilCheck x => dsimp only; rw [hx x (by simp [Op.operands])]
 case unOp op t x => dsimp only; rw [hx x (by simp [Op.operands])]
 case convert t t' x => dsimp only; rw [hx x (by simp [Op.operands])]
 case fieldAddr t x f => dsimp only; rw [hx x (by simp [Op.operands])]
 case field t x f => dsimp only; rw [hx x (by simp [Op.operands])]
 case extract x i => dsimp only; rw [hx x (by simp [Op.operands])]
 case makeInterface t x => dsimp only; rw [hx x (by simp [Op.operands])]
 case typeAssert x t a ok => dsimp only; rw [hx x (by simp [Op.operands])]
 case store t x y => dsimp only; rw [hx x (by simp [Op.operands]), hx y (by simp [Op.operands])]
 case binOp op t x y z => dsimp only; rw [hx x (by simp [Op.operands]), hx y (by simp [Op.operands])]
 case makeSlice t x y => dsimp only; rw [hx x (by simp [Op.operands]), hx y (by simp [Op.operands])]
 case indexAddr t x y => dsimp only; rw [hx x (by simp [Op.operands]), hx y (by simp [Op.operands])]
 case index t x y => dsimp only; rw [hx x (by simp [Op.operands]), hx y (by simp [Op.operands])]
 case lookup t x y ok => dsimp only; rw [hx x (by simp [Op.operands]), hx y (by simp [Op.operands])]
 case mapUpdate t x y z => dsimp only; rw [hx x (by simp [Op.operands]), hx y (by simp [Op.operands]), hx z (by simp [Op.operands])]
 case makeMap t r =>
  dsimp only
  cases r with
  | none => rfl
  | some x => simp only [optOf]; rw [hx x (by simp [Op.operands])]
 all_goals rfl
theorem wants_env {ops : Array Oper} {env env' : List AV} {o : Oper} (h : ∀ t, t ∈ guardTmp ops o → env'[t]? = env[t]?) : wants ops env' o = wants ops env o := by
 unfold wants
 split
 ·rfl
 ·rename_i j want hg
  split
  ·rename_i t ht
   rw [h t (by unfold guardTmp; rw [hg]; simp [ht])]
  ·rfl
end Lv
