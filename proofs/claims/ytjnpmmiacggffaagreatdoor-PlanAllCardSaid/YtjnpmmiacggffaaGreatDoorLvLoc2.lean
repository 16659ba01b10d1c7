/- What an operation looks at, all of them. -/
import Derived.Test.YtjnpmmiacggffaaGreatDoorLvLoc
/- What an operation looks at, all of them. -/
namespace Lv
open Go
set_option linter.unusedVariables false
set_option linter.unusedSimpArgs false
set_option linter.unusedSectionVars false
variable [bJ]
def Lj {β : Type} (T : List Nat) (σ : List Ob) (y : β) (σ' : List Ob) (G : List Ob → Option (β × List Ob)) : Prop :=
 σ.length ≤ σ'.length ∧ (∀ id, id < σ.length → id ∉ T → σ'[id]? = σ[id]?) ∧
 ∀ σ1 : List Ob, σ1.length = σ.length → (∀ id, id ∈ T → σ1[id]? = σ[id]?) → ∃ GN, G σ1 = some (y, GN) ∧ GN.length = σ'.length ∧ (∀ id, (id ∈ T ∨ σ.length ≤ id) → GN[id]? = σ'[id]?) ∧ (∀ id, id ∉ T → id < σ.length → GN[id]? = σ1[id]?)
theorem dD.at {β : Type} {T : List Nat} {n : Nat} {G : List Ob → Option (β × List Ob)} (h : dD T n G) {σ : List Ob} {y : β} {σ' : List Ob} (hn : σ.length = n) (hg : G σ = some (y, σ')) : Lj T σ y σ' G := by
 subst hn
 exact h σ y σ' rfl hg
theorem Lj.still {β : Type} {T : List Nat} {σ : List Ob} {y : β} {σ' : List Ob} {G : List Ob → Option (β × List Ob)} (h : G σ = some (y, σ')) (hs : ∀ v σ', G σ = some (v, σ') → σ' = σ ∧ ∀ σ1, G σ1 = some (v, σ1)) : Lj T σ y σ' G := by
 obtain ⟨rfl, h2⟩ := hs y σ' h
 refine ⟨Nat.le_refl _, fun _ _ _ => rfl, fun σ1 h1 h3 => ⟨σ1, h2 σ1, h1, fun id hid => ?_, fun _ _ _ => rfl⟩⟩
 rcases hid with hid | hid
 ·exact h3 id hid
 ·rw [List.getElem?_eq_none (by omega), List.getElem?_eq_none (by omega)]
theorem uj (σ : List Ob) : ∀ (n : Nat) (todo seen : List Nat) (i : Nat), i ∈ seen → i ∈ reach σ n todo seen
 | 0, todo, seen, i, h => by simpa [reach] using h
 | n + 1, [], seen, i, h => by simpa [reach] using h
 | n + 1, j :: r, seen, i, h => by
  simp only [reach]
  split
  ·exact uj σ n r seen i h
  ·split
   ·exact uj σ n _ _ i (by simp [h])
   ·exact uj σ n _ _ i (by simp [h])
theorem vo (σ σ1 : List Ob) : ∀ (n : Nat) (todo seen : List Nat), (∀ i, i ∈ reach σ n todo seen → σ1[i]? = σ[i]?) → reach σ1 n todo seen = reach σ n todo seen
 | 0, todo, seen, h => rfl
 | n + 1, [], seen, h => rfl
 | n + 1, j :: r, seen, h => by
  simp only [reach] at h ⊢
  split
  ·rename_i hc
   simp only [hc, if_true] at h
   exact vo σ σ1 n r seen h
  ·rename_i hc
   simp only [hc] at h
   have hj : σ1[j]? = σ[j]? := by
    apply h
    simp only [Bool.false_eq_true, if_false]
    split
    ·exact uj σ n _ _ j (by simp)
    ·exact uj σ n _ _ j (by simp)
   rw [hj]
   simp only [Bool.false_eq_true, if_false] at h
   split
   ·rename_i o ho
    simp only [ho] at h
    exact vo σ σ1 n _ _ h
   ·rename_i ho
    simp only [ho] at h
    exact vo σ σ1 n _ _ h
theorem sub_congr {σ σ1 : List Ob} {ι : List Nat} {g : Nat → Option Nat} : ∀ {l : List Nat}, (∀ i, i ∈ l → σ1[i]? = σ[i]?) → sub σ1 ι g l = sub σ ι g l
 | [], _ => rfl
 | i :: l, h => by
  simp only [sub]
  rw [h i (by simp), sub_congr fun j hj => h j (by simp [hj])]
theorem P8 {σ σ1 : List Ob} {roots : List Nat} (h : ∀ i, i ∈ reach σ 100000 roots [] → σ1[i]? = σ[i]?) : canon σ1 roots = canon σ roots := by
 unfold canon
 simp only
 rw [vo σ σ1 _ _ _ h, sub_congr h]
theorem P7 {σ : List Ob} {roots ι : List Nat} {os : List Ob} (h : canon σ roots = some (ι, os)) : ι = reach σ 100000 roots [] := by
 unfold canon at h
 simp only at h
 split at h
 ·simp only [Option.some.injEq, Prod.mk.injEq] at h
  exact h.1.symm
 ·cases h
theorem Rw {call : Callee} {f : FuncId} {args : List AV} {σ σ' : List Ob} {r : AV} (h : oF call f args σ = some (r, σ')) : Lj (reach σ 100000 (kL args) []) σ r σ' (fun σ => oF call f args σ) := by
 unfold oF at h
 split at h
 ·rename_i ι lM hcan
  obtain ⟨hnd, hl, hsub, _⟩ := A8 hcan
  have hι := P7 hcan
  split at h
  ·rename_i args' hargs
   split at h
   ·rename_i r' σ2 hcall
    split at h
    ·rename_i r2 os hr hos
     split at h
     ·rename_i hlen
      simp only [Option.some.injEq, Prod.mk.injEq] at h
      obtain ⟨rfl, rfl⟩ := h
      rw [← hι]
      have hsl := fQ ι (os.take ι.length) σ
      refine ⟨by simp [fQ], fun id hid hT => ?_, fun σ1 h1 h2 => ⟨jq σ1 ι (os.take ι.length) ++ os.drop ι.length, ?_, by simp [fQ, h1], fun id hid => ?_, fun id hT hid => ?_⟩⟩
      ·rw [List.getElem?_append_left (by rw [fQ]; exact hid), tQ _ _ _ _ hT]
      ·show oF call f args σ1 = _
       unfold oF
       rw [P8 (σ := σ) (σ1 := σ1) (by rw [← hι]; exact h2), hcan]
       simp only [hargs, hcall, h1, hr, hos, if_pos hlen]
      ·have hs1 := fQ ι (os.take ι.length) σ1
       by_cases hlt : id < σ.length
       ·have PS : id ∈ ι := hid.resolve_right (by omega)
        rw [List.getElem?_append_left (by omega), List.getElem?_append_left (by omega)]
        obtain ⟨k, hk⟩ := List.mem_iff_getElem?.1 PS
        have hkl := bU hk
        have hto : (os.take ι.length)[k]? = some os[k] := by
         rw [List.getElem?_take, if_pos hkl, List.getElem?_eq_getElem (by omega)]
        rw [Bl ι _ σ1 k id _ hnd hk hto (by omega), Bl ι _ σ k id _ hnd hk hto hlt]
       ·rw [List.getElem?_append_right (by omega), List.getElem?_append_right (by omega), hs1, hsl, h1]
      ·rw [List.getElem?_append_left (by rw [fQ]; omega), tQ _ _ _ _ hT]
     ·cases h
    ·cases h
   ·cases h
  ·cases h
 ·cases h
theorem Ic {P : Program} {call : Callee} {env : List AV} {σ σ' : List Ob} {o : Oper} {v : AV} (h : lD P call env σ o = some (v, σ')) : Lj (touches env σ o).1 σ v σ' (fun σ => lD P call env σ o) := by
  unfold lD touches at *
  generalize o.op = op at *
  cases op
  case alloc t =>
    refine dD.at (dD.pushes fun σ v σ' h => ?_) rfl h
    dsimp only at h ⊢
    split at h
    · simp only [Option.some.injEq, Prod.mk.injEq] at h
      obtain ⟨rfl, rfl⟩ := h
      exact ⟨_, rfl, fun σ1 hl _ => by rw [hl]⟩
    · cases h
  case box t x =>
    refine dD.at (dD.pushes fun σ v σ' h => ?_) rfl h
    dsimp only at h ⊢
    split at h
    · cases h
    · simp only [Option.some.injEq, Prod.mk.injEq] at h
      obtain ⟨rfl, rfl⟩ := h
      exact ⟨_, rfl, fun σ1 hl _ => by rw [hl]⟩
    · cases h
  case load t x =>
    dsimp only at h ⊢
    split at h
    · rename_i a ha
      refine dD.at (dD.still fun σ v σ' h => ?_) rfl h
      split at h
      · rename_i y hy
        simp only [Option.some.injEq, Prod.mk.injEq] at h
        obtain ⟨rfl, rfl⟩ := h
        exact ⟨rfl, fun σ1 _ h1 => by rw [RH fun id hid => h1 id (by simpa [ha] using hid), hy]⟩
      · cases h
    · cases h
  case store t x y =>
    dsimp only at h ⊢
    split at h
    · rename_i a b ha hb
      exact dD.at (RG (fun i hi => by simp [ha, hi]) (fun i hi => by simp [hb, hi])) rfl h
    · cases h
  case convert t t' x =>
    dsimp only at h ⊢
    split at h
    · rename_i a ha
      exact dD.at (N9 (fun i hi => by simpa [ha] using hi)) rfl h
    · cases h
  case buildSlice t len ps =>
    dsimp only at h ⊢
    split at h
    · rename_i l hl
      exact dD.at (Hy (fun i hi => by simpa [hl] using hi)) rfl h
    · cases h
  case makeSlice t l c =>
    dsimp only at h ⊢
    split at h
    · exact dD.at Kg rfl h
    · cases h
  case makeMap t r =>
    dsimp only at h ⊢
    split at h
    · exact dD.at NZ rfl h
    · cases h
  case lookup t x i ok =>
    dsimp only at h ⊢
    split at h
    · rename_i a b ha hb
      refine dD.at (dD.still fun σ v σ' h => ?_) rfl h
      split at h
      · rename_i y hy
        simp only [Option.some.injEq, Prod.mk.injEq] at h
        obtain ⟨rfl, rfl⟩ := h
        exact ⟨rfl, fun σ1 _ h1 => by rw [N7 fun id hid => h1 id (by simpa [ha] using hid), hy]⟩
      · cases h
    · cases h
  case mapUpdate t x y z =>
    dsimp only at h ⊢
    split at h
    · rename_i a b c ha hb hc
      exact dD.at (Ke (fun i hi => by simp [ha, hi]) (fun i hi => by simp [hc, hi])) rfl h
    · cases h
  case call c =>
    dsimp only at h ⊢
    split at h
    · rename_i args hargs
      rcases jd : c.callee with f | ⟨rc, mt⟩ | b
      · simp only [jd] at h ⊢
        unfold nU at h ⊢
        simp only [jd] at h ⊢
        split at h
        · rename_i f' first caps hf
          simp only [hf] at h ⊢
          split at h
          · rename_i hcl
            simp only [hcl, if_true, hargs]
            exact Rw h
          · rename_i hcl
            simp only [hcl]
            refine Lj.still (G := fun σ => outside P f' (first ++ args ++ caps) σ) h fun v σ' h => ?_
            unfold outside at h ⊢
            split at h
            · split at h
              · rename_i u hu
                split at h
                · rename_i y hy
                  simp only [Option.some.injEq, Prod.mk.injEq] at h
                  obtain ⟨rfl, rfl⟩ := h
                  exact ⟨rfl, fun σ1 => by simp only [hu, hy]⟩
                · cases h
              · cases h
            · cases h
        · cases h
      · simp only [jd, nU] at h
        cases h
      · cases b
        case len =>
          simp only [jd] at h ⊢
          unfold nU at h ⊢
          simp only [jd] at h ⊢
          refine Lj.still h fun v σ' h => ?_
          split at h
          · split at h
            · rename_i y hy
              simp only [Option.some.injEq, Prod.mk.injEq] at h
              obtain ⟨rfl, rfl⟩ := h
              exact ⟨rfl, fun σ1 => by simp only [hy]⟩
            · cases h
          · cases h
        case append =>
          simp only [jd] at h ⊢
          unfold nU at h ⊢
          simp only [jd] at h ⊢
          split at h
          · split at h
            · cases h
            · rename_i hby
              simp only [hby]
              refine dD.at (Qf (fun i hi => by simp [hargs, kL, hi]) (fun i hi => by simp [hargs, kL, hi])) rfl h
          · cases h
        case copy =>
          simp only [jd] at h ⊢
          unfold nU at h ⊢
          simp only [jd] at h ⊢
          split at h
          · refine dD.at (U4 (fun i hi => by simp [hargs, kL, hi]) (fun i hi => by simp [hargs, kL, hi])) rfl h
          · cases h
        case max =>
          simp only [jd] at h ⊢
          unfold nU at h ⊢
          simp only [jd] at h ⊢
          refine Lj.still h fun v σ' h => ?_
          split at h
          · split at h
            · rename_i y hy
              simp only [Option.some.injEq, Prod.mk.injEq] at h
              obtain ⟨rfl, rfl⟩ := h
              exact ⟨rfl, fun σ1 => by simp only [hy]⟩
            · cases h
          · cases h
        case min =>
          simp only [jd] at h ⊢
          unfold nU at h ⊢
          simp only [jd] at h ⊢
          refine Lj.still h fun v σ' h => ?_
          split at h
          · split at h
            · rename_i y hy
              simp only [Option.some.injEq, Prod.mk.injEq] at h
              obtain ⟨rfl, rfl⟩ := h
              exact ⟨rfl, fun σ1 => by simp only [hy]⟩
            · cases h
          · cases h
        all_goals (simp only [jd, nU] at h; cases h)
    · cases h
  all_goals first
    | (cases h; done)
    | (refine Lj.still h fun v σ' h => ?_
       dsimp only at h ⊢
       repeat' split at h
       all_goals first
         | (cases h; done)
         | (simp only [Option.some.injEq, Prod.mk.injEq] at h
            obtain ⟨rfl, rfl⟩ := h
            exact ⟨rfl, fun σ1 => by simp [*]⟩))
theorem UZ {P : Program} {call : Callee} {env : List AV} {σ σ' : List Ob} {o : Oper} {v : AV} (h : lD P call env σ o = some (v, σ')) (hw : (touches env σ o).2 = false) : ∀ id, id < σ.length → σ'[id]? = σ[id]? := by
  have app : ∀ (ob : Ob) (id : Nat), id < σ.length → (σ ++ [ob])[id]? = σ[id]? := fun ob id hid => by rw [List.getElem?_append_left hid]
  unfold lD touches at *
  generalize o.op = op at *
  cases op
  case call c =>
    dsimp only at h hw
    split at h
    · rename_i args hargs
      rcases jd : c.callee with f | ⟨rc, mt⟩ | b
      · simp only [jd] at hw; cases hw
      · simp only [jd, nU] at h; cases h
      · cases b
        case len =>
          simp only [jd, nU] at h
          split at h
          · split at h
            · simp only [Option.some.injEq, Prod.mk.injEq] at h
              rw [← h.2]; exact fun _ _ => rfl
            · cases h
          · cases h
        all_goals (simp only [jd] at hw; cases hw)
    · cases h
  case convert t t' x =>
    dsimp only at h
    split at h
    · unfold gG at h
      repeat' split at h
      all_goals first
        | (cases h; done)
        | (simp only [Option.some.injEq, Prod.mk.injEq] at h
           rw [← h.2]
           first
             | exact fun _ _ => rfl
             | exact app _)
    · cases h
  case makeMap t r =>
    dsimp only at h
    split at h
    · unfold uN at h
      repeat' split at h
      all_goals first
        | (cases h; done)
        | (simp only [Option.some.injEq, Prod.mk.injEq] at h
           rw [← h.2]
           exact app _)
    · cases h
  case makeSlice t l c =>
    dsimp only at h
    split at h
    · unfold jk at h
      repeat' split at h
      all_goals first
        | (cases h; done)
        | (simp only [Option.some.injEq, Prod.mk.injEq] at h
           rw [← h.2]
           exact app _)
    · cases h
  all_goals first
    | (cases hw; done)
    | (cases h; done)
    | (dsimp only at h
       repeat' split at h
       all_goals first
         | (cases h; done)
         | (simp only [Option.some.injEq, Prod.mk.injEq] at h
            rw [← h.2]
            first
              | exact fun _ _ => rfl
              | exact app _))
theorem Uj {env env' : List AV} {x : Operand} (h : ∀ t, x = .tmp t → env'[t]? = env[t]?) : ow env' x = ow env x := by
 cases x
 case tmp t => exact h t rfl
 all_goals rfl
theorem yw {env env' : List AV} : ∀ {l : List Operand}, (∀ x, x ∈ l → ow env' x = ow env x) → Ar env' l = Ar env l
 | [], _ => rfl
 | x :: l, h => by
  simp only [Ar]
  rw [h x (by simp), yw fun y hy => h y (by simp [hy])]
theorem wu {env env' : List AV} : ∀ {l : List (Nat × Operand)}, (∀ x, x ∈ l.map (·.2) → ow env' x = ow env x) → partsOf env' l = partsOf env l
 | [], _ => rfl
 | (i, x) :: l, h => by
  simp only [partsOf]
  rw [h x (by simp), wu fun y hy => h y (by simp only [List.map_cons, List.mem_cons]; exact .inr hy)]
theorem Aq {env env' : List AV} {x : Option Operand} (h : ∀ y, x = some y → ow env' y = ow env y) : xw env' x = xw env x := by
 cases x with
 | none => rfl
 | some y => simp only [xw]; rw [h y rfl]
theorem Z7 {P : Program} {call : Callee} {env env' : List AV} {σ : List Ob} {o : Oper} (h : ∀ t, t ∈ MI o → env'[t]? = env[t]?) : lD P call env' σ o = lD P call env σ o := by
 have hx : ∀ x, x ∈ o.op.operands.toList → ow env' x = ow env x := by
  intro x hx
  refine Uj fun t ht => h t ?_
  subst ht
  unfold MI
  rw [List.mem_filterMap]
  exact ⟨_, hx, rfl⟩
 clear h
 unfold lD
 generalize o.op = op at *
 cases op
 case build t ps =>
  dsimp only
  rw [wu fun x h => hx x (by simpa [Op.operands] using h)]
 case buildSlice t len ps =>
  dsimp only
  rw [wu fun x h => hx x (by simpa [Op.operands] using h)]
 case slice t x l hh m =>
  dsimp only
  rw [hx x (by simp [Op.operands]), Aq (x := l) fun y e => hx y (by simp [Op.operands, e]), Aq (x := hh) fun y e => hx y (by simp [Op.operands, e]), Aq (x := m) fun y e => hx y (by simp [Op.operands, e])]
 case makeFunc f first caps =>
  dsimp only
  rw [yw fun x h => hx x (by simpa [Op.operands] using Or.inl h), yw fun x h => hx x (by simpa [Op.operands] using Or.inr h)]
 case pick c a b =>
  dsimp only
  rw [hx c (by simp [Op.operands])]
  split
  ·rename_i t ht
   cases t
   ·simp only [Bool.false_eq_true, if_false, hx b (by simp [Op.operands])]
   ·simp only [if_true, hx a (by simp [Op.operands])]
  ·rfl
 case call c =>
  dsimp only
  rw [yw fun x h => hx x (by simp [Op.operands, Call.operands, h])]
  rcases jd : c.callee with f | ⟨rc, mt⟩ | b
  ·simp only
   rw [hx f (by simp [Op.operands, Call.operands, jd])]
  ·rfl
  ·rfl
 case move x => dsimp only; rw [hx x (by simp [Op.operands])]
 case assign x => dsimp only; rw [hx x (by simp [Op.operands])]
 case box t x => dsimp only; rw [hx x (by simp [Op.operands])]
 case load t x => dsimp only; rw [hx x (by simp [Op.operands])]
 case nilCheck x => dsimp only; rw [hx x (by simp [Op.operands])]
 case unOp op t x => dsimp only; rw [hx x (by simp [Op.operands])]
 case convert t t' x => dsimp only; rw [hx x (by simp [Op.operands])]
 case fieldAddr t x f => dsimp only; rw [hx x (by simp [Op.operands])]
 case field t x f => dsimp only; rw [hx x (by simp [Op.operands])]
 case extract x i => dsimp only; rw [hx x (by simp [Op.operands])]
 case makeInterface t x => dsimp only; rw [hx x (by simp [Op.operands])]
 case typeAssert x t a ok => dsimp only; rw [hx x (by simp [Op.operands])]
 case store t x y => dsimp only; rw [hx x (by simp [Op.operands]), hx y (by simp [Op.operands])]
 case binOp op t x y z => dsimp only; rw [hx x (by simp [Op.operands]), hx y (by simp [Op.operands])]
 case makeSlice t x y => dsimp only; rw [hx x (by simp [Op.operands]), hx y (by simp [Op.operands])]
 case indexAddr t x y => dsimp only; rw [hx x (by simp [Op.operands]), hx y (by simp [Op.operands])]
 case index t x y => dsimp only; rw [hx x (by simp [Op.operands]), hx y (by simp [Op.operands])]
 case lookup t x y ok => dsimp only; rw [hx x (by simp [Op.operands]), hx y (by simp [Op.operands])]
 case mapUpdate t x y z => dsimp only; rw [hx x (by simp [Op.operands]), hx y (by simp [Op.operands]), hx z (by simp [Op.operands])]
 case makeMap t r =>
  dsimp only
  cases r with
  | none => rfl
  | some x => simp only [xw]; rw [hx x (by simp [Op.operands])]
 all_goals rfl
theorem TB {ops : Array Oper} {env env' : List AV} {o : Oper} (h : ∀ t, t ∈ JG ops o → env'[t]? = env[t]?) : wants ops env' o = wants ops env o := by
 unfold wants
 split
 ·rfl
 ·rename_i j want hg
  split
  ·rename_i t ht
   rw [h t (by unfold JG; rw [hg]; simp [ht])]
  ·rfl
end Lv
