/- What an operation looks at, all of them. -/
import Derived.Test.YtddopjhkmkoicaaGreatDoorLvLoc
/- What an operation looks at, all of them. -/
namespace Lv
open Go
set_option linter.unusedVariables false
set_option linter.unusedSimpArgs false
set_option linter.unusedSectionVars false
variable [BaseTab]
def Jd {β : Type} (T : List Nat) (σ : List Ob) (y : β) (σ' : List Ob) (G : List Ob → Option (β × List Ob)) : Prop :=
 σ.length ≤ σ'.length ∧ (∀ id, id < σ.length → id ∉ T → σ'[id]? = σ[id]?) ∧
 ∀ σ1 : List Ob, σ1.length = σ.length → (∀ id, id ∈ T → σ1[id]? = σ[id]?) → ∃ EK, G σ1 = some (y, EK) ∧ EK.length = σ'.length ∧ (∀ id, (id ∈ T ∨ σ.length ≤ id) → EK[id]? = σ'[id]?) ∧ (∀ id, id ∉ T → id < σ.length → EK[id]? = σ1[id]?)
theorem bY.at {β : Type} {T : List Nat} {n : Nat} {G : List Ob → Option (β × List Ob)} (h : bY T n G) {σ : List Ob} {y : β} {σ' : List Ob} (hn : σ.length = n) (hg : G σ = some (y, σ')) : Jd T σ y σ' G := by
 subst hn
 exact h σ y σ' rfl hg
theorem Jd.still {β : Type} {T : List Nat} {σ : List Ob} {y : β} {σ' : List Ob} {G : List Ob → Option (β × List Ob)} (h : G σ = some (y, σ')) (hs : ∀ v σ', G σ = some (v, σ') → σ' = σ ∧ ∀ σ1, G σ1 = some (v, σ1)) : Jd T σ y σ' G := by
 obtain ⟨rfl, h2⟩ := hs y σ' h
 refine ⟨Nat.le_refl _, fun _ _ _ => rfl, fun σ1 h1 h3 => ⟨σ1, h2 σ1, h1, fun id hid => ?_, fun _ _ _ => rfl⟩⟩
 rcases hid with hid | hid
 ·exact h3 id hid
 ·rw [List.getElem?_eq_none (by omega), List.getElem?_eq_none (by omega)]
theorem rV (σ : List Ob) : ∀ (n : Nat) (todo seen : List Nat) (i : Nat), i ∈ seen → i ∈ reach σ n todo seen
 | 0, todo, seen, i, h => by simpa [reach] using h
 | n + 1, [], seen, i, h => by simpa [reach] using h
 | n + 1, j :: r, seen, i, h => by
  simp only [reach]
  split
  ·exact rV σ n r seen i h
  ·split
   ·exact rV σ n _ _ i (by simp [h])
   ·exact rV σ n _ _ i (by simp [h])
theorem tQ (σ σ1 : List Ob) : ∀ (n : Nat) (todo seen : List Nat), (∀ i, i ∈ reach σ n todo seen → σ1[i]? = σ[i]?) → reach σ1 n todo seen = reach σ n todo seen
 | 0, todo, seen, h => rfl
 | n + 1, [], seen, h => rfl
 | n + 1, j :: r, seen, h => by
  simp only [reach] at h ⊢
  split
  ·rename_i hc
   simp only [hc, if_true] at h
   exact tQ σ σ1 n r seen h
  ·rename_i hc
   simp only [hc] at h
   have hj : σ1[j]? = σ[j]? := by
    apply h
    simp only [Bool.false_eq_true, if_false]
    split
    ·exact rV σ n _ _ j (by simp)
    ·exact rV σ n _ _ j (by simp)
   rw [hj]
   simp only [Bool.false_eq_true, if_false] at h
   split
   ·rename_i o ho
    simp only [ho] at h
    exact tQ σ σ1 n _ _ h
   ·rename_i ho
    simp only [ho] at h
    exact tQ σ σ1 n _ _ h
theorem sub_congr {σ σ1 : List Ob} {ι : List Nat} {g : Nat → Option Nat} : ∀ {l : List Nat}, (∀ i, i ∈ l → σ1[i]? = σ[i]?) → sub σ1 ι g l = sub σ ι g l
 | [], _ => rfl
 | i :: l, h => by
  simp only [sub]
  rw [h i (by simp), sub_congr fun j hj => h j (by simp [hj])]
theorem Np {σ σ1 : List Ob} {roots : List Nat} (h : ∀ i, i ∈ reach σ 100000 roots [] → σ1[i]? = σ[i]?) : canon σ1 roots = canon σ roots := by
 unfold canon
 simp only
 rw [tQ σ σ1 _ _ _ h, sub_congr h]
theorem Nn {σ : List Ob} {roots ι : List Nat} {os : List Ob} (h : canon σ roots = some (ι, os)) : ι = reach σ 100000 roots [] := by
 unfold canon at h
 simp only at h
 split at h
 ·simp only [Option.some.injEq, Prod.mk.injEq] at h
  exact h.1.symm
 ·cases h
theorem Pz {call : Callee} {f : FuncId} {args : List AV} {σ σ' : List Ob} {r : AV} (h : nk call f args σ = some (r, σ')) : Jd (reach σ 100000 (kg args) []) σ r σ' (fun σ => nk call f args σ) := by
 unfold nk at h
 split at h
 ·rename_i ι lT hcan
  obtain ⟨hnd, hl, hsub, _⟩ := yT hcan
  have hι := Nn hcan
  split at h
  ·rename_i args' hargs
   split at h
   ·rename_i r' σ2 hcall
    split at h
    ·rename_i r2 os hr hos
     split at h
     ·rename_i hlen
      simp only [Option.some.injEq, Prod.mk.injEq] at h
      obtain ⟨rfl, rfl⟩ := h
      rw [← hι]
      have hsl := eO ι (os.take ι.length) σ
      refine ⟨by simp [eO], fun id hid hT => ?_, fun σ1 h1 h2 => ⟨jd σ1 ι (os.take ι.length) ++ os.drop ι.length, ?_, by simp [eO, h1], fun id hid => ?_, fun id hT hid => ?_⟩⟩
      ·rw [List.getElem?_append_left (by rw [eO]; exact hid), rO _ _ _ _ hT]
      ·show nk call f args σ1 = _
       unfold nk
       rw [Np (σ := σ) (σ1 := σ1) (by rw [← hι]; exact h2), hcan]
       simp only [hargs, hcall, h1, hr, hos, if_pos hlen]
      ·have hs1 := eO ι (os.take ι.length) σ1
       by_cases hlt : id < σ.length
       ·have M9 : id ∈ ι := hid.resolve_right (by omega)
        rw [List.getElem?_append_left (by omega), List.getElem?_append_left (by omega)]
        obtain ⟨k, hk⟩ := List.mem_iff_getElem?.1 M9
        have hkl := bE hk
        have hto : (os.take ι.length)[k]? = some os[k] := by
         rw [List.getElem?_take, if_pos hkl, List.getElem?_eq_getElem (by omega)]
        rw [za ι _ σ1 k id _ hnd hk hto (by omega), za ι _ σ k id _ hnd hk hto hlt]
       ·rw [List.getElem?_append_right (by omega), List.getElem?_append_right (by omega), hs1, hsl, h1]
      ·rw [List.getElem?_append_left (by rw [eO]; omega), rO _ _ _ _ hT]
     ·cases h
    ·cases h
   ·cases h
  ·cases h
 ·cases h
theorem FE {P : Program} {call : Callee} {env : List AV} {σ σ' : List Ob} {o : Oper} {v : AV} (h : kH P call env σ o = some (v, σ')) : Jd (touches env σ o).1 σ v σ' (fun σ => kH P call env σ o) := by
  unfold kH touches at *
  generalize o.op = op at *
  cases op
  case alloc t =>
    refine bY.at (bY.pushes fun σ v σ' h => ?_) rfl h
    dsimp only at h ⊢
    split at h
    · simp only [Option.some.injEq, Prod.mk.injEq] at h
      obtain ⟨rfl, rfl⟩ := h
      exact ⟨_, rfl, fun σ1 hl _ => by rw [hl]⟩
    · cases h
  case box t x =>
    refine bY.at (bY.pushes fun σ v σ' h => ?_) rfl h
    dsimp only at h ⊢
    split at h
    · cases h
    · simp only [Option.some.injEq, Prod.mk.injEq] at h
      obtain ⟨rfl, rfl⟩ := h
      exact ⟨_, rfl, fun σ1 hl _ => by rw [hl]⟩
    · cases h
  case load t x =>
    dsimp only at h ⊢
    split at h
    · rename_i a ha
      refine bY.at (bY.still fun σ v σ' h => ?_) rfl h
      split at h
      · rename_i y hy
        simp only [Option.some.injEq, Prod.mk.injEq] at h
        obtain ⟨rfl, rfl⟩ := h
        exact ⟨rfl, fun σ1 _ h1 => by rw [PS fun id hid => h1 id (by simpa [ha] using hid), hy]⟩
      · cases h
    · cases h
  case store t x y =>
    dsimp only at h ⊢
    split at h
    · rename_i a b ha hb
      exact bY.at (PN (fun i hi => by simp [ha, hi]) (fun i hi => by simp [hb, hi])) rfl h
    · cases h
  case convert t t' x =>
    dsimp only at h ⊢
    split at h
    · rename_i a ha
      exact bY.at (K9 (fun i hi => by simpa [ha] using hi)) rfl h
    · cases h
  case buildSlice t len ps =>
    dsimp only at h ⊢
    split at h
    · rename_i l hl
      exact bY.at (Fw (fun i hi => by simpa [hl] using hi)) rfl h
    · cases h
  case makeSlice t l c =>
    dsimp only at h ⊢
    split at h
    · exact bY.at Ib rfl h
    · cases h
  case makeMap t r =>
    dsimp only at h ⊢
    split at h
    · exact bY.at K5 rfl h
    · cases h
  case lookup t x i ok =>
    dsimp only at h ⊢
    split at h
    · rename_i a b ha hb
      refine bY.at (bY.still fun σ v σ' h => ?_) rfl h
      split at h
      · rename_i y hy
        simp only [Option.some.injEq, Prod.mk.injEq] at h
        obtain ⟨rfl, rfl⟩ := h
        exact ⟨rfl, fun σ1 _ h1 => by rw [K6 fun id hid => h1 id (by simpa [ha] using hid), hy]⟩
      · cases h
    · cases h
  case mapUpdate t x y z =>
    dsimp only at h ⊢
    split at h
    · rename_i a b c ha hb hc
      exact bY.at (Ia (fun i hi => by simp [ha, hi]) (fun i hi => by simp [hc, hi])) rfl h
    · cases h
  case call c =>
    dsimp only at h ⊢
    split at h
    · rename_i args hargs
      rcases iV : c.callee with f | ⟨rc, mt⟩ | b
      · simp only [iV] at h ⊢
        unfold ow at h ⊢
        simp only [iV] at h ⊢
        split at h
        · rename_i f' first caps hf
          simp only [hf] at h ⊢
          split at h
          · rename_i hcl
            simp only [hcl, if_true, hargs]
            exact Pz h
          · rename_i hcl
            simp only [hcl]
            refine Jd.still (G := fun σ => outside P f' (first ++ args ++ caps) σ) h fun v σ' h => ?_
            unfold outside at h ⊢
            split at h
            · split at h
              · rename_i u hu
                split at h
                · rename_i y hy
                  simp only [Option.some.injEq, Prod.mk.injEq] at h
                  obtain ⟨rfl, rfl⟩ := h
                  exact ⟨rfl, fun σ1 => by simp only [hu, hy]⟩
                · cases h
              · cases h
            · cases h
        · cases h
      · simp only [iV, ow] at h
        cases h
      · cases b
        case len =>
          simp only [iV] at h ⊢
          unfold ow at h ⊢
          simp only [iV] at h ⊢
          refine Jd.still h fun v σ' h => ?_
          split at h
          · split at h
            · rename_i y hy
              simp only [Option.some.injEq, Prod.mk.injEq] at h
              obtain ⟨rfl, rfl⟩ := h
              exact ⟨rfl, fun σ1 => by simp only [hy]⟩
            · cases h
          · cases h
        case append =>
          simp only [iV] at h ⊢
          unfold ow at h ⊢
          simp only [iV] at h ⊢
          split at h
          · split at h
            · cases h
            · rename_i hby
              simp only [hby]
              refine bY.at (NC (fun i hi => by simp [hargs, kg, hi]) (fun i hi => by simp [hargs, kg, hi])) rfl h
          · cases h
        case copy =>
          simp only [iV] at h ⊢
          unfold ow at h ⊢
          simp only [iV] at h ⊢
          split at h
          · refine bY.at (SE (fun i hi => by simp [hargs, kg, hi]) (fun i hi => by simp [hargs, kg, hi])) rfl h
          · cases h
        case max =>
          simp only [iV] at h ⊢
          unfold ow at h ⊢
          simp only [iV] at h ⊢
          refine Jd.still h fun v σ' h => ?_
          split at h
          · split at h
            · rename_i y hy
              simp only [Option.some.injEq, Prod.mk.injEq] at h
              obtain ⟨rfl, rfl⟩ := h
              exact ⟨rfl, fun σ1 => by simp only [hy]⟩
            · cases h
          · cases h
        case min =>
          simp only [iV] at h ⊢
          unfold ow at h ⊢
          simp only [iV] at h ⊢
          refine Jd.still h fun v σ' h => ?_
          split at h
          · split at h
            · rename_i y hy
              simp only [Option.some.injEq, Prod.mk.injEq] at h
              obtain ⟨rfl, rfl⟩ := h
              exact ⟨rfl, fun σ1 => by simp only [hy]⟩
            · cases h
          · cases h
        all_goals (simp only [iV, ow] at h; cases h)
    · cases h
  all_goals first
    | (cases h; done)
    | (refine Jd.still h fun v σ' h => ?_
       dsimp only at h ⊢
       repeat' split at h
       all_goals first
         | (cases h; done)
         | (simp only [Option.some.injEq, Prod.mk.injEq] at h
            obtain ⟨rfl, rfl⟩ := h
            exact ⟨rfl, fun σ1 => by simp [*]⟩))
theorem Sw {P : Program} {call : Callee} {env : List AV} {σ σ' : List Ob} {o : Oper} {v : AV} (h : kH P call env σ o = some (v, σ')) (hw : (touches env σ o).2 = false) : ∀ id, id < σ.length → σ'[id]? = σ[id]? := by
  have app : ∀ (ob : Ob) (id : Nat), id < σ.length → (σ ++ [ob])[id]? = σ[id]? := fun ob id hid => by rw [List.getElem?_append_left hid]
  unfold kH touches at *
  generalize o.op = op at *
  cases op
  case call c =>
    dsimp only at h hw
    split at h
    · rename_i args hargs
      rcases iV : c.callee with f | ⟨rc, mt⟩ | b
      · simp only [iV] at hw; cases hw
      · simp only [iV, ow] at h; cases h
      · cases b
        case len =>
          simp only [iV, ow] at h
          split at h
          · split at h
            · simp only [Option.some.injEq, Prod.mk.injEq] at h
              rw [← h.2]; exact fun _ _ => rfl
            · cases h
          · cases h
        all_goals (simp only [iV] at hw; cases hw)
    · cases h
  case convert t t' x =>
    dsimp only at h
    split at h
    · unfold dR at h
      repeat' split at h
      all_goals first
        | (cases h; done)
        | (simp only [Option.some.injEq, Prod.mk.injEq] at h
           rw [← h.2]
           first
             | exact fun _ _ => rfl
             | exact app _)
    · cases h
  case makeMap t r =>
    dsimp only at h
    split at h
    · unfold sU at h
      repeat' split at h
      all_goals first
        | (cases h; done)
        | (simp only [Option.some.injEq, Prod.mk.injEq] at h
           rw [← h.2]
           exact app _)
    · cases h
  case makeSlice t l c =>
    dsimp only at h
    split at h
    · unfold iM at h
      repeat' split at h
      all_goals first
        | (cases h; done)
        | (simp only [Option.some.injEq, Prod.mk.injEq] at h
           rw [← h.2]
           exact app _)
    · cases h
  all_goals first
    | (cases hw; done)
    | (cases h; done)
    | (dsimp only at h
       repeat' split at h
       all_goals first
         | (cases h; done)
         | (simp only [Option.some.injEq, Prod.mk.injEq] at h
            rw [← h.2]
            first
              | exact fun _ _ => rfl
              | exact app _))
theorem Rw {env env' : List AV} {x : Operand} (h : ∀ t, x = .tmp t → env'[t]? = env[t]?) : mY env' x = mY env x := by
 cases x
 case tmp t => exact h t rfl
 all_goals rfl
theorem wG {env env' : List AV} : ∀ {l : List Operand}, (∀ x, x ∈ l → mY env' x = mY env x) → yJ env' l = yJ env l
 | [], _ => rfl
 | x :: l, h => by
  simp only [yJ]
  rw [h x (by simp), wG fun y hy => h y (by simp [hy])]
theorem uR {env env' : List AV} : ∀ {l : List (Nat × Operand)}, (∀ x, x ∈ l.map (·.2) → mY env' x = mY env x) → partsOf env' l = partsOf env l
 | [], _ => rfl
 | (i, x) :: l, h => by
  simp only [partsOf]
  rw [h x (by simp), uR fun y hy => h y (by simp only [List.map_cons, List.mem_cons]; exact .inr hy)]
theorem yI {env env' : List AV} {x : Option Operand} (h : ∀ y, x = some y → mY env' y = mY env y) : vM env' x = vM env x := by
 cases x with
 | none => rfl
 | some y => simp only [vM]; rw [h y rfl]
theorem Yh {P : Program} {call : Callee} {env env' : List AV} {σ : List Ob} {o : Oper} (h : ∀ t, t ∈ JZ o → env'[t]? = env[t]?) : kH P call env' σ o = kH P call env σ o := by
 have hx : ∀ x, x ∈ o.op.operands.toList → mY env' x = mY env x := by
  intro x hx
  refine Rw fun t ht => h t ?_
  subst ht
  unfold JZ
  rw [List.mem_filterMap]
  exact ⟨_, hx, rfl⟩
 clear h
 unfold kH
 generalize o.op = op at *
 cases op
 case build t ps =>
  dsimp only
  rw [uR fun x h => hx x (by simpa [Op.operands] using h)]
 case buildSlice t len ps =>
  dsimp only
  rw [uR fun x h => hx x (by simpa [Op.operands] using h)]
 case slice t x l hh m =>
  dsimp only
  rw [hx x (by simp [Op.operands]), yI (x := l) fun y e => hx y (by simp [Op.operands, e]), yI (x := hh) fun y e => hx y (by simp [Op.operands, e]), yI (x := m) fun y e => hx y (by simp [Op.operands, e])]
 case makeFunc f first caps =>
  dsimp only
  rw [wG fun x h => hx x (by simpa [Op.operands] using Or.inl h), wG fun x h => hx x (by simpa [Op.operands] using Or.inr h)]
 case pick c a b =>
  dsimp only
  rw [hx c (by simp [Op.operands])]
  split
  ·rename_i t ht
   cases t
   ·simp only [Bool.false_eq_true, if_false, hx b (by simp [Op.operands])]
   ·simp only [if_true, hx a (by simp [Op.operands])]
  ·rfl
 case call c =>
  dsimp only
  rw [wG fun x h => hx x (by simp [Op.operands, Call.operands, h])]
  rcases iV : c.callee with f | ⟨rc, mt⟩ | b
  ·simp only
   rw [hx f (by simp [Op.operands, Call.operands, iV])]
  ·rfl
  ·rfl
 case move x => dsimp only; rw [hx x (by simp [Op.operands])]
 case assign x => dsimp only; rw [hx x (by simp [Op.operands])]
 case box t x => dsimp only; rw [hx x (by simp [Op.operands])]
 case load t x => dsimp only; rw [hx x (by simp [Op.operands])]
 case nilCheck x => dsimp only; rw [hx x (by simp [Op.operands])]
 case unOp op t x => dsimp only; rw [hx x (by simp [Op.operands])]
 case convert t t' x => dsimp only; rw [hx x (by simp [Op.operands])]
 case fieldAddr t x f => dsimp only; rw [hx x (by simp [Op.operands])]
 case field t x f => dsimp only; rw [hx x (by simp [Op.operands])]
 case extract x i => dsimp only; rw [hx x (by simp [Op.operands])]
 case makeInterface t x => dsimp only; rw [hx x (by simp [Op.operands])]
 case typeAssert x t a ok => dsimp only; rw [hx x (by simp [Op.operands])]
 case store t x y => dsimp only; rw [hx x (by simp [Op.operands]), hx y (by simp [Op.operands])]
 case binOp op t x y z => dsimp only; rw [hx x (by simp [Op.operands]), hx y (by simp [Op.operands])]
 case makeSlice t x y => dsimp only; rw [hx x (by simp [Op.operands]), hx y (by simp [Op.operands])]
 case indexAddr t x y => dsimp only; rw [hx x (by simp [Op.operands]), hx y (by simp [Op.operands])]
 case index t x y => dsimp only; rw [hx x (by simp [Op.operands]), hx y (by simp [Op.operands])]
 case lookup t x y ok => dsimp only; rw [hx x (by simp [Op.operands]), hx y (by simp [Op.operands])]
 case mapUpdate t x y z => dsimp only; rw [hx x (by simp [Op.operands]), hx y (by simp [Op.operands]), hx z (by simp [Op.operands])]
 case makeMap t r =>
  dsimp only
  cases r with
  | none => rfl
  | some x => simp only [vM]; rw [hx x (by simp [Op.operands])]
 all_goals rfl
theorem QZ {ops : Array Oper} {env env' : List AV} {o : Oper} (h : ∀ t, t ∈ He ops o → env'[t]? = env[t]?) : wants ops env' o = wants ops env o := by
 unfold wants
 split
 ·rfl
 ·rename_i j want hg
  split
  ·rename_i t ht
   rw [h t (by unfold He; rw [hg]; simp [ht])]
  ·rfl
end Lv
