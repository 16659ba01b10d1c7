/- Part of the proof of a law. -/
import Derived.Test.YtfjogpadeelnkaaGreatDoorA0
import Derived.Orders
import Derived.Laws.StructEq
import Derived.Sort.Grow
import Derived.Sort.EncStr
import Derived.StillTail
set_option linter.unnecessarySimpa false
set_option linter.unusedVariables false
set_option linter.unusedSimpArgs false
set_option linter.unusedSectionVars false
/- What an operation looks at, all of them. -/
namespace Lv
open Go
variable [bJ]
def NJ {β:Type} (T:List Nat) (σ:List Ob) (y:β) (σ':List Ob) (G:List Ob→Option (β×List Ob)):Prop:=
 σ.length≤σ'.length∧(∀id,id < σ.length→id∉T→σ'[id]?=σ[id]?)∧
 ∀σ1:List Ob,σ1.length=σ.length→(∀id,id∈T→σ1[id]?=σ[id]?)→∃Jj,G σ1=some (y,Jj)∧Jj.length=σ'.length∧(∀id,(id∈T∨σ.length≤id)→Jj[id]?=σ'[id]?)∧(∀id,id∉T→id < σ.length→Jj[id]?=σ1[id]?)
theorem dJ.at {β:Type} {T:List Nat} {n:Nat} {G:List Ob→Option (β×List Ob)} (h:dJ T n G) {σ:List Ob} {y:β} {σ':List Ob} (hn:σ.length=n) (hg:G σ=some (y,σ')):NJ T σ y σ' G:=by
 subst hn
 exact h σ y σ' rfl hg
theorem NJ.still {β:Type} {T:List Nat} {σ:List Ob} {y:β} {σ':List Ob} {G:List Ob→Option (β×List Ob)} (h:G σ=some (y,σ')) (hs:∀v σ',G σ=some (v,σ')→σ'=σ∧∀σ1,G σ1=some (v,σ1)):NJ T σ y σ' G:=by
 obtain ⟨rfl,h2⟩:=hs y σ' h
 refine ⟨Nat.le_refl _,fun _ _ _=>rfl,fun σ1 h1 h3=>⟨σ1,h2 σ1,h1,fun id hid=>?_,fun _ _ _=>rfl⟩⟩
 rcases hid with hid | hid
 ·exact h3 id hid
 ·rw [List.getElem?_eq_none (by omega),List.getElem?_eq_none (by omega)]
theorem wF (σ:List Ob):∀(n:Nat) (todo seen:List Nat) (i:Nat),i∈seen→i∈reach σ n todo seen
 | 0,todo,seen,i,h=>by simpa [reach] using h
 | n+1,[],seen,i,h=>by simpa [reach] using h
 | n+1,j::r,seen,i,h=>by
  simp only [reach]
  split
  ·exact wF σ n r seen i h
  ·split
   ·exact wF σ n _ _ i (by simp [h])
   ·exact wF σ n _ _ i (by simp [h])
theorem xA (σ σ1:List Ob):∀(n:Nat) (todo seen:List Nat),(∀i,i∈reach σ n todo seen→σ1[i]?=σ[i]?)→reach σ1 n todo seen=reach σ n todo seen
 | 0,todo,seen,h=>rfl
 | n+1,[],seen,h=>rfl
 | n+1,j::r,seen,h=>by
  simp only [reach] at h ⊢
  split
  ·rename_i hc
   simp only [hc,if_true] at h
   exact xA σ σ1 n r seen h
  ·rename_i hc
   simp only [hc] at h
   have hj:σ1[j]?=σ[j]?:=by
    apply h
    simp only [Bool.false_eq_true,if_false]
    split
    ·exact wF σ n _ _ j (by simp)
    ·exact wF σ n _ _ j (by simp)
   rw [hj]
   simp only [Bool.false_eq_true,if_false] at h
   split
   ·rename_i o ho
    simp only [ho] at h
    exact xA σ σ1 n _ _ h
   ·rename_i ho
    simp only [ho] at h
    exact xA σ σ1 n _ _ h
theorem sub_congr {σ σ1:List Ob} {ι:List Nat} {g:Nat→Option Nat}:∀{l:List Nat},(∀i,i∈l→σ1[i]?=σ[i]?)→sub σ1 ι g l=sub σ ι g l
 | [],_=>rfl
 | i::l,h=>by
  simp only [sub]
  rw [h i (by simp),sub_congr fun j hj=>h j (by simp [hj])]
theorem Tq {σ σ1:List Ob} {roots:List Nat} (h:∀i,i∈reach σ 100000 roots []→σ1[i]?=σ[i]?):canon σ1 roots=canon σ roots:=by
 unfold canon
 simp only
 rw [xA σ σ1 _ _ _ h,sub_congr h]
theorem Tp {σ:List Ob} {roots ι:List Nat} {os:List Ob} (h:canon σ roots=some (ι,os)):ι=reach σ 100000 roots []:=by
 unfold canon at h
 simp only at h
 split at h
 ·simp only [Option.some.injEq,Prod.mk.injEq] at h
  exact h.1.symm
 ·cases h
theorem Mc {call:Callee} {f:FuncId} {args:List AV} {σ σ':List Ob} {r:AV} (h:oh call f args σ=some (r,σ')):NJ (reach σ 100000 (kN args) []) σ r σ' (fun σ=>oh call f args σ):=by
 unfold oh at h
 split at h
 ·rename_i ι lF hcan
  obtain ⟨hnd,hl,hsub,_⟩:=Cj hcan
  have hι:=Tp hcan
  split at h
  ·rename_i args' hargs
   split at h
   ·rename_i r' σ2 hcall
    split at h
    ·rename_i r2 os hr hos
     split at h
     ·rename_i hlen
      simp only [Option.some.injEq,Prod.mk.injEq] at h
      obtain ⟨rfl,rfl⟩:=h
      rw [← hι]
      have hsl:=gJ ι (os.take ι.length) σ
      refine ⟨by simp [gJ],fun id hid hT=>?_,fun σ1 h1 h2=>⟨jO σ1 ι (os.take ι.length)++os.drop ι.length,?_,by simp [gJ,h1],fun id hid=>?_,fun id hT hid=>?_⟩⟩
      ·rw [List.getElem?_append_left (by rw [gJ];exact hid),vX _ _ _ _ hT]
      ·show oh call f args σ1=_
       unfold oh
       rw [Tq (σ:=σ) (σ1:=σ1) (by rw [← hι];exact h2),hcan]
       simp only [hargs,hcall,h1,hr,hos,if_pos hlen]
      ·have hs1:=gJ ι (os.take ι.length) σ1
       by_cases hlt:id < σ.length
       ·have SX:id∈ι:=hid.resolve_right (by omega)
        rw [List.getElem?_append_left (by omega),List.getElem?_append_left (by omega)]
        obtain ⟨k,hk⟩:=List.mem_iff_getElem?.1 SX
        have hkl:=cK hk
        have hto:(os.take ι.length)[k]?=some os[k]:=by
         rw [List.getElem?_take,if_pos hkl,List.getElem?_eq_getElem (by omega)]
        rw [Cw ι _ σ1 k id _ hnd hk hto (by omega),Cw ι _ σ k id _ hnd hk hto hlt]
       ·rw [List.getElem?_append_right (by omega),List.getElem?_append_right (by omega),hs1,hsl,h1]
      ·rw [List.getElem?_append_left (by rw [gJ];omega),vX _ _ _ _ hT]
     ·cases h
    ·cases h
   ·cases h
  ·cases h
 ·cases h
theorem Kh {P:Program} {call:Callee} {env:List AV} {σ σ':List Ob} {o:Oper} {v:AV} (h:kQ P call env σ o=some (v,σ')):NJ (touches env σ o).1 σ v σ' (fun σ=>kQ P call env σ o):=by
  unfold kQ touches at *
  generalize o.op=op at *
  cases op
  case alloc t=>
    refine dJ.at (dJ.pushes fun σ v σ' h=>?_) rfl h
    dsimp only at h ⊢
    split at h
    · simp only [Option.some.injEq,Prod.mk.injEq] at h
      obtain ⟨rfl,rfl⟩:=h
      exact ⟨_,rfl,fun σ1 hl _=>by rw [hl]⟩
    · cases h
  case box t x=>
    refine dJ.at (dJ.pushes fun σ v σ' h=>?_) rfl h
    dsimp only at h ⊢
    split at h
    · cases h
    · simp only [Option.some.injEq,Prod.mk.injEq] at h
      obtain ⟨rfl,rfl⟩:=h
      exact ⟨_,rfl,fun σ1 hl _=>by rw [hl]⟩
    · cases h
  case load t x=>
    dsimp only at h ⊢
    split at h
    · rename_i a ha
      refine dJ.at (dJ.still fun σ v σ' h=>?_) rfl h
      split at h
      · rename_i y hy
        simp only [Option.some.injEq,Prod.mk.injEq] at h
        obtain ⟨rfl,rfl⟩:=h
        exact ⟨rfl,fun σ1 _ h1=>by rw [Vj fun id hid=>h1 id (by simpa [ha] using hid),hy]⟩
      · cases h
    · cases h
  case store t x y=>
    dsimp only at h ⊢
    split at h
    · rename_i a b ha hb
      exact dJ.at (Vi (fun i hi=>by simp [ha,hi]) (fun i hi=>by simp [hb,hi])) rfl h
    · cases h
  case convert t t' x=>
    dsimp only at h ⊢
    split at h
    · rename_i a ha
      exact dJ.at (QF (fun i hi=>by simpa [ha] using hi)) rfl h
    · cases h
  case buildSlice t len ps=>
    dsimp only at h ⊢
    split at h
    · rename_i l hl
      exact dJ.at (JX (fun i hi=>by simpa [hl] using hi)) rfl h
    · cases h
  case makeSlice t l c=>
    dsimp only at h ⊢
    split at h
    · exact dJ.at Mj rfl h
    · cases h
  case makeMap t r=>
    dsimp only at h ⊢
    split at h
    · exact dJ.at QC rfl h
    · cases h
  case lookup t x i ok=>
    dsimp only at h ⊢
    split at h
    · rename_i a b ha hb
      refine dJ.at (dJ.still fun σ v σ' h=>?_) rfl h
      split at h
      · rename_i y hy
        simp only [Option.some.injEq,Prod.mk.injEq] at h
        obtain ⟨rfl,rfl⟩:=h
        exact ⟨rfl,fun σ1 _ h1=>by rw [QD fun id hid=>h1 id (by simpa [ha] using hid),hy]⟩
      · cases h
    · cases h
  case mapUpdate t x y z=>
    dsimp only at h ⊢
    split at h
    · rename_i a b c ha hb hc
      exact dJ.at (Mi (fun i hi=>by simp [ha,hi]) (fun i hi=>by simp [hc,hi])) rfl h
    · cases h
  case call c =>
    dsimp only at h ⊢
    split at h
    · rename_i args hargs
      rcases iP:c.callee with f | ⟨rc,mt⟩ | b
      · simp only [iP] at h ⊢
        unfold pJ at h ⊢
        simp only [iP] at h ⊢
        split at h
        · rename_i f' first caps hf
          simp only [hf] at h ⊢
          split at h
          · rename_i hcl
            simp only [hcl,if_true,hargs]
            exact Mc h
          · rename_i hcl
            simp only [hcl]
            refine NJ.still (G:=fun σ=>outside P f' (first++args++caps) σ) h fun v σ' h=>?_
            unfold outside at h ⊢
            split at h
            · split at h
              · rename_i u hu
                split at h
                · rename_i y hy
                  simp only [Option.some.injEq,Prod.mk.injEq] at h
                  obtain ⟨rfl,rfl⟩:=h
                  exact ⟨rfl,fun σ1=>by simp only [hu,hy]⟩
                · cases h
              · cases h
            · cases h
        · cases h
      · simp only [iP] at h ⊢
        unfold pJ at h ⊢
        simp only [iP] at h ⊢
        split at h
        · rename_i t u hf
          simp only [hf] at h ⊢
          split at h
          · rename_i g hm
            split at h
            · rename_i hq
              simp only [if_pos hq,hargs]
              exact Mc h
            · cases h
          · cases h
        · cases h
      · cases b
        case len=>
          simp only [iP] at h ⊢
          unfold pJ at h ⊢
          simp only [iP] at h ⊢
          refine NJ.still h fun v σ' h=>?_
          split at h
          · split at h
            · rename_i y hy
              simp only [Option.some.injEq,Prod.mk.injEq] at h
              obtain ⟨rfl,rfl⟩:=h
              exact ⟨rfl,fun σ1=>by simp only [hy]⟩
            · cases h
          · cases h
        case append=>
          simp only [iP] at h ⊢
          unfold pJ at h ⊢
          simp only [iP] at h ⊢
          split at h
          · split at h
            · cases h
            · rename_i hby
              simp only [hby]
              refine dJ.at (TF (fun i hi=>by simp [hargs,kN,hi]) (fun i hi=>by simp [hargs,kN,hi])) rfl h
          · cases h
        case copy=>
          simp only [iP] at h ⊢
          unfold pJ at h ⊢
          simp only [iP] at h ⊢
          split at h
          · refine dJ.at (Zk (fun i hi=>by simp [hargs,kN,hi]) (fun i hi=>by simp [hargs,kN,hi])) rfl h
          · cases h
        case max=>
          simp only [iP] at h ⊢
          unfold pJ at h ⊢
          simp only [iP] at h ⊢
          refine NJ.still h fun v σ' h=>?_
          split at h
          · split at h
            · rename_i y hy
              simp only [Option.some.injEq,Prod.mk.injEq] at h
              obtain ⟨rfl,rfl⟩:=h
              exact ⟨rfl,fun σ1=>by simp only [hy]⟩
            · cases h
          · cases h
        case min=>
          simp only [iP] at h ⊢
          unfold pJ at h ⊢
          simp only [iP] at h ⊢
          refine NJ.still h fun v σ' h=>?_
          split at h
          · split at h
            · rename_i y hy
              simp only [Option.some.injEq,Prod.mk.injEq] at h
              obtain ⟨rfl,rfl⟩:=h
              exact ⟨rfl,fun σ1=>by simp only [hy]⟩
            · cases h
          · cases h
        all_goals (simp only [iP,pJ] at h;cases h)
    · cases h
  all_goals first
    | (cases h;done)
    | (refine NJ.still h fun v σ' h=>?_
       dsimp only at h ⊢
       repeat' split at h
       all_goals first
         | (cases h;done)
         | (simp only [Option.some.injEq,Prod.mk.injEq] at h
            obtain ⟨rfl,rfl⟩:=h
            exact ⟨rfl,fun σ1=>by simp [*]⟩))
theorem Zg {P :Program} {call:Callee} {env:List AV} {σ σ':List Ob} {o:Oper} {v:AV} (h:kQ P call env σ o=some (v,σ')) (hw:(touches env σ o).2=false):∀id,id < σ.length→σ'[id]?=σ[id]?:=by
  have app:∀(ob:Ob) (id:Nat),id < σ.length→(σ++[ob])[id]?=σ[id]?:=fun ob id hid=>by rw [List.getElem?_append_left hid]
  unfold kQ touches at *
  generalize o.op=op at *
  cases op
  case call c =>
    dsimp only at h hw
    split at h
    · rename_i args hargs
      rcases iP:c.callee with f | ⟨rc,mt⟩ | b
      · simp only [iP] at hw;cases hw
      · simp only [iP] at hw;cases hw
      · cases b
        case len=>
          simp only [iP,pJ] at h
          split at h
          · split at h
            · simp only [Option.some.injEq,Prod.mk.injEq] at h
              rw [← h.2];exact fun _ _=>rfl
            · cases h
          · cases h
        all_goals (simp only [iP] at hw;cases hw)
    · cases h
  case convert t t' x=>
    dsimp only at h
    split at h
    · unfold gy at h
      repeat' split at h
      all_goals first
        | (cases h;done)
        | (simp only [Option.some.injEq,Prod.mk.injEq] at h
           rw [← h.2]
           first
             | exact fun _ _=>rfl
             | exact app _)
    · cases h
  case makeMap t r=>
    dsimp only at h
    split at h
    · unfold wX at h
      repeat' split at h
      all_goals first
        | (cases h;done)
        | (simp only [Option.some.injEq,Prod.mk.injEq] at h
           rw [← h.2]
           exact app _)
    · cases h
  case makeSlice t l c=>
    dsimp only at h
    split at h
    · unfold mo at h
      repeat' split at h
      all_goals first
        | (cases h;done)
        | (simp only [Option.some.injEq,Prod.mk.injEq] at h
           rw [← h.2]
           exact app _)
    · cases h
  all_goals first
    | (cases hw;done)
    | (cases h;done)
    | (dsimp only at h
       repeat' split at h
       all_goals first
         | (cases h;done)
         | (simp only [Option.some.injEq,Prod.mk.injEq] at h
            rw [← h.2]
            first
              | exact fun _ _=>rfl
              | exact app _))
theorem Ym {env env':List AV} {x:Operand} (h:∀t,x=.tmp t→env'[t]?=env[t]?):oM env' x=oM env x:=by
 cases x
 case tmp t=>exact h t rfl
 all_goals rfl
theorem zA {env env':List AV}:∀{l:List Operand},(∀x,x∈l→oM env' x=oM env x)→AL env' l=AL env l
 | [],_=>rfl
 | x::l,h=>by
  simp only [AL]
  rw [h x (by simp),zA fun y hy=>h y (by simp [hy])]
theorem xY {env env':List AV}:∀{l:List (Nat×Operand)},(∀x,x∈l.map (·.2)→oM env' x=oM env x)→partsOf env' l=partsOf env l
 | [],_=>rfl
 | (i,x)::l,h=>by
  simp only [partsOf]
  rw [h x (by simp),xY fun y hy=>h y (by simp only [List.map_cons,List.mem_cons];exact .inr hy)]
theorem BM {env env':List AV} {x:Option Operand} (h:∀y,x=some y→oM env' y=oM env y):yK env' x=yK env x:=by
 cases x with
 | none=>rfl
 | some y=>simp only [yK];rw [h y rfl]
theorem aeE {P:Program} {call:Callee} {env env':List AV} {σ:List Ob} {o:Oper} (h:∀t,t∈J4 o→env'[t]?=env[t]?):kQ P call env' σ o=kQ P call env σ o:=by
 have hx:∀x,x∈o.op.operands.toList→oM env' x=oM env x:=by
  intro x hx
  refine Ym fun t ht=>h t ?_
  subst ht
  unfold J4
  rw [List.mem_filterMap]
  exact ⟨_,hx,rfl⟩
 clear h
 unfold kQ
 generalize o.op=op at *
 cases op
 case build t ps=>
  dsimp only
  rw [xY fun x h=>hx x (by simpa [Op.operands] using h)]
 case buildSlice t len ps=>
  dsimp only
  rw [xY fun x h=>hx x (by simpa [Op.operands] using h)]
 case slice t x l hh m=>
  dsimp only
  rw [hx x (by simp [Op.operands]),BM (x:=l) fun y e=>hx y (by simp [Op.operands,e]),BM (x:=hh) fun y e=>hx y (by simp [Op.operands,e]),BM (x:=m) fun y e=>hx y (by simp [Op.operands,e])]
 case makeFunc f first caps=>
  dsimp only
  rw [zA fun x h=>hx x (by simpa [Op.operands] using Or.inl h),zA fun x h=>hx x (by simpa [Op.operands] using Or.inr h)]
 case pick c a b=>
  dsimp only
  rw [hx c (by simp [Op.operands])]
  split
  ·rename_i t ht
   cases t
   ·simp only [Bool.false_eq_true,if_false,hx b (by simp [Op.operands])]
   ·simp only [if_true,hx a (by simp [Op.operands])]
  ·rfl
 case call c=>
  dsimp only
  rw [zA fun x h=>hx x (by simp [Op.operands,Call.operands,h])]
  rcases iP:c.callee with f | ⟨rc,mt⟩ | b
  ·simp only
   rw [hx f (by simp [Op.operands,Call.operands,iP])]
  ·simp only
   rw [hx rc (by simp [Op.operands,Call.operands,iP])]
  ·rfl
 case move x=>dsimp only;rw [hx x (by simp [Op.operands])]
 case assign x=>dsimp only;rw [hx x (by simp [Op.operands])]
 case box t x=>dsimp only;rw [hx x (by simp [Op.operands])]
 case load t x=>dsimp only;rw [hx x (by simp [Op.operands])]
 case nilCheck x=>dsimp only;rw [hx x (by simp [Op.operands])]
 case unOp op t x=>dsimp only;rw [hx x (by simp [Op.operands])]
 case convert t t' x=>dsimp only;rw [hx x (by simp [Op.operands])]
 case fieldAddr t x f=>dsimp only;rw [hx x (by simp [Op.operands])]
 case field t x f=>dsimp only;rw [hx x (by simp [Op.operands])]
 case extract x i=>dsimp only;rw [hx x (by simp [Op.operands])]
 case makeInterface t x=>dsimp only;rw [hx x (by simp [Op.operands])]
 case typeAssert x t a ok=>dsimp only;rw [hx x (by simp [Op.operands])]
 case store t x y=>dsimp only;rw [hx x (by simp [Op.operands]),hx y (by simp [Op.operands])]
 case binOp op t x y z=>dsimp only;rw [hx x (by simp [Op.operands]),hx y (by simp [Op.operands])]
 case makeSlice t x y=>dsimp only;rw [hx x (by simp [Op.operands]),hx y (by simp [Op.operands])]
 case indexAddr t x y=>dsimp only;rw [hx x (by simp [Op.operands]),hx y (by simp [Op.operands])]
 case index t x y=>dsimp only;rw [hx x (by simp [Op.operands]),hx y (by simp [Op.operands])]
 case lookup t x y ok=>dsimp only;rw [hx x (by simp [Op.operands]),hx y (by simp [Op.operands])]
 case mapUpdate t x y z=>dsimp only;rw [hx x (by simp [Op.operands]),hx y (by simp [Op.operands]),hx z (by simp [Op.operands])]
 case makeMap t r=>
  dsimp only
  cases r with
  | none=>rfl
  | some x=>simp only [yK];rw [hx x (by simp [Op.operands])]
 all_goals rfl
theorem XD {ops:Array Oper} {env env':List AV} {o:Oper} (h:∀t,t∈LP ops o→env'[t]?=env[t]?):wants ops env' o=wants ops env o:=by
 unfold wants
 split
 ·rfl
 ·rename_i j want hg
  split
  ·rename_i t ht
   rw [h t (by unfold LP;rw [hg];simp [ht])]
  ·rfl
end Lv
/- Regions in their text's order, code, functions. -/
namespace Lv
open Go
variable [bJ]
structure Rel (m:Nat) (dZ:Ro) (dW:Mu) (w0:World) (H0:Hp) (ro:Ro) (μ:Mu) (w:World) (s:St) (a:Act):Prop where
 good:Good ro μ w (hp s.σ)
 env:oo ro μ s.env a.tmps
 dom:∀id L,μ id=some L→id < s.σ.length
 defers:a.defers=[]
 ext:yx dZ dW w0 H0 ro μ w (hp s.σ)
 keep:∀id,id < m→μ id=dW id
 hm:m≤s.σ.length
def Ends (m:Nat) (dZ:Ro) (dW:Mu) (w0:World) (H0:Hp) (s:St) (a:Act) (w:World):Prop:=∃ro μ,Rel m dZ dW w0 H0 ro μ w s a
theorem xL {ro:Ro} {μ:Mu} {env:List AV} {a:Act} {x:AV} {v:Value} (h:oo ro μ env a.tmps) (hv:VR ro μ x v) (dst:Option Tmp):oo ro μ (qY env dst x) (a.put dst v).tmps:=by
 cases dst with
 | none=>exact h
 | some d=>
  refine ⟨by simp [qY,Act.put,h.size],fun i y u hy hu=>?_⟩
  simp only [qY,List.getElem?_set] at hy
  simp only [Act.put,Array.getElem?_setIfInBounds] at hu
  split at hy
  ·rename_i e
   subst e
   split at hy
   ·rename_i hl
    rw [if_pos rfl] at hu
    have:d < a.tmps.size:=by rw [h.size];exact hl
    rw [if_pos this] at hu
    simp only [Option.some.injEq] at hy hu
    subst hy;subst hu
    exact hv
   ·cases hy
  ·rename_i e
   rw [if_neg e] at hu
   exact h.get i y u hy hu
theorem qB (a:Act) (dst:Option Tmp) (v:Value):(a.put dst v).defers=a.defers:=by cases dst <;> rfl
theorem qo {ro:Ro} {μ:Mu} {env:List AV} {a:Act} {ops:Array Oper} {o:Oper} {b:Bool} (h:oo ro μ env a.tmps) (hw:wants ops env o=some b):Region.wanted o (yielded ops a.tmps)=b:=by
 unfold wants at hw
 unfold Region.wanted
 split at hw
 ·rename_i hg
  simp only [Option.some.injEq] at hw
  rw [hg];exact hw
 ·rename_i j want hg
  rw [hg]
  simp only
  split at hw
  ·rename_i t ht
   unfold yielded
   rw [ht]
   simp only [Option.bind_some]
   split at hw
   ·rename_i c hc
    have hlt:t < a.tmps.size:=by rw [h.size];exact cK hc
    have:=gP (h.get t _ _ hc (Array.getElem?_eq_getElem hlt)) rfl
    rw [Array.getElem?_eq_getElem hlt,this]
    simp only [Option.some.injEq] at hw
    subst hw
    cases c <;> cases want <;> rfl
   ·rename_i hc
    have hlt:t < a.tmps.size:=by rw [h.size];exact cK hc
    obtain ⟨vs,e,_⟩:=Ms (h.get t _ _ hc (Array.getElem?_eq_getElem hlt))
    rw [Array.getElem?_eq_getElem hlt,e]
    simp only [Option.some.injEq] at hw
    subst hw
    rfl
   ·cases hw
  ·cases hw
theorem Rel.op {m:Nat} {dZ ro ro':Ro} {dW μ μ':Mu} {w0 w w':World} {H0:Hp} {s:St} {a:Act} {x:AV} {σ':List Ob} {v:Value} (h:Rel m dZ dW w0 H0 ro μ w s a) (hv:VR ro' μ' x v) (g:Good ro' μ' w' (hp σ')) (e:Ext ro μ w (hp s.σ) ro' μ' w' (hp σ'))
  (hid:∀id,μ' id≠μ id→s.σ.length≤id∧id < σ'.length) (hl:s.σ.length≤σ'.length) (dst:Option Tmp):Rel m dZ dW w0 H0 ro' μ' w' ⟨qY s.env dst x,σ'⟩ (a.put dst v) where
 good:=g
 env:=xL (h.env.mono e.jC e.Ll) hv dst
 dom id L hL:=by
  by_cases q:μ' id=μ id
  ·rw [q] at hL;exact Nat.lt_of_lt_of_le (h.dom id L hL) hl
  ·exact (hid id q).2
 defers:=by rw [qB];exact h.defers
 ext:=h.ext.trans e.Ri
 keep id hi:=by
  have q:μ' id=μ id:=by
   by_cases q:μ' id=μ id
   ·exact q
   ·have:=(hid id q).1;have:=h.hm;omega
  rw [q];exact h.keep id hi
 hm:=Nat.le_trans h.hm hl
theorem Rel.skip {m:Nat} {dZ ro:Ro} {dW μ:Mu} {w0 w:World} {H0:Hp} {s:St} {a:Act} (h:Rel m dZ dW w0 H0 ro μ w s a) (dst:Option Tmp):Rel m dZ dW w0 H0 ro μ w ⟨qY s.env dst (.tuple []),s.σ⟩ (a.put dst undef):=
 h.op (.tuple [] #[] rfl (fun i x v hx=>by simp at hx)) h.good (Ext.refl _ _ _ _) (fun id q=>absurd rfl q) (Nat.le_refl _) dst
section
variable {P:Program} {call:Callee} (hc:ET P call) {m:Nat} {dZ:Ro} {dW:Mu} {w0:World} {H0:Hp} {Q:Exit→Act→World→Prop}
include hc
end
theorem Rel.canon {m:Nat} {dZ ro:Ro} {dW μ:Mu} {w0 w:World} {H0:Hp} {s:St} {a:Act} {ι:List Nat} {roots:List Nat} {os:List Ob} {env':List AV} (h:Rel m dZ dW w0 H0 ro μ w s a) (hcan:Lv.canon s.σ roots=some (ι,os)) (ht:ι.take m=List.range m)
  (YA:oo ro (Ep μ ι) env' a.tmps):Rel m dZ dW w0 H0 ro (Ep μ ι) w ⟨env',os⟩ a:=by
 obtain ⟨hnd,hl,hsub,hK⟩:=Cj hcan
 have hm:m≤ι.length:=by
  have:=congrArg List.length ht
  simp at this
  omega
 refine ⟨h.good.re uG hK,YA,fun id L hL=>?_,h.defers,h.ext.trans (yx.re uG hK),fun id hi=>?_,by simp only;omega⟩
 ·simp only [Ep] at hL
  split at hL
  ·rename_i i hi;simp only;rw [hl];exact cK hi
  ·cases hL
 ·have:ι[id]?=some id:=by
   have e:(ι.take m)[id]?=some id:=by rw [ht,List.getElem?_range hi]
   rw [List.getElem?_take,if_pos hi] at e
   exact e
  simp only [Ep,this]
  exact h.keep id hi
def Ex.exit':Ex→Exit
 | .normal=>.normal
 | .ret=>.ret
 | .exit id=>.exit id
def wpIn (P:Program) (c:Code) (Q:Exit→Act→World→Prop) (a:Act) (w:World):Prop:=
 ∀(b:Frame) (k:List Item) (cs:List Frame),∃e a' w',Q e a' w'∧Arrives P (lone (b.at a (.code c::.inLoop c::k)) cs w) b k cs e a' w'
theorem Kt {P:Program} {c:Code} {Q:Exit→Act→World→Prop} {a:Act} {w:World} (h:wpIn P c Q a w):(Code.loop c).wp P Q a w:=by
 intro b k cs
 obtain ⟨e,a',w',hq,harr⟩:=h b k cs
 exact ⟨e,a',w',hq,.of_steps (.one step_loop) harr⟩
theorem Kv {P:Program} {c:Code} {Q:Exit→Act→World→Prop} {a:Act} {w:World} (h:c.wp P (Exit.then (wpIn P c Q) Q) a w):wpIn P c Q a w:=by
 intro b k cs
 obtain ⟨e,a₁,w₁,hq,harr⟩:=h b (.inLoop c::k) cs
 cases e with
 | normal=>
  obtain ⟨e₂,a₂,w₂,hq₂,harr₂⟩:=hq b k cs
  exact ⟨e₂,a₂,w₂,hq₂,.of_steps (Steps.trans harr (.one step_inLoop)) harr₂⟩
 | exit id=>exact ⟨_,a₁,w₁,hq,.pass (x:=.inLoop c) rfl (fun _ _=>.inl (by simp)) harr⟩
 | goto l=>exact ⟨_,a₁,w₁,hq,.pass (x:=.inLoop c) rfl (fun _ _=>.inl (by simp)) harr⟩
 | ret=>exact ⟨_,a₁,w₁,hq,.pass (x:=.inLoop c) rfl (fun _ _=>.inl (by simp)) harr⟩
 | panic ch=>exact ⟨_,a₁,w₁,hq,.pass (x:=.inLoop c) rfl (fun _ _=>.inl (by simp)) harr⟩
 | outgrown=>exact ⟨_,a₁,w₁,hq,.pass (x:=.inLoop c) rfl (fun _ _=>.inl (by simp)) harr⟩
def ajm (P:Program) (call:Callee):Prop:=∀(m:Nat) (dZ:Ro) (dW:Mu) (w0:World) (H0:Hp) (Q:Exit→Act→World→Prop) (ops:Array Oper) (id:Nat) (s s':St) (l:List (List Nat×Bool)) (ro:Ro) (μ:Mu) (w:World) (a:Act),
 Ph P call ops ops.toList s=some (s',l)→(eD ops l&&pW P ops)=true→Rel m dZ dW w0 H0 ro μ w s a→
  (∀a' w',Ends m dZ dW w0 H0 s' a' w'→Q .normal a' w')→(Code.region id ops true).wp P Q a w
section
variable {P:Program} {call:Callee} (hc:ET P call) (hd:ajm P call) {K:Keep} {m:Nat} {dZ:Ro} {dW:Mu} {w0:World} {H0:Hp}
include hc hd
end
def KO (tmps:Array Value):ResultVar→Sem Value
 | .tmp t=>pure (tmps.getD t undef)
 | .cell a t=>do loadVar t (← asAddr (tmps.getD a undef))
theorem Uo (fn:Func) (tmps:Array Value):results fn tmps=(do let vs ← fn.results.mapM (KO tmps);pure (if h:vs.size=1 then vs[0] else .tuple vs)):=by
 unfold results
 congr 2
theorem Uk {P:Program} {w:World} (a:Addr):(asAddr (.pointer (some a))).run P w=.ok a w:=rfl
theorem uS {P:Program} {ro:Ro} {μ:Mu} {w:World} {s:St} {a:Act} (g:Good ro μ w (hp s.σ)) (he:oo ro μ s.env a.tmps):∀(l:List ResultVar) (rs:List AV),jK P s l=some rs→
  ∃vs:List Value,(l.mapM (KO a.tmps)).run P w=.ok vs w∧oo ro μ rs vs.toArray
 | [],rs,h=>by
  simp only [jK,Option.some.injEq] at h
  subst h
  exact ⟨[],by simp,⟨rfl,fun i x v hx=>by simp at hx⟩⟩
 | .tmp t::l,rs,h=>by
  simp only [jK] at h
  split at h
  ·rename_i v vs h1 h2
   simp only [Option.some.injEq] at h
   subst h
   obtain ⟨us,k1,k2⟩:=uS g he l vs h2
   have hlt:t < a.tmps.size:=by rw [he.size];exact cK h1
   refine ⟨a.tmps.getD t undef::us,by simp only [List.mapM_cons,KO,Sem.run_bind,Sem.run_pure,Result.andThen_ok,k1],?_⟩
   have hv:VR ro μ v (a.tmps.getD t undef):=he.get t v _ h1 (by simp [Array.getD,hlt])
   exact jW (tV hv) k2 |> fun q=>by simpa using q
  ·cases h
 | .cell p t::l,rs,h=>by
  simp only [jK] at h
  split at h
  ·rename_i q hq
   split at h
   ·rename_i v vs h1 h2
    simp only [Option.some.injEq] at h
    subst h
    obtain ⟨us,k1,k2⟩:=uS g he l vs h2
    have hlt:p < a.tmps.size:=by rw [he.size];exact cK hq
    have hv:VR ro μ q (a.tmps.getD p undef):=he.get p q _ hq (by simp [Array.getD,hlt])
    obtain ⟨u,ad,e,r1,r2⟩:=uM g hv h1
    refine ⟨u::us,?_,?_⟩
    ·simp only [List.mapM_cons,KO,Sem.run_bind,e,Uk,Sem.run_pure,Result.andThen_ok,r1,k1]
    ·exact jW (tV r2) k2 |> fun q=>by simpa using q
   ·cases h
  ·cases h
theorem Bp {P:Program} {fn:Func} {ro:Ro} {μ:Mu} {w:World} {s:St} {a:Act} {rs:List AV} (g:Good ro μ w (hp s.σ)) (he:oo ro μ s.env a.tmps) (h:jK P s fn.results.toList=some rs):
  ∃v,(results fn a.tmps).run P w=.ok v w∧VR ro μ (F6 rs) v:=by
 obtain ⟨vs,k1,k2⟩:=uS g he fn.results.toList rs h
 have hrun:(fn.results.mapM (KO a.tmps)).run P w=.ok vs.toArray w:=by
  rw [Array.mapM_eq_mapM_toList]
  simp only [Sem.run_map,k1,Result.andThen_ok]
 have hsz:=k2.size
 simp only [List.size_toArray] at hsz
 refine ⟨if h:vs.toArray.size=1 then vs.toArray[0] else .tuple vs.toArray,?_,?_⟩
 ·rw [Uo]
  simp only [Sem.run_bind,hrun,Result.andThen_ok,Sem.run_pure]
 ·unfold F6
  split
  ·rename_i x
   have h1:vs.toArray.size=1:=by simpa using hsz
   rw [dif_pos h1]
   exact k2.get 0 x _ rfl (Array.getElem?_eq_getElem (by omega))
  ·rename_i hne
   have h1:¬vs.toArray.size=1:=by
    intro q
    simp only [List.size_toArray] at q
    rw [hsz] at q
    match rs,q with
    | [x],_=>exact hne x rfl
   rw [dif_neg h1]
   exact .tuple rs _ k2.size k2.get
end Lv
/- Regions that draw their order. -/
namespace Lv
open Go
variable [bJ]
def AW (x y:AV):Prop:=∀(ro:Ro) (μ:Mu) (v:Value),VR ro μ x v→VR ro μ y v
theorem AW.refl (x:AV):AW x x:=fun _ _ _ h=>h
structure One (P:Program) (ops:Array Oper) (o:Oper) (s:St) (v:AV) (mk:List Nat×Bool) (s':St):Prop where
 env:s'.env=qY s.env o.dst v
 or:(∃call v0,ET P call∧AW v0 v∧wants ops s.env o=some true∧kQ P call s.env s.σ o=some (v0,s'.σ)∧mk.1=(marked s.env s.σ s'.σ o).1∧(mk.2=(marked s.env s.σ s'.σ o).2∨s'.σ=s.σ))∨(wants ops s.env o=some false∧v=.tuple []∧s'.σ=s.σ∧mk=([],false))
inductive RunT (P:Program) (ops:Array Oper):List Oper→St→St→List (List Nat×Bool)→Prop
 | nil (s:St):RunT P ops [] s s []
 | cons {o:Oper} {r:List Oper} {s s1 s':St} {v:AV} {mk:List Nat×Bool} {l:List (List Nat×Bool)} (h:One P ops o s v mk s1) (t:RunT P ops r s1 s' l):RunT P ops (o::r) s s' (mk::l)
theorem One.grow {P:Program} {ops:Array Oper} {o:Oper} {s s':St} {v:AV} {mk:List Nat×Bool} (h:One P ops o s v mk s'):s.σ.length≤s'.σ.length:=by
 rcases h.or with ⟨_,_,_,_,_,h,_⟩ | ⟨_,_,h,_⟩
 ·exact (Kh h).1
 ·rw [h];exact Nat.le_refl _
theorem One.old {P:Program} {ops:Array Oper} {o:Oper} {s s':St} {v:AV} {mk:List Nat×Bool} (h:One P ops o s v mk s') {id:Nat} (hid:id∉mk.1∨mk.2=false):hp s'.σ id=hp s.σ id:=by
 rcases h.or with ⟨_,_,_,_,_,ho,q1,q2 | q2⟩ | ⟨_,_,h,_⟩
 rotate_left
 ·rw [q2]
 ·rw [h]
 ·rw [q1,q2] at hid
  have hl:=(Kh ho).1
  simp only [marked,List.mem_append,List.mem_range'_1,not_or,Bool.or_eq_false_iff,decide_eq_false_iff_not] at hid
  by_cases hlt:id < s.σ.length
  ·have:s'.σ[id]?=s.σ[id]?:=by
    rcases hid with hid | hid
    ·exact (Kh ho).2.1 id hlt hid.1
    ·exact Zg ho hid.1 id hlt
   simp only [hp,this]
  ·rw [qg (by omega),qg (by rcases hid with hid | hid <;> omega)]
theorem trace {P:Program} {ops:Array Oper}:∀(y8:List Oper) (s s':St) (l:List (List Nat×Bool)),RunT P ops y8 s s' l→
  ∃(S:Nat→St) (V:Nat→AV) (M:Nat→List Nat×Bool),S 0=s∧S y8.length=s'∧l.length=y8.length∧∀(j:Nat) (o:Oper),y8[j]?=some o→l[j]?=some (M j)∧One P ops o (S j) (V j) (M j) (S (j+1))
 | [],s,s',l,h=>by
  cases h
  exact ⟨fun _=>s,fun _=>.undef,fun _=>([],false),rfl,rfl,rfl,fun j o h=>by simp at h⟩
 | o::r,s,s',l,h=>by
  cases h with
  | cons h2 h1=>
   rename_i s1 v mk l1
   obtain ⟨S,V,M,k0,k1,k2,k3⟩:=trace r s1 s' l1 h1
   refine ⟨fun | 0=>s | j+1=>S j,fun | 0=>v | j+1=>V j,fun | 0=>mk | j+1=>M j,rfl,k1,by simp [k2],fun j o' hj=>?_⟩
   cases j with
   | zero=>
    simp only [List.getElem?_cons_zero,Option.some.injEq] at hj
    subst hj
    exact ⟨rfl,by rw [← k0] at h2;exact h2⟩
   | succ j=>exact k3 j o' (by simpa using hj)
section
variable (Ij:List AV) (dst:Nat→Option Tmp) (V:Nat→AV) (H:Nat→Hp) (M:Nat→List Nat×Bool) (E:Nat→List AV)
def EL (L:Nat→Bool):Nat→List AV
 | 0=>Ij
 | j+1=>if L j then qY (EL L j) (dst j) (V j) else EL L j
def HL (L:Nat→Bool):Nat→Hp
 | 0=>H 0
 | j+1=>fun id=>if L j=true∧(M j).2=true∧id∈(M j).1 then H (j+1) id else HL L j id
theorem I6 (env:List AV) (d:Option Tmp) (v:AV):(qY env d v).length=env.length:=by cases d <;> simp [qY]
theorem nS {env:List AV} {d:Option Tmp} {v:AV} {t:Nat} (h:d≠some t):(qY env d v)[t]?=env[t]?:=by
 cases d with
 | none=>rfl
 | some d=>simp only [qY];rw [List.getElem?_set,if_neg (by rintro rfl;exact h rfl)]
theorem HZ {env env':List AV} {v:AV} {t:Nat} (h:env.length=env'.length):(qY env (some t) v)[t]?=(qY env' (some t) v)[t]?:=by
 simp only [qY,List.getElem?_set,if_true,h]
theorem tJ (L:Nat→Bool):∀j,(EL Ij dst V L j).length=Ij.length
 | 0=>rfl
 | j+1=>by
  simp only [EL]
  split
  ·rw [I6,tJ L j]
  ·exact tJ L j
variable {Ij dst V H M E}
theorem QM {n:Nat} (h0:E 0=Ij) (hE:∀j,j < n→E (j+1)=qY (E j) (dst j) (V j)) {L:Nat→Bool} {t:Nat}:∀j,j≤n→(∀k,k < j→dst k=some t→L k=true)→(EL Ij dst V L j)[t]?=(E j)[t]?∧(E j).length=Ij.length
 | 0,_,_=>by rw [h0];exact ⟨rfl,rfl⟩
 | j+1,hj,hk=>by
  obtain ⟨h1,h2⟩:=QM h0 hE (L:=L) (t:=t) j (by omega) (fun k hk'=>hk k (by omega))
  rw [hE j (by omega)]
  refine ⟨?_,by rw [I6,h2]⟩
  simp only [EL]
  by_cases hd:dst j=some t
  ·rw [if_pos (hk j (by omega) hd),hd]
   exact HZ (by rw [tJ,h2])
  ·rw [nS hd]
   split
   ·rw [nS hd,h1]
   ·exact h1
theorem MG {L:Nat→Bool} {t i:Nat}:∀d,(∀k,i≤k→k < i+d→L k=true→dst k≠some t)→(EL Ij dst V L (i+d))[t]?=(EL Ij dst V L i)[t]?
 | 0,_=>rfl
 | d+1,h=>by
  rw [← Nat.add_assoc]
  simp only [EL]
  have ih:=MG (L:=L) (t:=t) (i:=i) d (fun k h1 h2=>h k h1 (by omega))
  split
  ·rename_i hl
   rw [nS (h (i+d) (by omega) (by omega) hl),ih]
  ·exact ih
theorem ajl {L:Nat→Bool} {i n:Nat} (hi:i < n) (hL:L i=false) (hlast:∀k t,i < k→k < n→L k=true→dst i=some t→dst k≠some t):
  EL Ij dst V (fun k=>k==i || L k) n=qY (EL Ij dst V L n) (dst i) (V i):=by
 apply List.ext_getElem?
 intro t
 by_cases hd:dst i=some t
 ·obtain ⟨d,rfl⟩:=Nat.exists_eq_add_of_lt hi
  have e:i+d+1=(i+1)+d:=by omega
  rw [e,MG (i:=i+1) d (fun k h1 h2 h3 h4=>?_)]
  ·simp only [EL,BEq.rfl,Bool.true_or,if_true]
   rw [hd]
   exact HZ (by rw [tJ,tJ])
  ·have:(k==i)=false:=by simp;omega
   rw [this,Bool.false_or] at h3
   exact hlast k t (by omega) (by omega) h3 hd h4
 ·rw [nS hd]
  have:∀j,(EL Ij dst V (fun k=>k==i || L k) j)[t]?=(EL Ij dst V L j)[t]?:=by
   intro j
   induction j with
   | zero=>rfl
   | succ j ih=>
    simp only [EL]
    by_cases e:j=i
    ·subst e
     simp only [BEq.rfl,Bool.true_or,if_true,hL,Bool.false_eq_true,if_false]
     rw [nS hd,ih]
    ·have:(j==i)=false:=by simpa using e
     simp only [this,Bool.false_or]
     by_cases hdj:dst j=some t
     ·split
      ·rw [hdj];exact HZ (by rw [tJ,tJ])
      ·exact ih
     ·split
      ·rw [nS hdj,nS hdj,ih]
      ·exact ih
  exact this n
theorem QK {n:Nat} (hH:∀j id,j < n→(id∉(M j).1∨(M j).2=false)→H (j+1) id=H j id) {L:Nat→Bool} {id:Nat}:∀j,j≤n→(∀k,k < j→(M k).2=true→id∈(M k).1→L k=true)→HL H M L j id=H j id
 | 0,_,_=>rfl
 | j+1,hj,hk=>by
  have ih:=QK hH (L:=L) (id:=id) j (by omega) (fun k h1=>hk k (by omega))
  simp only [HL]
  by_cases hw:(M j).2=true∧id∈(M j).1
  ·rw [if_pos ⟨hk j (by omega) hw.1 hw.2,hw⟩]
  ·rw [if_neg (fun h=>hw h.2),ih,hH j id (by omega)]
   by_cases h2:(M j).2=true
   ·exact .inl fun h=>hw ⟨h2,h⟩
   ·exact .inr (by simpa using h2)
theorem MC {L:Nat→Bool} {id i:Nat}:∀d,(∀k,i≤k→k < i+d→L k=true→(M k).2=true→id∉(M k).1)→HL H M L (i+d) id=HL H M L i id
 | 0,_=>rfl
 | d+1,h=>by
  rw [← Nat.add_assoc]
  simp only [HL]
  rw [if_neg (fun hc=>h (i+d) (by omega) (by omega) hc.1 hc.2.1 hc.2.2)]
  exact MC d (fun k h1 h2=>h k h1 (by omega))
theorem acT {L:Nat→Bool} {i n:Nat} (hi:i < n) (hL:L i=false) (hlast:∀k id,i < k→k < n→L k=true→(M i).2=true→id∈(M i).1→(M k).2=true→id∉(M k).1) (id:Nat):
  HL H M (fun k=>k==i || L k) n id=if (M i).2=true∧id∈(M i).1 then H (i+1) id else HL H M L n id:=by
 by_cases hd:(M i).2=true∧id∈(M i).1
 ·rw [if_pos hd]
  obtain ⟨d,rfl⟩:=Nat.exists_eq_add_of_lt hi
  have e:i+d+1=(i+1)+d:=by omega
  rw [e,MC (i:=i+1) d (fun k h1 h2 h3 h4=>?_)]
  ·simp only [HL,BEq.rfl,Bool.true_or,true_and]
   rw [if_pos hd]
  ·have:(k==i)=false:=by simp;omega
   rw [this,Bool.false_or] at h3
   exact hlast k id (by omega) (by omega) h3 hd.1 hd.2 h4
 ·rw [if_neg hd]
  have:∀j,HL H M (fun k=>k==i || L k) j id=HL H M L j id:=by
   intro j
   induction j with
   | zero=>rfl
   | succ j ih=>
    simp only [HL]
    by_cases e:j=i
    ·subst e
     simp only [BEq.rfl,Bool.true_or,true_and,if_neg hd,hL,Bool.false_eq_true,false_and,if_false]
     exact ih
    ·have:(j==i)=false:=by simpa using e
     simp only [this,Bool.false_or,ih]
  exact this n
end
theorem I7:∀(r:List Oper) (j:Nat) (acc:List Nat),acc.length=j→
  (∀k,k < j→(Ec r j acc).getD (j+r.length - 1 - k) 0=acc.getD (j - 1 - k) 0)∧
  ∀(d:Nat) (o:Oper),r[d]?=some o→∃acc':List Nat,(Ec r j acc).getD (j+r.length - 1 - (j+d)) 0=zG acc' (j+d) o.after.toList∧∀k,k < j+d→acc'.getD (j+d - 1 - k) 0=(Ec r j acc).getD (j+r.length - 1 - k) 0
 | [],j,acc,h=>⟨fun k _=>rfl,fun d o hd=>by simp at hd⟩
 | o::r,j,acc,h=>by
  obtain ⟨h1,h2⟩:=I7 r (j+1) (zG acc j o.after.toList::acc) (by simp [h])
  have el:j+(o::r).length=j+1+r.length:=by simp only [List.length_cons];omega
  simp only [Ec]
  rw [el]
  have hpre:∀k,k < j→(Ec r (j+1) (zG acc j o.after.toList::acc)).getD (j+1+r.length - 1 - k) 0=acc.getD (j - 1 - k) 0:=by
   intro k hk
   rw [h1 k (by omega),show j+1 - 1 - k=(j - 1 - k)+1 by omega]
   rfl
  refine ⟨hpre,fun d o' hd=>?_⟩
  cases d with
  | zero=>
   simp only [List.getElem?_cons_zero,Option.some.injEq] at hd
   subst hd
   refine ⟨acc,?_,fun k hk=>?_⟩
   ·simp only [Nat.add_zero]
    rw [h1 j (by omega),show j+1 - 1 - j=0 by omega]
    rfl
   ·simp only [Nat.add_zero]
    exact (hpre k (by omega)).symm
  | succ d=>
   obtain ⟨acc',k1,k2⟩:=h2 d o' (by simpa using hd)
   refine ⟨acc',?_,fun k hk=>?_⟩
   ·rw [show j+(d+1)=j+1+d by omega,k1]
   ·have:=k2 k (by omega)
    rw [← this,show j+(d+1) - 1 - k=j+1+d - 1 - k by omega]
theorem Eu {acc:List Nat} {j i:Nat}:∀{l:List Edge},(zG acc j l).testBit i=true→∃e,e∈l∧Region.binds .any e=true∧(i=e.on∨(acc.getD (j - 1 - e.on) 0).testBit i=true)
 | [],h=>by simp [zG] at h
 | e::l,h=>by
  simp only [zG] at h
  split at h
  ·rename_i hb
   rw [Nat.testBit_or,Nat.testBit_or,Bool.or_eq_true,Bool.or_eq_true] at h
   rcases h with (h | h) | h
   ·obtain ⟨e',k1,k2⟩:=Eu h
    exact ⟨e',by simp [k1],k2⟩
   ·rw [Nat.testBit_two_pow] at h
    exact ⟨e,by simp,hb,.inl (by simpa [eq_comm] using h)⟩
   ·exact ⟨e,by simp,hb,.inr h⟩
  ·obtain ⟨e',k1,k2⟩:=Eu h
   exact ⟨e',by simp [k1],k2⟩
theorem Rel.drawn {dZ ro:Ro} {dW μ:Mu} {w0 w:World} {H0 H:Hp} {ro':Ro} (k:Nat) (g:Good ro μ w H) (e:yx dZ dW w0 H0 ro' μ w H):Good ro μ { w with drawn:=k } H∧yx dZ dW w0 H0 ro' μ { w with drawn:=k } H:=
 ⟨⟨g.qJ,g.ob,g.apart,g.gu,g.base⟩,⟨e.jC,e.kr,e.jE,e.lJ,e.frame,e.size,e.os,e.tape,e.output⟩⟩
def mask (T:List Nat) (σ:List Ob):List Ob:=σ.mapIdx fun i o=>if i∈T then o else .dead
theorem BS (T:List Nat) (σ:List Ob):(mask T σ).length=σ.length:=by simp [mask]
theorem WA {T:List Nat} {σ:List Ob} {i:Nat} (h:i∈T):(mask T σ)[i]?=σ[i]?:=by
 simp only [mask,List.getElem?_mapIdx,if_pos h]
 cases σ[i]? <;> rfl
theorem J9 (T:List Nat) (σ:List Ob) (i:Nat):hp (mask T σ) i=if i∈T then hp σ i else .dead:=by
 simp only [hp,mask,List.getElem?_mapIdx]
 by_cases h:i∈T
 ·simp only [if_pos h]
  cases σ[i]? <;> rfl
 ·simp only [if_neg h]
  cases σ[i]? <;> rfl
theorem Mh {ops:Array Oper} {x y:Oper} (h:Iu ops x y=true) {t:Nat}:(x.dst=some t→t∉vG ops y)∧(y.dst=some t→t∉vG ops x):=by
 unfold Iu at h
 rw [Bool.and_eq_true] at h
 refine ⟨fun e=>?_,fun e=>?_⟩
 ·have:=h.1
  rw [e] at this
  simpa using this
 ·have:=h.2
  rw [e] at this
  simpa using this
theorem PK {x y:List Nat×Bool} (h:PL x y=true) (hw:x.2=true∨y.2=true) {id:Nat} (h1:id∈x.1) (h2:id∈y.1):False:=by
 unfold PL at h
 rw [Bool.or_eq_true] at h
 rcases h with h | h
 ·rcases hw with hw | hw <;> simp [hw] at h
 ·unfold Ov at h
  rw [List.all_eq_true] at h
  have:=h id h1
  simp [h2] at this
structure Tr (P:Program) (ops:Array Oper) (S:Nat→St) (V:Nat→AV) (M:Nat→List Nat×Bool):Prop where
 grow:∀(j:Nat),j < ops.size→(S j).σ.length≤(S (j+1)).σ.length
 aes:∀(j:Nat),j < ops.size→(S (j+1)).env=qY (S j).env ((ops[j]?).bind (·.dst)) (V j)
 hps:∀(j id:Nat),j < ops.size→(id∉(M j).1∨(M j).2=false)→hp (S (j+1)).σ id=hp (S j).σ id
 mark:∀i j,i < j→j < ops.size→ahead ops i j=true∨PL (M i) (M j)=true
 text:∀i j (p o:Oper),i < j→ops[i]?=some p→ops[j]?=some o→ahead ops i j=true∨Iu ops p o=true
 back:∀(j:Nat) (o:Oper),ops[j]?=some o→∀e,e∈o.after.toList→Region.binds .any e=true→e.on < j
def Closed (ops:Array Oper) (L:Nat→Bool):Prop:=∀(j:Nat) (o:Oper),L j=true→ops[j]?=some o→∀e,e∈o.after.toList→Region.binds .any e=true→L e.on=true
theorem oO {P:Program} {ops:Array Oper} {S:Nat→St} {V:Nat→AV} {M:Nat→List Nat×Bool} (T:Tr P ops S V M) {L:Nat→Bool} (hL:Closed ops L):∀(j:Nat) (o:Oper),ops[j]?=some o→
  (∀e,e∈o.after.toList→Region.binds .any e=true→L e.on=true)→∀i,ahead ops i j=true→L i=true:=by
 intro j
 induction j using Nat.strongRecOn with
 | ind j ih=>
  intro o ho he i hi
  have hjl:=(Array.getElem?_eq_some_iff.1 ho).1
  obtain ⟨acc',k1,k2⟩:=(I7 ops.toList 0 [] rfl).2 j o (by simpa using ho)
  simp only [Nat.zero_add,Array.length_toList] at k1 k2
  unfold ahead at hi
  rw [k1] at hi
  obtain ⟨e,hm,hb,hi⟩:=Eu hi
  rcases hi with rfl | hi
  ·exact he e hm hb
  ·have hlt:=T.back j o ho e hm hb
   have hoe:ops[e.on]?=some (ops[e.on]'(by omega)):=Array.getElem?_eq_getElem (by omega)
   rw [k2 e.on hlt] at hi
   exact ih e.on hlt _ hoe (fun e' hm' hb'=>hL e.on _ (he e hm hb) hoe e' hm' hb') i hi
structure QJ (m:Nat) (dZ:Ro) (dW:Mu) (w0:World) (H0:Hp) (ops:Array Oper) (S:Nat→St) (V:Nat→AV) (M:Nat→List Nat×Bool) (L:Nat→Bool) (ro:Ro) (μ:Mu) (w:World) (a:Act):Prop where
 good:Good ro μ w (HL (fun j=>hp (S j).σ) M L ops.size)
 env:oo ro μ (EL (S 0).env (fun j=>(ops[j]?).bind (·.dst)) V L ops.size) a.tmps
 dom:∀id X,μ id=some X→id < (S 0).σ.length∨∃j,j < ops.size∧L j=true∧(S j).σ.length≤id∧id < (S (j+1)).σ.length
 defers:a.defers=[]
 ext:yx dZ dW w0 H0 ro μ w (HL (fun j=>hp (S j).σ) M L ops.size)
 keep:∀id,id < m→μ id=dW id
 hm:m≤(S 0).σ.length
section
variable {P:Program} {ops:Array Oper} {S:Nat→St} {V:Nat→AV} {M:Nat→List Nat×Bool} {m:Nat} {dZ ro:Ro} {dW μ:Mu} {w0 w:World} {H0:Hp} {a:Act} {L:Nat→Bool}
theorem Tr.mono (T:Tr P ops S V M) {i:Nat}:∀d,i+d≤ops.size→(S i).σ.length≤(S (i+d)).σ.length
 | 0,_=>Nat.le_refl _
 | d+1,h=>Nat.le_trans (T.mono d (by omega)) (T.grow (i+d) (by omega))
theorem Tr.mono' (T:Tr P ops S V M) {i j:Nat} (h:i≤j) (hj:j≤ops.size):(S i).σ.length≤(S j).σ.length:=by
 obtain ⟨d,rfl⟩:=Nat.le.dest h
 exact T.mono d hj
theorem Tr.names (T:Tr P ops S V M) (hL:Closed ops L) {i:Nat} {o:Oper} (ho:ops[i]?=some o) (TT:L i=false) (yc:∀e,e∈o.after.toList→Region.binds .any e=true→L e.on=true):∀t,t∈vG ops o→(EL (S 0).env (fun j=>(ops[j]?).bind (·.dst)) V L ops.size)[t]?=(S i).env[t]?:=by
 have hn:i < ops.size:=(Array.getElem?_eq_some_iff.1 ho).1
 have hpre:∀k,ahead ops k i=true→L k=true:=oO T hL i o ho yc
 have hpost:∀k,k < ops.size→L k=true→ahead ops i k=true→False:=by
  intro k hk hLk ha
  have hok:=Array.getElem?_eq_getElem hk
  have:=oO T hL k _ hok (hL k _ hLk hok) i ha
  rw [TT] at this;cases this
 intro t ht
 obtain ⟨d,hd⟩:=Nat.le.dest (Nat.le_of_lt hn)
 rw [← hd,MG d (fun k k1 k2 k3 k4=>?_)]
 ·refine (QM (E:=fun j=>(S j).env) (n:=ops.size) rfl (fun j hj=>T.aes j hj) i (by omega) (fun k k1 k2=>?_)).1
  have hk:=Array.getElem?_eq_getElem (xs:=ops) (i:=k) (by omega)
  rw [hk] at k2
  rcases T.text k i _ o k1 hk ho with q | q
  ·exact hpre k q
  ·exact absurd ht ((Mh q).1 k2)
 ·have hk:=Array.getElem?_eq_getElem (xs:=ops) (i:=k) (by omega)
  rw [hk] at k4
  rcases Nat.lt_or_ge i k with k5 | k5
  ·rcases T.text i k o _ k5 ho hk with q | q
   ·exact hpost k (by omega) k3 q
   ·exact (Mh q).2 k4 ht
  ·have:k=i:=by omega
   subst this
   rw [TT] at k3;cases k3
theorem Tr.put (T:Tr P ops S V M) (hL:Closed ops L) {i:Nat} {o:Oper} (ho:ops[i]?=some o) (TT:L i=false) (yc:∀e,e∈o.after.toList→Region.binds .any e=true→L e.on=true):EL (S 0).env (fun j=>(ops[j]?).bind (·.dst)) V (fun k=>k==i || L k) ops.size=qY (EL (S 0).env (fun j=>(ops[j]?).bind (·.dst)) V L ops.size) o.dst (V i):=by
 have hn:i < ops.size:=(Array.getElem?_eq_some_iff.1 ho).1
 have hpre:∀k,ahead ops k i=true→L k=true:=oO T hL i o ho yc
 have hpost:∀k,k < ops.size→L k=true→ahead ops i k=true→False:=by
  intro k hk hLk ha
  have hok:=Array.getElem?_eq_getElem hk
  have:=oO T hL k _ hok (hL k _ hLk hok) i ha
  rw [TT] at this;cases this
 rw [ajl hn TT (fun k t k1 k2 k3 k4 k5=>?_),ho]
 ·rfl
 ·have hk:=Array.getElem?_eq_getElem k2
  rw [hk] at k5
  rw [ho] at k4
  rcases T.text i k o _ k1 ho hk with q | q
  ·exact hpost k k2 k3 q
  ·exact (Mh q).2 k5 (by unfold vG;simp only [Option.bind_some] at k4;rw [k4];simp)
theorem QJ.step (T:Tr P ops S V M) (hL:Closed ops L) {i:Nat} {o:Oper} (ho:ops[i]?=some o) (h1:One P ops o (S i) (V i) (M i) (S (i+1))) (TT:L i=false) (yc:∀e,e∈o.after.toList→Region.binds .any e=true→L e.on=true)
  (r:QJ m dZ dW w0 H0 ops S V M L ro μ w a) {Q:Exit→Act→World→Prop} {K:Act→World→Prop} (hK:∀ro' μ' w' a',QJ m dZ dW w0 H0 ops S V M (fun k=>k==i || L k) ro' μ' w' a'→K a' w'):wpOp P ops Q i K a w:=by
 have hn:i < ops.size:=(Array.getElem?_eq_some_iff.1 ho).1
 have hpre:∀k,ahead ops k i=true→L k=true:=oO T hL i o ho yc
 have hpost:∀k,k < ops.size→L k=true→ahead ops i k=true→False:=by
  intro k hk hLk ha
  have hok:=Array.getElem?_eq_getElem hk
  have:=oO T hL k _ hok (hL k _ hLk hok) i ha
  rw [TT] at this;cases this
 have YA:=T.names hL ho TT yc
 have hheap:∀id,id∈(M i).1→HL (fun j=>hp (S j).σ) M L ops.size id=hp (S i).σ id:=by
  intro id hid
  obtain ⟨d,hd⟩:=Nat.le.dest (Nat.le_of_lt hn)
  rw [← hd,MC d (fun k k1 k2 k3 k4 k5=>?_)]
  ·refine QK (n:=ops.size) (fun j id hj h=>T.hps j id hj h) i (by omega) (fun k k1 k2 k3=>?_)
   rcases T.mark k i k1 hn with q | q
   ·exact hpre k q
   ·exact (PK q (.inl k2) k3 hid).elim
  ·rcases Nat.lt_or_ge i k with k6 | k6
   ·rcases T.mark i k k6 (by omega) with q | q
    ·exact hpost k (by omega) k3 q
    ·exact PK q (.inr k4) hid k5
   ·have:k=i:=by omega
    subst this
    rw [TT] at k3;cases k3
 have hput:=T.put hL ho TT yc
 have agx:∀id,HL (fun j=>hp (S j).σ) M (fun k=>k==i || L k) ops.size id=if (M i).2=true∧id∈(M i).1 then hp (S (i+1)).σ id else HL (fun j=>hp (S j).σ) M L ops.size id:=by
  intro id
  refine acT (H:=fun j=>hp (S j).σ) hn TT (fun k id k1 k2 k3 k4 k5 k6 k7=>?_) id
  rcases T.mark i k k1 k2 with q | q
  ·exact hpost k k2 k3 q
  ·exact PK q (.inl k4) k5 k7
 have hdom:∀(μ':Mu),(∀id,μ' id≠μ id→(S i).σ.length≤id∧id < (S (i+1)).σ.length)→∀id X,μ' id=some X→id < (S 0).σ.length∨∃j,j < ops.size∧(j==i || L j)=true∧(S j).σ.length≤id∧id < (S (j+1)).σ.length:=by
  intro μ' hμ id X hX
  by_cases q:μ' id=μ id
  ·rcases r.dom id X (by rw [← q];exact hX) with k | ⟨j,k1,k2,k3⟩
   ·exact .inl k
   ·exact .inr ⟨j,k1,by simp [k2],k3⟩
  ·exact .inr ⟨i,hn,by simp,hμ id q⟩
 unfold wpOp
 simp only [ho]
 have hw:Region.wanted o (yielded ops a.tmps)=(match wants ops (S i).env o with | some b=>b | none=>Region.wanted o (yielded ops a.tmps)):=by
  split
  ·rename_i b hb
   refine qo r.env ?_
   rw [XD (env:=(S i).env) fun t ht=>YA t (by unfold vG;simp [ht]),hb]
  ·rfl
 rcases h1.or with ⟨call,v0,hc,hAW,hwant,hop,hmk,_⟩ | ⟨hwant,hv,hσ,hmk⟩
 ·rw [hwant] at hw
  simp only at hw
  rw [hw]
  simp only [if_true]
  obtain ⟨l1,l2,l3⟩:=Kh hop
  obtain ⟨σm,e1,e2,e3,e4⟩:=l3 (mask (touches (S i).env (S i).σ o).1 (S i).σ) (BS _ _) (fun id hid=>WA hid)
  simp only at e1
  rw [← aeE (env':=EL (S 0).env (fun j=>(ops[j]?).bind (·.dst)) V L ops.size) fun t ht=>YA t (by unfold vG;simp [ht])] at e1
  have hin:∀id,id∈(M i).1↔(id∈(touches (S i).env (S i).σ o).1∨((S i).σ.length≤id∧id < (S (i+1)).σ.length)):=by
   intro id
   rw [hmk]
   simp only [marked,List.mem_append,List.mem_range'_1]
   constructor
   ·rintro (h | h)
    ·exact .inl h
    ·exact .inr ⟨h.1,by omega⟩
   ·rintro (h | h)
    ·exact .inl h
    ·exact .inr ⟨h.1,by omega⟩
  have hsub:∀id,hp (mask (touches (S i).env (S i).σ o).1 (S i).σ) id=HL (fun j=>hp (S j).σ) M L ops.size id∨hp (mask (touches (S i).env (S i).σ o).1 (S i).σ) id=.dead:=by
   intro id
   rw [J9]
   split
   ·rename_i hid
    exact .inl (hheap id ((hin id).2 (.inl hid))).symm
   ·exact .inr rfl
  have hfree:∀id,(mask (touches (S i).env (S i).σ o).1 (S i).σ).length≤id→id < σm.length→μ id=none:=by
   intro id k1 k2
   rw [BS] at k1
   rw [e2] at k2
   cases hμ:μ id with
   | none=>rfl
   | some X=>
    exfalso
    rcases r.dom id X hμ with k | ⟨j,k3,k4,k5,k6⟩
    ·have:=T.mono' (Nat.zero_le i) (by omega);omega
    ·rcases Nat.lt_trichotomy j i with q | q | q
     ·have:=T.mono' (i:=j+1) (j:=i) (by omega) (by omega);omega
     ·subst q;rw [TT] at k4;cases k4
     ·have:=T.mono' (i:=i+1) (j:=j) (by omega) (by omega);omega
  refine .inl (OE hc e1 (r.good.less hsub) hfree r.env ?_)
  intro v ro' μ' w' g1 g2 g3 g4 g5
  rw [BS,e2] at g4
  have hD:∀id,¬(id∈(M i).1)→hp (mask (touches (S i).env (S i).σ o).1 (S i).σ) id=.dead∧hp σm id=.dead∧μ' id=μ id:=by
   intro id hid
   have SX:¬(id∈(touches (S i).env (S i).σ o).1∨((S i).σ.length≤id∧id < (S (i+1)).σ.length)):=fun h=>hid ((hin id).2 h)
   rw [not_or] at SX
   refine ⟨by rw [J9,if_neg SX.1],?_,?_⟩
   ·by_cases hlt:id < (S i).σ.length
    ·have:σm[id]?=(mask (touches (S i).env (S i).σ o).1 (S i).σ)[id]?:=e4 id SX.1 hlt
     have k:=J9 (touches (S i).env (S i).σ o).1 (S i).σ id
     rw [if_neg SX.1] at k
     simp only [hp,this] at k ⊢
     exact k
    ·exact qg (by have:=SX.2;omega)
   ·by_cases q:μ' id=μ id
    ·exact q
    ·exact absurd (g4 id q) SX.2
  obtain ⟨m1,m2⟩:=Good.merge (fun id=>id∈(M i).1) r.good hsub hD g2 g3
  have hfin:(fun id=>if id∈(M i).1 then hp σm id else HL (fun j=>hp (S j).σ) M L ops.size id)=HL (fun j=>hp (S j).σ) M (fun k=>k==i || L k) ops.size:=by
   funext id
   rw [agx id]
   by_cases hid:id∈(M i).1
   ·have:hp σm id=hp (S (i+1)).σ id:=by
     have:σm[id]?=(S (i+1)).σ[id]?:=e3 id (((hin id).1 hid).imp (fun h=>h) (fun h=>h.1))
     simp only [hp,this]
    rw [if_pos hid,this]
    split
    ·rfl
    ·rename_i hw2
     rw [hheap id hid,T.hps i id hn (.inr (by
      cases hb:(M i).2 with
      | false=>rfl
      | true=>exact absurd ⟨hb,hid⟩ hw2))]
   ·rw [if_neg hid,if_neg (fun h=>hid h.2)]
  rw [hfin] at m1 m2
  refine hK ro' μ' w' _ ⟨m1,?_,hdom μ' g4,by rw [qB];exact r.defers,r.ext.trans m2.Ri,fun id hi=>?_,r.hm⟩
  ·rw [hput]
   exact xL (r.env.mono g3.jC g3.Ll) (hAW _ _ _ g1) o.dst
  ·have q:μ' id=μ id:=by
    by_cases q:μ' id=μ id
    ·exact q
    ·have:=(g4 id q).1
     have:=T.mono' (Nat.zero_le i) (by omega)
     have:=r.hm
     omega
   rw [q];exact r.keep id hi
 ·rw [hwant] at hw
  simp only at hw
  rw [hw]
  simp only [Bool.false_eq_true,if_false]
  have hfin:HL (fun j=>hp (S j).σ) M (fun k=>k==i || L k) ops.size=HL (fun j=>hp (S j).σ) M L ops.size:=by
   funext id
   rw [agx id,hmk,if_neg (by simp)]
  refine hK ro μ w _ ⟨by rw [hfin];exact r.good,?_,hdom μ (fun id q=>absurd rfl q),by rw [qB];exact r.defers,by rw [hfin];exact r.ext,r.keep,r.hm⟩
  rw [hput,hv]
  exact xL r.env (.tuple [] #[] rfl (fun i x v hx=>by simp at hx)) o.dst
end
section
variable {P:Program} {ops:Array Oper} {S:Nat→St} {V:Nat→AV} {M:Nat→List Nat×Bool} {m:Nat} {dZ:Ro} {dW:Mu} {w0:World} {H0:Hp}
theorem mem_ready {listed:Array Bool} {i:Nat}:i∈Region.ready .any ops listed↔i < ops.size∧listed.getD i true=false∧∃o,ops[i]?=some o∧∀e,e∈o.after.toList→Region.binds .any e=true→listed.getD e.on false=true:=by
 unfold Region.ready
 simp only [List.mem_filter,List.mem_range,Bool.and_eq_true,Bool.not_eq_true']
 constructor
 ·rintro ⟨h1,h2,h3⟩
  refine ⟨h1,h2,ops[i],Array.getElem?_eq_getElem h1,fun e he hb=>?_⟩
  rw [Array.getElem?_eq_getElem h1] at h3
  simp only [Option.map_some,Option.getD_some,Array.all_eq_true'] at h3
  have:=h3 e (Array.mem_toList_iff.1 he)
  rw [hb] at this
  simpa using this
 ·rintro ⟨h1,h2,o,ho,h3⟩
  refine ⟨h1,h2,?_⟩
  rw [ho]
  simp only [Option.map_some,Option.getD_some,Array.all_eq_true']
  intro e he
  by_cases hb:Region.binds .any e=true
  ·rw [h3 e (Array.mem_toList_iff.2 he) hb];simp
  ·simp [hb]
theorem Vk (T:Tr P ops S V M) {listed:Array Bool} (hs:listed.size=ops.size) (h:Region.ready .any ops listed=[]):∀i,i < ops.size→listed.getD i false=true:=by
 intro i
 induction i using Nat.strongRecOn with
 | ind i ih=>
  intro hi
  cases hc:listed.getD i false with
  | true=>rfl
  | false=>
   exfalso
   have:i∈Region.ready .any ops listed:=mem_ready.2 ⟨hi,by simp [Array.getD,hs,hi] at hc ⊢;exact hc,ops[i],Array.getElem?_eq_getElem hi,fun e he hb=>by
    have:=T.back i _ (Array.getElem?_eq_getElem hi) e he hb
    exact ih e.on this (by omega)⟩
   rw [h] at this
   cases this
def vV (n:Nat) (listed:Array Bool):Nat:=((List.range n).filter fun i=> !listed.getD i false).length
theorem O4 {listed:Array Bool} {n i:Nat} (hs:listed.size=n) (hi:i < n) (hl:listed.getD i false=false):vV n (listed.setIfInBounds i true) < vV n listed:=by
 unfold vV
 have key:∀l:List Nat,l.Nodup→((l.filter fun k=> !(listed.setIfInBounds i true).getD k false).length≤(l.filter fun k=> !listed.getD k false).length)∧(i∈l→(l.filter fun k=> !(listed.setIfInBounds i true).getD k false).length < (l.filter fun k=> !listed.getD k false).length):=by
  intro l hnd
  induction l with
  | nil=>simp
  | cons k l ih=>
   rw [List.nodup_cons] at hnd
   obtain ⟨h1,h2⟩:=ih hnd.2
   by_cases e:k=i
   ·subst e
    have a1:(listed.setIfInBounds k true).getD k false=true:=by simp [Array.getD,hs,hi]
    simp only [List.filter_cons,a1,hl,Bool.not_true,Bool.not_false,Bool.false_eq_true,if_false,if_true,List.length_cons]
    exact ⟨by omega,fun _=>by omega⟩
   ·have a1:(listed.setIfInBounds i true).getD k false=listed.getD k false:=by
     simp only [Array.getD_eq_getD_getElem?,Array.getElem?_setIfInBounds]
     rw [if_neg (fun h=>e h.symm)]
    simp only [List.filter_cons,a1,List.mem_cons]
    split
    ·simp only [List.length_cons]
     exact ⟨by omega,fun h=>by have:=h2 (h.resolve_left fun q=>e q.symm);omega⟩
    ·exact ⟨h1,fun h=>h2 (h.resolve_left fun q=>e q.symm)⟩
 exact (key (List.range n) List.nodup_range).2 (List.mem_range.2 hi)
theorem Gj {listed:Array Bool} {n i:Nat} (hs:listed.size=n) (hi:i < n) (k:Nat):(listed.setIfInBounds i true).getD k false=(k==i || listed.getD k false):=by
 simp only [Array.getD_eq_getD_getElem?,Array.getElem?_setIfInBounds]
 by_cases e:k=i
 ·subst e
  simp [hs,hi]
 ·have:(k==i)=false:=by simpa using e
  rw [if_neg (fun h=>e h.symm),this,Bool.false_or]
def Vp (P:Program) (ops:Array Oper) (S:Nat→St) (V:Nat→AV) (M:Nat→List Nat×Bool) (m:Nat) (dZ:Ro) (dW:Mu) (w0:World) (H0:Hp) (i:Nat) (o:Oper):Prop:=
 ∀(L:Nat→Bool) (ro:Ro) (μ:Mu) (w:World) (a:Act) (Q:Exit→Act→World→Prop) (K:Act→World→Prop),Closed ops L→L i=false→(∀e,e∈o.after.toList→Region.binds .any e=true→L e.on=true)→
  QJ m dZ dW w0 H0 ops S V M L ro μ w a→(∀ro' μ' w' a',QJ m dZ dW w0 H0 ops S V M (fun k=>k==i || L k) ro' μ' w' a'→K a' w')→wpOp P ops Q i K a w
theorem OG (T:Tr P ops S V M) (hst:∀(i:Nat) (o:Oper),ops[i]?=some o→Vp P ops S V M m dZ dW w0 H0 i o) {Q:Exit→Act→World→Prop} (hQ:∀a' w',Ends m dZ dW w0 H0 (S ops.size) a' w'→Q .normal a' w'):∀(fuel:Nat) (listed:Array Bool) (ro:Ro) (μ:Mu) (w:World) (a:Act),listed.size=ops.size→vV ops.size listed≤fuel→
  Closed ops (fun k=>listed.getD k false)→QJ m dZ dW w0 H0 ops S V M (fun k=>listed.getD k false) ro μ w a→wpAny P .any ops Q fuel listed a w:=by
 have done:∀(listed:Array Bool) (ro:Ro) (μ:Mu) (w:World) (a:Act),listed.size=ops.size→QJ m dZ dW w0 H0 ops S V M (fun k=>listed.getD k false) ro μ w a→Region.ready .any ops listed=[]→Q .normal a w:=by
  intro listed ro μ w a hs hr hrd
  have hall:=Vk T hs hrd
  have e1:EL (S 0).env (fun j=>(ops[j]?).bind (·.dst)) V (fun k=>listed.getD k false) ops.size=(S ops.size).env:=by
   apply List.ext_getElem?
   intro t
   exact (QM (E:=fun j=>(S j).env) (n:=ops.size) rfl (fun j hj=>T.aes j hj) ops.size (Nat.le_refl _) (fun k hk _=>hall k hk)).1
  have e2:HL (fun j=>hp (S j).σ) M (fun k=>listed.getD k false) ops.size=hp (S ops.size).σ:=by
   funext id
   exact QK (n:=ops.size) (fun j id hj h=>T.hps j id hj h) ops.size (Nat.le_refl _) (fun k hk _ _=>hall k hk)
  refine hQ a w ⟨ro,μ,by rw [← e2];exact hr.good,by rw [← e1];exact hr.env,fun id X hX=>?_,hr.defers,by rw [← e2];exact hr.ext,hr.keep,Nat.le_trans hr.hm (T.mono' (Nat.zero_le _) (Nat.le_refl _))⟩
  rcases hr.dom id X hX with k | ⟨j,k1,_,_,k2⟩
  ·have:=T.mono' (Nat.zero_le ops.size) (Nat.le_refl _);omega
  ·have:=T.mono' (i:=j+1) (j:=ops.size) (by omega) (Nat.le_refl _);omega
 intro fuel
 induction fuel with
 | zero=>
  intro listed ro μ w a hs hu hcl hr
  have hrd:Region.ready .any ops listed=[]:=by
   rw [List.eq_nil_iff_forall_not_mem]
   intro i hi
   obtain ⟨h1,h2,_⟩:=mem_ready.1 hi
   have:i∈(List.range ops.size).filter fun i=> !listed.getD i false:=by
    rw [List.mem_filter]
    refine ⟨List.mem_range.2 h1,?_⟩
    simp only [Array.getD,hs,h1,dite_true] at h2 ⊢
    simp only [h2,Bool.not_false]
   have hlen:=List.length_pos_of_mem this
   unfold vV at hu
   omega
  exact ⟨hrd,done listed ro μ w a hs hr hrd⟩
 | succ fuel ih=>
  intro listed ro μ w a hs hu hcl hr
  refine ⟨done listed ro μ w a hs hr,fun i hi=>?_⟩
  obtain ⟨h1,h2,o,ho,h3⟩:=mem_ready.1 hi
  have hli:listed.getD i false=false:=by
   simp only [Array.getD,hs,h1,dite_true] at h2 ⊢
   exact h2
  refine hst i o ho _ ro μ w a Q _ hcl hli h3 hr fun ro' μ' w' a' hr'=>?_
  have eL:(fun k=>(listed.setIfInBounds i true).getD k false)=fun k=>k==i || listed.getD k false:=by
   funext k
   exact Gj hs h1 k
  refine ih _ ro' μ' w' a' (by simp [hs]) (by have:=O4 hs h1 hli;omega) ?_ (by rw [eL];exact hr')
  rw [eL]
  intro j p hj hp' e he hb
  simp only [Bool.or_eq_true,beq_iff_eq] at hj ⊢
  rcases hj with rfl | hj
  ·rw [ho] at hp'
   simp only [Option.some.injEq] at hp'
   subst hp'
   exact .inr (h3 e he hb)
  ·exact .inr (hcl j p hj hp' e he hb)
end
theorem WW {P:Program} (m:Nat) (dZ:Ro) (dW:Mu) (w0:World) (H0:Hp) (Q:Exit→Act→World→Prop) (ops:Array Oper) (s s':St) (l:List (List Nat×Bool)) (ro:Ro) (μ:Mu) (w:World) (a:Act)
 (hT:RunT P ops ops.toList s s' l) (hok:(eD ops l&&pW P ops)=true) (hrel:Rel m dZ dW w0 H0 ro μ w s a)
  (hQ:∀a' w',Ends m dZ dW w0 H0 s' a' w'→Q .normal a' w'):P.follows .mixedOrders=true∧wpAny P .any ops Q ops.size (Array.replicate ops.size false) a { w with drawn:=w.drawn+1 }:=by
 rw [Bool.and_eq_true] at hok
 obtain ⟨hun,htx⟩:=hok
 unfold pW at htx
 rw [Bool.and_eq_true] at htx
 obtain ⟨ais,htx⟩:=htx
 rw [List.all_eq_true] at htx
 obtain ⟨S,V,M,k0,k1,k2,k3⟩:=trace ops.toList s s' l hT
 simp only [Array.length_toList,Array.getElem?_toList] at k1 k2 k3
 have hmk:∀j,j < ops.size→l.getD j ([],true)=M j:=by
  intro j hj
  rw [List.getD_eq_getElem?_getD,(k3 j _ (Array.getElem?_eq_getElem hj)).1]
  rfl
 have tx:∀(j:Nat) (o:Oper),ops[j]?=some o→(∀e,e∈o.after.toList→Region.binds .any e=true→e.on < j)∧∀(i:Nat) (p:Oper),i < j→ops[i]?=some p→ahead ops i j=true∨Iu ops p o=true:=by
  intro j o ho
  have:=htx j (List.mem_range.2 (Array.getElem?_eq_some_iff.1 ho).1)
  rw [ho] at this
  simp only [Bool.and_eq_true,List.all_eq_true,Bool.or_eq_true,Bool.not_eq_true',decide_eq_true_eq] at this
  refine ⟨fun e he hb=>?_,fun i p hij hi=>?_⟩
  ·rcases this.1 e he with q | q
   ·rw [hb] at q;cases q
   ·exact q
  ·have:=this.2 i (List.mem_range.2 hij)
   rw [hi] at this
   simpa using this
 have T:Tr P ops S V M:={
  grow:=fun j hj=>(k3 j _ (Array.getElem?_eq_getElem hj)).2.grow
  aes:=fun j hj=>by rw [(k3 j _ (Array.getElem?_eq_getElem hj)).2.env,Array.getElem?_eq_getElem hj];rfl
  hps:=fun j id hj h=>(k3 j _ (Array.getElem?_eq_getElem hj)).2.old h
  mark:=fun i j hij hj=>by
   unfold eD at hun
   simp only [List.all_eq_true,List.mem_range] at hun
   have:=hun j (by omega) i hij
   rw [hmk i (by omega),hmk j hj,Bool.or_eq_true] at this
   exact this
  text:=fun i j p o hij hi hj=>(tx j o hj).2 i p hij hi
  back:=fun j o ho=>(tx j o ho).1 }
 obtain ⟨g,x⟩:=Rel.drawn (w.drawn+1) hrel.good hrel.ext
 refine ⟨ais,OG T (fun i o ho L ro μ w a Q K h1 h2 h3 h4 h5=>QJ.step T h1 ho (k3 i o ho).2 h2 h3 h4 h5) (m:=m) (dZ:=dZ) (dW:=dW) (w0:=w0) (H0:=H0) (Q:=Q) (by rw [k1];exact hQ) ops.size _ ro μ _ a (by simp) ?_ ?_ ?_⟩
 ·unfold vV
  exact Nat.le_trans (List.length_filter_le _ _) (by simp)
 ·intro j o hj
  exfalso
  simp [Array.getD] at hj
 ·have e1:∀n,EL (S 0).env (fun j=>(ops[j]?).bind (·.dst)) V (fun k=>(Array.replicate ops.size false).getD k false) n=(S 0).env:=by
   intro n
   induction n with
   | zero=>rfl
   | succ n ih=>
    have:(Array.replicate ops.size false).getD n false=false:=by simp [Array.getD]
    simp only [EL,this,Bool.false_eq_true,if_false]
    exact ih
  have e2:∀n,HL (fun j=>hp (S j).σ) M (fun k=>(Array.replicate ops.size false).getD k false) n=hp (S 0).σ:=by
   intro n
   induction n with
   | zero=>rfl
   | succ n ih=>
    have:(Array.replicate ops.size false).getD n false=false:=by simp [Array.getD]
    simp only [HL,this,Bool.false_eq_true,false_and,if_false]
    exact ih
  refine ⟨by rw [e2,k0];exact g,by rw [e1,k0];exact hrel.env,fun id X hX=>.inl (by rw [k0];exact hrel.dom id X hX),hrel.defers,by rw [e2,k0];exact x,hrel.keep,by rw [k0];exact hrel.hm⟩
theorem ai3 {P:Program} (m:Nat) (dZ:Ro) (dW:Mu) (w0:World) (H0:Hp) (Q:Exit→Act→World→Prop) (ops:Array Oper) (id:Nat) (s s':St) (l:List (List Nat×Bool)) (ro:Ro) (μ:Mu) (w:World) (a:Act)
 (hT:RunT P ops ops.toList s s' l) (hok:(eD ops l&&pW P ops)=true) (hrel:Rel m dZ dW w0 H0 ro μ w s a)
  (hQ:∀a' w',Ends m dZ dW w0 H0 s' a' w'→Q .normal a' w'):(Code.region id ops true).wp P Q a w:=
 let ⟨h1,h2⟩:=WW m dZ dW w0 H0 Q ops s s' l ro μ w a hT hok hrel hQ
 wp_region_any h1 h2
end Lv
/- Code walked on the evaluator's states: what holds of every state of the machine that stands so. -/
namespace Lv
open Go
variable [bJ]
def aT (P:Program) (f:FuncId) (args:List AV) (σ:List Ob) (r:AV) (σ':List Ob):Prop:=
 ∀(ro:Ro) (μ:Mu) (w:World) (fG:Array Value),Good ro μ w (hp σ)→(∀id L,μ id=some L→id < σ.length)→oo ro μ args fG→
  Calls P f fG w (fun e w'=>∃v ro' μ',e=.returned v∧VR ro' μ' r v∧Good ro' μ' w' (hp σ')∧yx ro μ w (hp σ) ro' μ' w' (hp σ')∧(∀id L,μ' id=some L→id < σ'.length)∧(∀id,id < σ.length→μ' id=μ id))
open Classical in
noncomputable def single (f:FuncId) (args:List AV) (σ:List Ob) (r:AV) (σ':List Ob):Callee:=fun f' a' s'=>if f'=f∧a'=args∧s'=σ then some (r,σ') else none
theorem vM {P:Program} {f:FuncId} {args:List AV} {σ:List Ob} {r:AV} {σ':List Ob} (h:aT P f args σ r σ'):ET P (single f args σ r σ'):=by
 intro f' a' s' r' s'' hc
 unfold single at hc
 split at hc
 ·rename_i e
  obtain ⟨rfl,rfl,rfl⟩:=e
  simp only [Option.some.injEq,Prod.mk.injEq] at hc
  obtain ⟨rfl,rfl⟩:=hc
  exact h
 ·cases hc
theorem Og (P:Program):ET P (fun _ _ _=>none):=fun f a s r s' h=>by cases h
section
variable {P:Program} {m:Nat} {ops:Array Oper} {o:Oper} {l:List Oper}
def ST (P:Program) (ops:Array Oper) (l:List Oper) (s:St) (acc:List (List Nat×Bool)) (Q:St→List (List Nat×Bool)→Prop):Prop:=∃s' t,RunT P ops l s s' t∧Q s' (acc.reverse++t)
def SC (P:Program) (m:Nat) (c:Code) (s:St) (Q:Ex→St→Prop):Prop:=
 ∀(dZ:Ro) (dW:Mu) (w0:World) (H0:Hp) (ro:Ro) (μ:Mu) (w:World) (a:Act) (Z:Exit→Act→World→Prop),Rel m dZ dW w0 H0 ro μ w s a→
  (∀e s' a' w',Q e s'→Ends m dZ dW w0 H0 s' a' w'→Z e.exit' a' w')→c.wp P Z a w
def SI (P:Program) (m:Nat) (c:Code) (s:St) (Q:Ex→St→Prop):Prop:=
 ∀(dZ:Ro) (dW:Mu) (w0:World) (H0:Hp) (ro:Ro) (μ:Mu) (w:World) (a:Act) (Z:Exit→Act→World→Prop),Rel m dZ dW w0 H0 ro μ w s a→
  (∀e s' a' w',Q e s'→Ends m dZ dW w0 H0 s' a' w'→Z e.exit' a' w')→wpIn P c Z a w
def Wk (m:Nat) (s s1:St):Prop:=∀(dZ:Ro) (dW:Mu) (w0:World) (H0:Hp) (ro:Ro) (μ:Mu) (w:World) (a:Act),Rel m dZ dW w0 H0 ro μ w s a→Ends m dZ dW w0 H0 s1 a w
theorem Wk.refl (s:St):Wk m s s:=fun _ _ _ _ ro μ _ _ h=>⟨ro,μ,h⟩
theorem Wk.trans {s s1 s2:St} (h:Wk m s s1) (k:Wk m s1 s2):Wk m s s2:=fun dZ dW w0 H0 ro μ w a hr=>let ⟨qK,y9,h1⟩:=h dZ dW w0 H0 ro μ w a hr;k dZ dW w0 H0 qK y9 w a h1
theorem Wk.of_eq {s s1:St} (h:s=s1):Wk m s s1:=h▸Wk.refl s
theorem Wk.ends {s s1:St} (h:Wk m s s1) {dZ:Ro} {dW:Mu} {w0:World} {H0:Hp} {a:Act} {w:World} (he:Ends m dZ dW w0 H0 s a w):Ends m dZ dW w0 H0 s1 a w:=let ⟨ro,μ,hr⟩:=he;h dZ dW w0 H0 ro μ w a hr
def SO (P:Program) (m:Nat) (ops:Array Oper) (l:List Oper) (s:St) (Q:St→Prop):Prop:=
 ∀(dZ:Ro) (dW:Mu) (w0:World) (H0:Hp) (ro:Ro) (μ:Mu) (w:World) (a:Act) (k:Nat) (Z:Exit→Act→World→Prop),(∀j,l[j]?=ops[k+j]?)→Rel m dZ dW w0 H0 ro μ w s a→
  (∀s' a' w',Q s'→Ends m dZ dW w0 H0 s' a' w'→Z .normal a' w')→wpOps P ops Z (List.range' k l.length) a w
theorem SO.wk {s s1:St} {Q:St→Prop} (h:Wk m s s1) (k:SO P m ops l s1 Q):SO P m ops l s Q:=by
 intro dZ dW w0 H0 ro μ w a j Z hl hr hQ
 obtain ⟨qK,y9,h1⟩:=h dZ dW w0 H0 ro μ w a hr
 exact k dZ dW w0 H0 qK y9 w a j Z hl h1 hQ
theorem SO.done {s:St} {Q:St→Prop} (h:Q s):SO P m ops [] s Q:=fun dZ dW w0 H0 ro μ w a k Z _ hr hQ=>hQ s a w h ⟨ro,μ,hr⟩
theorem SO.one {s s1:St} {v:AV} {mk:List Nat×Bool} {Q:St→Prop} (h1:One P ops o s v mk s1) (h2:SO P m ops l s1 Q):SO P m ops (o::l) s Q:=by
 intro dZ dW w0 H0 ro μ w a k Z hl hr hQ
 have h0:ops[k]?=some o:=by have:=hl 0;simpa using this.symm
 have hl':∀j,l[j]?=ops[k+1+j]?:=fun j=>by have:=hl (j+1);simp at this;rw [this];congr 1;omega
 simp only [List.length_cons,List.range'_succ]
 rw [wpOps_cons]
 unfold wpOp
 simp only [h0]
 obtain ⟨avw,σ1⟩:=s1
 have he:=h1.env
 simp only at he
 subst he
 rcases h1.or with ⟨call,v0,hc,hAW,hw,hop,_⟩ | ⟨hw,hv,hσ,_⟩
 ·rw [qo hr.env hw]
  simp only [if_true]
  refine .inl (OE hc hop hr.good (fun id hid _=>?_) hr.env ?_)
  ·cases hm:μ id with
   | none=>rfl
   | some L=>have:=hr.dom id L hm;omega
  ·intro v ro' μ' w' k1 k2 k3 k4 k5
   exact h2 dZ dW w0 H0 ro' μ' w' _ (k+1) Z hl' (hr.op (hAW _ _ _ k1) k2 k3 k4 k5 o.dst) hQ
 ·rw [qo hr.env hw]
  simp only [Bool.false_eq_true,if_false]
  simp only at hσ
  subst hσ
  subst hv
  exact h2 dZ dW w0 H0 ro μ w _ (k+1) Z hl' (hr.skip o.dst) hQ
theorem SC.wk {c:Code} {s s1:St} {Q:Ex→St→Prop} (h:Wk m s s1) (k:SC P m c s1 Q):SC P m c s Q:=by
 intro dZ dW w0 H0 ro μ w a Z hr hQ
 obtain ⟨qK,y9,h1⟩:=h dZ dW w0 H0 ro μ w a hr
 exact k dZ dW w0 H0 qK y9 w a Z h1 hQ
theorem SC.post {c:Code} {s:St} {Q Q':Ex→St→Prop} (h:SC P m c s Q') (hq:∀e s,Q' e s→∃s1,Wk m s s1∧Q e s1):SC P m c s Q:=by
 intro dZ dW w0 H0 ro μ w a Z hr hQ
 refine h dZ dW w0 H0 ro μ w a Z hr fun e s' a' w' h1 h2=>?_
 obtain ⟨s1,k1,k2⟩:=hq e s' h1
 exact hQ e s1 a' w' k2 (k1.ends h2)
theorem SC.mono {c:Code} {s:St} {Q Q':Ex→St→Prop} (h:SC P m c s Q') (hq:∀e s,Q' e s→Q e s):SC P m c s Q:=h.post fun e s q=>⟨s,Wk.refl s,hq e s q⟩
theorem SC.region {id:Nat} {s:St} {Q:Ex→St→Prop} (h:SO P m ops ops.toList s (fun s'=>Q .normal s')):SC P m (.region id ops false) s Q:=by
 intro dZ dW w0 H0 ro μ w a Z hr hQ
 refine wp_region ?_
 rw [List.range_eq_range']
 have:=h dZ dW w0 H0 ro μ w a 0 Z (fun j=>by simp) hr (fun s' a' w' h2 he=>hQ .normal s' a' w' h2 he)
 simpa using this
theorem SC.draws {id:Nat} {s:St} {Q:Ex→St→Prop} (hok:pW P ops=true) (h:ST P ops ops.toList s [] (fun s' t=>eD ops t=true∧Q .normal s')):SC P m (.region id ops true) s Q:=by
 intro dZ dW w0 H0 ro μ w a Z hr hQ
 obtain ⟨s',t,h1,h2,h3⟩:=h
 simp only [List.reverse_nil,List.nil_append] at h2
 exact ai3 m dZ dW w0 H0 Z ops id s s' t ro μ w a h1 (by rw [h2,hok];rfl) hr (fun a' w' he=>hQ .normal s' a' w' h3 he)
theorem SC.seq {a b:Code} {s:St} {Q:Ex→St→Prop} (h:SC P m a s (fun e s1=>match e with | .normal=>SC P m b s1 Q | e=>Q e s1)):SC P m (.seq a b) s Q:=by
 intro dZ dW w0 H0 ro μ w act Z hr hQ
 refine wp_seq ?_
 refine h dZ dW w0 H0 ro μ w act _ hr fun e s' a' w' h1 h2=>?_
 cases e with
 | normal=>
  obtain ⟨ro',μ',hr'⟩:=h2
  exact h1 dZ dW w0 H0 ro' μ' w' a' Z hr' hQ
 | ret=>exact hQ .ret s' a' w' h1 h2
 | exit i=>exact hQ (.exit i) s' a' w' h1 h2
theorem SC.cond {c:Operand} {a b:Code} {s:St} {Q:Ex→St→Prop} {t:Bool} (hc:oM s.env c=some (.d (.bool t))) (h1:t=true→SC P m a s Q) (h2:t=false→SC P m b s Q):SC P m (.cond c a b) s Q:=by
 intro dZ dW w0 H0 ro μ w act Z hr hQ
 have ec:act.eval c=.bool t:=gP (bS hr.env hc) rfl
 refine wp_cond ec ?_
 cases t with
 | true=>exact h1 rfl dZ dW w0 H0 ro μ w act Z hr hQ
 | false=>exact h2 rfl dZ dW w0 H0 ro μ w act Z hr hQ
theorem SC.skip {s:St} {Q:Ex→St→Prop} (h:Q .normal s):SC P m .skip s Q:=fun dZ dW w0 H0 ro μ w a Z hr hQ=>wp_skip (hQ .normal s a w h ⟨ro,μ,hr⟩)
theorem SC.label {i:Nat} {s:St} {Q:Ex→St→Prop} (h:Q .normal s):SC P m (.label i) s Q:=fun dZ dW w0 H0 ro μ w a Z hr hQ=>wp_label (hQ .normal s a w h ⟨ro,μ,hr⟩)
theorem SC.ret {s:St} {Q:Ex→St→Prop} (h:Q .ret s):SC P m .ret s Q:=fun dZ dW w0 H0 ro μ w a Z hr hQ=>wp_ret (hQ .ret s a w h ⟨ro,μ,hr⟩)
theorem SC.exit {i:Nat} {s:St} {Q:Ex→St→Prop} (h:Q (.exit i) s):SC P m (.exit i) s Q:=fun dZ dW w0 H0 ro μ w a Z hr hQ=>wp_exit (hQ (.exit i) s a w h ⟨ro,μ,hr⟩)
theorem SC.block {i:Nat} {a:Code} {s:St} {Q:Ex→St→Prop} (h:SC P m a s (fun e s1=>match e with | .exit j=>if j=i then Q .normal s1 else Q (.exit j) s1 | e=>Q e s1)):SC P m (.block i a) s Q:=by
 intro dZ dW w0 H0 ro μ w act Z hr hQ
 refine wp_block ?_
 refine h dZ dW w0 H0 ro μ w act _ hr fun e s' a' w' h1 h2=>?_
 cases e with
 | normal=>exact hQ .normal s' a' w' h1 h2
 | ret=>exact hQ .ret s' a' w' h1 h2
 | exit j=>
  simp only at h1
  simp only [Ex.exit',Exit.inBlock]
  split at h1
  ·rename_i e;rw [if_pos e];exact hQ .normal s' a' w' h1 h2
  ·rename_i e;rw [if_neg e];exact hQ (.exit j) s' a' w' h1 h2
theorem SC.loop {c:Code} {s:St} {Q:Ex→St→Prop} (h:SI P m c s Q):SC P m (.loop c) s Q:=fun dZ dW w0 H0 ro μ w a Z hr hQ=>Kt (h dZ dW w0 H0 ro μ w a Z hr hQ)
theorem SI.round {c:Code} {s s1:St} {Q:Ex→St→Prop} (hk:Wk m s s1) (h:SC P m c s1 (fun e s'=>match e with | .normal=>SI P m c s' Q | e=>Q e s')):SI P m c s Q:=by
 intro dZ dW w0 H0 ro μ w a Z hr hQ
 obtain ⟨qK,y9,hr1⟩:=hk dZ dW w0 H0 ro μ w a hr
 refine Kv (h dZ dW w0 H0 qK y9 w a _ hr1 fun e s' a' w' h1 h2=>?_)
 cases e with
 | normal=>
  obtain ⟨ro',μ',hr'⟩:=h2
  exact h1 dZ dW w0 H0 ro' μ' w' a' Z hr' hQ
 | ret=>exact hQ .ret s' a' w' h1 h2
 | exit i=>exact hQ (.exit i) s' a' w' h1 h2
theorem SC.WE {Y:Type} (S:Y→St) (J:Nat→Y→Prop) {c:Code} {s:St} {Q:Ex→St→Prop} (n:Nat) (y:Y) (h0:Wk m s (S y)) (h1:J n y)
  (k:∀n y,J n y→SC P m c (S y) (fun e s'=>match e with | .normal=>∃y' n',n' < n∧Wk m s' (S y')∧J n' y' | e=>Q e s')):SC P m (.loop c) s Q:=by
 refine SC.loop ?_
 have key:∀n y s,Wk m s (S y)→J n y→SI P m c s Q:=by
  intro n
  induction n using Nat.strongRecOn with
  | ind n ih=>
   intro y s hw hj
   refine SI.round hw ((k n y hj).mono fun e s' h2=>?_)
   cases e with
   | normal=>obtain ⟨y',n',h3,h4,h5⟩:=h2;exact ih n' h3 y' s' h4 h5
   | ret=>exact h2
   | exit i=>exact h2
 exact key n y s h0 h1
def Fin (P:Program) (fn:Func) (r:AV) (σ':List Ob) (e:Ex) (s:St):Prop:=(e=.normal∨e=.ret)∧∃rs,jK P s fn.results.toList=some rs∧F6 rs=r∧s.σ=σ'
theorem aT.of {f:FuncId} {args:List AV} {σ σ':List Ob} {r:AV} {fn:Func} {c:Code} (hfn:P.funcs[f]?=some fn) (hbody:fn.body=some c)
  (h:SC P σ.length c ⟨args++List.replicate (fn.ntmps - args.length) (.tuple []),σ⟩ (Fin P fn r σ')):aT P f args σ r σ':=by
 intro ro μ w fG g hdom ha
 let a0:Act:={ tmps:=fG++Array.replicate (fn.ntmps - fG.size) undef,defers:=[] }
 have hrel:Rel σ.length ro μ w (hp σ) ro μ w ⟨args++List.replicate (fn.ntmps - args.length) (.tuple []),σ⟩ a0:=by
  refine ⟨g,?_,hdom,rfl,(Ext.refl _ _ _ _).Ri,fun _ _=>rfl,Nat.le_refl _⟩
  have e:fn.ntmps - args.length=fn.ntmps - fG.size:=by rw [ha.size]
  refine jW ha ⟨by simp [e],fun i x v hx hv=>?_⟩
  rw [List.getElem?_replicate] at hx
  rw [Array.getElem?_replicate] at hv
  split at hx
  ·split at hv
   ·simp only [Option.some.injEq] at hx hv
    subst hx;subst hv
    exact .tuple [] #[] rfl (fun i x v hx=>by simp at hx)
   ·cases hv
  ·cases hx
 have fin:∀s',(∃rs,jK P s' fn.results.toList=some rs∧F6 rs=r∧s'.σ=σ')→∀a' w',Ends σ.length ro μ w (hp σ) s' a' w'→
   a'.defers=[]∧∃v,(results fn a'.tmps).run P w'=.ok v w'∧(∃u ro' μ',Ending.returned v=.returned u∧VR ro' μ' r u∧Good ro' μ' w' (hp σ')∧yx ro μ w (hp σ) ro' μ' w' (hp σ')∧(∀id L,μ' id=some L→id < σ'.length)∧(∀id,id < σ.length→μ' id=μ id)):=by
  rintro s' ⟨rs,h1,rfl,rfl⟩ a' w' ⟨ro',μ',hr⟩
  refine ⟨hr.defers,?_⟩
  obtain ⟨v,k1,k2⟩:=Bp hr.good hr.env h1
  exact ⟨v,k1,v,ro',μ',rfl,k2,hr.good,hr.ext,hr.dom,hr.keep⟩
 refine calls_of_wp hfn hbody ?_
 refine h ro μ w (hp σ) ro μ w a0 _ hrel fun e s' a' w' hq he=>?_
 obtain ⟨he1,hf⟩:=hq
 rcases he1 with rfl | rfl
 ·exact fin s' hf a' w' he
 ·exact fin s' hf a' w' he
end
end Lv
/- Temporaries as a list of what is known; operations one by one. -/
namespace Lv
open Go
variable [bJ]
abbrev En:=List (Nat×AV)
def lk:En→Nat→AV
 | [],_=>.undef
 | (j,v)::r,i=>bif Nat.beq j i then v else lk r i
def mk (n:Nat) (e:En):List AV:=(List.range n).map (lk e)
theorem iI (n:Nat) (e:En):(mk n e).length=n:=by simp [mk]
theorem uV {n:Nat} {e:En} {i:Nat} (h:i < n):(mk n e)[i]?=some (lk e i):=by simp [mk,h]
theorem CJ {n:Nat} {e:En} {i:Nat} {x:AV} (h:(mk n e)[i]?=some x):i < n∧lk e i=x:=by
 have hl:=cK h
 rw [iI] at hl
 rw [uV hl] at h
 exact ⟨hl,by simpa using h⟩
theorem qc (n:Nat) (e:En) (d:Nat) (v:AV):qY (mk n e) (some d) v=mk n ((d,v)::e):=by
 apply List.ext_getElem?
 intro i
 simp only [qY,List.getElem?_set,iI]
 by_cases hi:i < n
 ·rw [uV (e:=(d,v)::e) hi]
  simp only [lk]
  by_cases hd:d=i
  ·subst hd;simp [hi]
  ·have:Nat.beq d i=false:=by cases h:Nat.beq d i with
    | true=>exact absurd (Nat.eq_of_beq_eq_true h) hd
    | false=>rfl
   rw [if_neg hd,uV hi,this];rfl
 ·have h1:∀e,(mk n e)[i]?=none:=fun e=>by rw [List.getElem?_eq_none];rw [iI];omega
  rw [h1,h1]
  split
  ·rename_i hd;subst hd;rw [if_neg hi]
  ·rfl
def lo (n:Nat) (e:En):Operand→Option AV
 | .tmp t=>bif Nat.blt t n then some (lk e t) else none
 | .const v=>match nJ v with
  | some x=>some (.d x)
  | none=>none
 | .func f=>some (.fn (.func f) [] [])
 | .global _=>none
theorem UC {a b:Nat} (h:Nat.blt a b=true):a < b:=by rw [Nat.blt_eq] at h;exact h
theorem eG {n:Nat} {e:En} {x:Operand} {v:AV} (h:lo n e x=some v):oM (mk n e) x=some v:=by
 cases x with
 | tmp t=>
  simp only [lo] at h
  cases hb:Nat.blt t n with
  | false=>rw [hb] at h;cases h
  | true=>
   rw [hb] at h
   simp only [oM]
   rw [uV (UC hb)]
   exact h
 | const v'=>exact h
 | func f=>exact h
 | global g=>cases h
def los (n:Nat) (e:En):List Operand→Option (List AV)
 | []=>some []
 | x::r=>match lo n e x,los n e r with
  | some v,some vs=>some (v::vs)
  | _,_=>none
theorem kU {n:Nat} {e:En}:∀{l:List Operand} {vs:List AV},los n e l=some vs→AL (mk n e) l=some vs
 | [],vs,h=>h
 | x::r,vs,h=>by
  simp only [los] at h
  split at h
  ·rename_i v vs' h1 h2
   simp only [AL,eG h1,kU h2]
   exact h
  ·cases h
def UJ (n:Nat) (e:En):List (Nat×Operand)→Option (List (Nat×AV))
 | []=>some []
 | (i,x)::r=>match lo n e x,UJ n e r with
  | some v,some vs=>some ((i,v)::vs)
  | _,_=>none
theorem Ev {n:Nat} {e:En}:∀{l:List (Nat×Operand)} {vs:List (Nat×AV)},UJ n e l=some vs→partsOf (mk n e) l=some vs
 | [],vs,h=>h
 | (i,x)::r,vs,h=>by
  simp only [UJ] at h
  split at h
  ·rename_i v vs' h1 h2
   simp only [partsOf,eG h1,Ev h2]
   exact h
  ·cases h
section
variable {P:Program} {m:Nat} {ops:Array Oper} {o:Oper} {l:List Oper} {n:Nat} {e:En} {σ σ':List Ob} {v:AV}
def Wanted (ops:Array Oper) (n:Nat) (e:En) (o:Oper) (b:Bool):Prop:=wants ops (mk n e) o=some b
theorem Wanted.free (h:o.guard=none):Wanted ops n e o true:=by simp [Wanted,wants,h]
theorem Wanted.by {j t:Nat} {w b c:Bool} (h:o.guard=some (j,w)) (h1:(ops[j]?).bind (·.dst)=some t) (h2:lo n e (.tmp t)=some (.d (.bool b))) (h3:(b==w)=c):Wanted ops n e o c:=by
 have h2':=eG h2
 simp only [oM] at h2'
 simp only [Wanted,wants,h,h1,h2',h3]
theorem Wanted.out {j t:Nat} {w:Bool} (h:o.guard=some (j,w)) (h1:(ops[j]?).bind (·.dst)=some t) (h2:lo n e (.tmp t)=some (.tuple [])):Wanted ops n e o false:=by
 have h2':=eG h2
 simp only [oM] at h2'
 simp only [Wanted,wants,h,h1,h2']
theorem SO.nil {s:St} {Q:St→Prop} (h:Q s):SO P m ops [] s Q:=SO.done h
theorem SO.op {d:Nat} {Q:St→Prop} (hw:Wanted ops n e o true) (hd:o.dst=some d) (ha:∀call,kQ P call (mk n e) σ o=some (v,σ')) (k:SO P m ops l ⟨mk n ((d,v)::e),σ'⟩ Q):SO P m ops (o::l) ⟨mk n e,σ⟩ Q:=
 SO.one (mk:=marked (mk n e) σ σ' o) (v:=v) ⟨by rw [hd,qc],.inl ⟨fun _ _ _=>none,v,Og P,AW.refl v,hw,ha _,rfl,.inl rfl⟩⟩ k
theorem SO.opW {d:Nat} {v':AV} {Q:St→Prop} (hw:Wanted ops n e o true) (hd:o.dst=some d) (ha:∀call,kQ P call (mk n e) σ o=some (v,σ')) (hv:AW v v') (k:SO P m ops l ⟨mk n ((d,v')::e),σ'⟩ Q):SO P m ops (o::l) ⟨mk n e,σ⟩ Q:=
 SO.one (mk:=marked (mk n e) σ σ' o) (v:=v') ⟨by rw [hd,qc],.inl ⟨fun _ _ _=>none,v,Og P,hv,hw,ha _,rfl,.inl rfl⟩⟩ k
theorem SO.op0 {Q:St→Prop} (hw:Wanted ops n e o true) (hd:o.dst=none) (ha:∀call,kQ P call (mk n e) σ o=some (v,σ')) (k:SO P m ops l ⟨mk n e,σ'⟩ Q):SO P m ops (o::l) ⟨mk n e,σ⟩ Q:=
 SO.one (mk:=marked (mk n e) σ σ' o) (v:=v) ⟨by rw [hd];rfl,.inl ⟨fun _ _ _=>none,v,Og P,AW.refl v,hw,ha _,rfl,.inl rfl⟩⟩ k
theorem SO.skip {d:Nat} {Q:St→Prop} (hw:Wanted ops n e o false) (hd:o.dst=some d) (k:SO P m ops l ⟨mk n ((d,.tuple [])::e),σ⟩ Q):SO P m ops (o::l) ⟨mk n e,σ⟩ Q:=
 SO.one (v:=.tuple []) (s1:=⟨mk n ((d,.tuple [])::e),σ⟩) ⟨by rw [hd,qc],.inr ⟨hw,rfl,rfl,rfl⟩⟩ k
theorem SO.akx {Q:St→Prop} (hw:Wanted ops n e o false) (hd:o.dst=none) (k:SO P m ops l ⟨mk n e,σ⟩ Q):SO P m ops (o::l) ⟨mk n e,σ⟩ Q:=
 SO.one (v:=.tuple []) ⟨by rw [hd];rfl,.inr ⟨hw,rfl,rfl,rfl⟩⟩ k
theorem SO.split {d:Nat} {b:Bool} {Q:St→Prop} (ht:b=true→SO P m ops l ⟨mk n ((d,.d (.bool true))::e),σ⟩ Q) (hf:b=false→SO P m ops l ⟨mk n ((d,.d (.bool false))::e),σ⟩ Q):SO P m ops l ⟨mk n ((d,.d (.bool b))::e),σ⟩ Q:=by
 cases b with
 | true=>exact ht rfl
 | false=>exact hf rfl
theorem ST.nil {s:St} {acc:List (List Nat×Bool)} {Q:St→List (List Nat×Bool)→Prop} (h:Q s acc.reverse):ST P ops [] s acc Q:=⟨s,[],.nil s,by simpa using h⟩
theorem ST.op {d:Nat} {acc:List (List Nat×Bool)} {Q:St→List (List Nat×Bool)→Prop} {mk':List Nat×Bool} (hw:Wanted ops n e o true) (hd:o.dst=some d) (ha:∀call,kQ P call (mk n e) σ o=some (v,σ')) (hm:marked (mk n e) σ σ' o=mk')
  (k:ST P ops l ⟨mk n ((d,v)::e),σ'⟩ (mk'::acc) Q):ST P ops (o::l) ⟨mk n e,σ⟩ acc Q:=by
 obtain ⟨s',t,h1,h2⟩:=k
 refine ⟨s',_,.cons (mk:=marked (mk n e) σ σ' o) (v:=v) ⟨by rw [hd,qc],.inl ⟨fun _ _ _=>none,v,Og P,AW.refl v,hw,ha _,rfl,.inl rfl⟩⟩ h1,?_⟩
 simp only [hm]
 simpa using h2
theorem ST.opW {d:Nat} {v':AV} {acc:List (List Nat×Bool)} {Q:St→List (List Nat×Bool)→Prop} {mk':List Nat×Bool} (hw:Wanted ops n e o true) (hd:o.dst=some d) (ha:∀call,kQ P call (mk n e) σ o=some (v,σ')) (hv:AW v v') (hm:marked (mk n e) σ σ' o=mk')
  (k:ST P ops l ⟨mk n ((d,v')::e),σ'⟩ (mk'::acc) Q):ST P ops (o::l) ⟨mk n e,σ⟩ acc Q:=by
 obtain ⟨s',t,h1,h2⟩:=k
 refine ⟨s',_,.cons (mk:=marked (mk n e) σ σ' o) (v:=v') ⟨by rw [hd,qc],.inl ⟨fun _ _ _=>none,v,Og P,hv,hw,ha _,rfl,.inl rfl⟩⟩ h1,?_⟩
 simp only [hm]
 simpa using h2
theorem ST.op0 {acc:List (List Nat×Bool)} {Q:St→List (List Nat×Bool)→Prop} {mk':List Nat×Bool} (hw:Wanted ops n e o true) (hd:o.dst=none) (ha:∀call,kQ P call (mk n e) σ o=some (v,σ')) (hm:marked (mk n e) σ σ' o=mk')
  (k:ST P ops l ⟨mk n e,σ'⟩ (mk'::acc) Q):ST P ops (o::l) ⟨mk n e,σ⟩ acc Q:=by
 obtain ⟨s',t,h1,h2⟩:=k
 refine ⟨s',_,.cons (mk:=marked (mk n e) σ σ' o) (v:=v) ⟨by rw [hd];rfl,.inl ⟨fun _ _ _=>none,v,Og P,AW.refl v,hw,ha _,rfl,.inl rfl⟩⟩ h1,?_⟩
 simp only [hm]
 simpa using h2
theorem ST.skip {d:Nat} {acc:List (List Nat×Bool)} {Q:St→List (List Nat×Bool)→Prop} (hw:Wanted ops n e o false) (hd:o.dst=some d) (k:ST P ops l ⟨mk n ((d,.tuple [])::e),σ⟩ (([],false)::acc) Q):ST P ops (o::l) ⟨mk n e,σ⟩ acc Q:=by
 obtain ⟨s',t,h1,h2⟩:=k
 refine ⟨s',_,.cons (v:=.tuple []) (s1:=⟨mk n ((d,.tuple [])::e),σ⟩) ⟨by rw [hd,qc],.inr ⟨hw,rfl,rfl,rfl⟩⟩ h1,by simpa using h2⟩
theorem ST.split {d:Nat} {b:Bool} {acc:List (List Nat×Bool)} {Q:St→List (List Nat×Bool)→Prop} (ht:b=true→ST P ops l ⟨mk n ((d,.d (.bool true))::e),σ⟩ acc Q) (hf:b=false→ST P ops l ⟨mk n ((d,.d (.bool false))::e),σ⟩ acc Q):ST P ops l ⟨mk n ((d,.d (.bool b))::e),σ⟩ acc Q:=by
 cases b with
 | true=>exact ht rfl
 | false=>exact hf rfl
theorem SO.call {d:Nat} {Q:St→Prop} {c:Call} {fo:Operand} {g:FuncId} {args first caps args':List AV} {ι:List Nat} {lF σ2 os:List Ob} {r r':AV} (hw:Wanted ops n e o true) (hd:o.dst=some d) (ho:o.op=.call c) (hargs:los n e c.args.toList=some args) (iP:c.callee=.value fo)
  (hfo:lo n e fo=some (.fn (.func g) first caps)) (hcb:callable P g=true) (hcan:canon σ (kN (first++args++caps))=some (ι,lF)) (hre:AY (fD ι) (first++args++caps)=some args')
  (hc:aT P g args' lF r' σ2) (hr:r'.re (jv ι σ.length σ2.length)=some r) (hos:mK (jv ι σ.length σ2.length) σ2=some os) (hle:ι.length≤os.length) (hσ:jO σ ι (os.take ι.length)++os.drop ι.length=σ')
  (k:SO P m ops l ⟨mk n ((d,r)::e),σ'⟩ Q):SO P m ops (o::l) ⟨mk n e,σ⟩ Q:=by
 refine SO.one (mk:=marked (mk n e) σ σ' o) (v:=r) (s1:=⟨mk n ((d,r)::e),σ'⟩) ⟨by rw [hd,qc],.inl ⟨single g args' lF r' σ2,r,vM hc,AW.refl r,hw,?_,rfl,.inl rfl⟩⟩ k
 have hs:single g args' lF r' σ2 g args' lF=some (r',σ2):=by unfold single;rw [if_pos ⟨rfl,rfl,rfl⟩]
 simp only [kQ,ho,kU hargs,iP,pJ,eG hfo,hcb,if_true,oh,hcan,hre,hs,hr,hos,hle,hσ]
theorem ST.call {d:Nat} {acc:List (List Nat×Bool)} {Q:St→List (List Nat×Bool)→Prop} {mk':List Nat×Bool} {c:Call} {fo:Operand} {g:FuncId} {args first caps args':List AV} {ι:List Nat} {lF σ2 os:List Ob} {r r':AV} (hw:Wanted ops n e o true) (hd:o.dst=some d) (ho:o.op=.call c) (hargs:los n e c.args.toList=some args) (iP:c.callee=.value fo)
  (hfo:lo n e fo=some (.fn (.func g) first caps)) (hcb:callable P g=true) (hcan:canon σ (kN (first++args++caps))=some (ι,lF)) (hre:AY (fD ι) (first++args++caps)=some args')
  (hc:aT P g args' lF r' σ2) (hr:r'.re (jv ι σ.length σ2.length)=some r) (hos:mK (jv ι σ.length σ2.length) σ2=some os) (hle:ι.length≤os.length) (hσ:jO σ ι (os.take ι.length)++os.drop ι.length=σ') (hm:marked (mk n e) σ σ' o=mk')
  (k:ST P ops l ⟨mk n ((d,r)::e),σ'⟩ (mk'::acc) Q):ST P ops (o::l) ⟨mk n e,σ⟩ acc Q:=by
 obtain ⟨s',t,h1,h2⟩:=k
 refine ⟨s',_,.cons (mk:=marked (mk n e) σ σ' o) (v:=r) (s1:=⟨mk n ((d,r)::e),σ'⟩) ⟨by rw [hd,qc],.inl ⟨single g args' lF r' σ2,r,vM hc,AW.refl r,hw,?_,rfl,.inl rfl⟩⟩ h1,?_⟩
 ·have hs:single g args' lF r' σ2 g args' lF=some (r',σ2):=by unfold single;rw [if_pos ⟨rfl,rfl,rfl⟩]
  simp only [kQ,ho,kU hargs,iP,pJ,eG hfo,hcb,if_true,oh,hcan,hre,hs,hr,hos,hle,hσ]
 ·simp only [hm]
  simpa using h2
theorem ST.agP {d:Nat} {acc:List (List Nat×Bool)} {Q:St→List (List Nat×Bool)→Prop} {is:List Nat} {c:Call} {fo:Operand} {g:FuncId} {args first caps args':List AV} {ι:List Nat} {lF σ2 os:List Ob} {r r':AV} (hw:Wanted ops n e o true) (hd:o.dst=some d) (ho:o.op=.call c) (hargs:los n e c.args.toList=some args) (iP:c.callee=.value fo)
  (hfo:lo n e fo=some (.fn (.func g) first caps)) (hcb:callable P g=true) (hcan:canon σ (kN (first++args++caps))=some (ι,lF)) (hre:AY (fD ι) (first++args++caps)=some args')
  (hc:aT P g args' lF r' σ2) (hr:r'.re (jv ι σ.length σ2.length)=some r) (hos:mK (jv ι σ.length σ2.length) σ2=some os) (hle:ι.length≤os.length) (hσ:jO σ ι (os.take ι.length)++os.drop ι.length=σ) (hm:(marked (mk n e) σ σ o).1=is)
  (k:ST P ops l ⟨mk n ((d,r)::e),σ⟩ ((is,false)::acc) Q):ST P ops (o::l) ⟨mk n e,σ⟩ acc Q:=by
 obtain ⟨s',t,h1,h2⟩:=k
 refine ⟨s',_,.cons (mk:=(is,false)) (v:=r) (s1:=⟨mk n ((d,r)::e),σ⟩) ⟨by rw [hd,qc],.inl ⟨single g args' lF r' σ2,r,vM hc,AW.refl r,hw,?_,hm.symm,.inr rfl⟩⟩ h1,?_⟩
 ·have hs:single g args' lF r' σ2 g args' lF=some (r',σ2):=by unfold single;rw [if_pos ⟨rfl,rfl,rfl⟩]
  simp only [kQ,ho,kU hargs,iP,pJ,eG hfo,hcb,if_true,oh,hcan,hre,hs,hr,hos,hle,hσ]
 ·simpa using h2
theorem Oy (σ:List Ob):canon σ []=some ([],[]):=by simp [canon,reach,sub]
theorem SO.acj {d:Nat} {Q:St→Prop} {c:Call} {fo:Operand} {g:FuncId} {args:List AV} {r:AV} (hw:Wanted ops n e o true) (hd:o.dst=some d) (ho:o.op=.call c) (hargs:los n e c.args.toList=some args) (iP:c.callee=.value fo)
  (hfo:lo n e fo=some (.fn (.func g) [] [])) (hcb:callable P g=true) (hi:kN args=[]) (hre:∀h,AY h args=some args) (hr:∀h,r.re h=some r)
  (hc:aT P g args [] r []) (k:SO P m ops l ⟨mk n ((d,r)::e),σ⟩ Q):SO P m ops (o::l) ⟨mk n e,σ⟩ Q:=
 SO.call (first:=[]) (caps:=[]) (ι:=[]) (lF:=[]) (σ2:=[]) (os:=[]) hw hd ho hargs iP hfo hcb (by simp [hi,Oy]) (by simpa using hre _) hc (hr _) rfl (by simp) (by simp [jO]) k
theorem ST.acj {d:Nat} {acc:List (List Nat×Bool)} {Q:St→List (List Nat×Bool)→Prop} {c:Call} {fo:Operand} {g:FuncId} {args:List AV} {r:AV} (hw:Wanted ops n e o true) (hd:o.dst=some d) (ho:o.op=.call c) (hargs:los n e c.args.toList=some args) (iP:c.callee=.value fo)
  (hfo:lo n e fo=some (.fn (.func g) [] [])) (hcb:callable P g=true) (hi:kN args=[]) (hre:∀h,AY h args=some args) (hr:∀h,r.re h=some r)
  (hc:aT P g args [] r []) (k:ST P ops l ⟨mk n ((d,r)::e),σ⟩ (([],true)::acc) Q):ST P ops (o::l) ⟨mk n e,σ⟩ acc Q:=by
 refine ST.call (first:=[]) (caps:=[]) (ι:=[]) (lF:=[]) (σ2:=[]) (os:=[]) hw hd ho hargs iP hfo hcb (by simp [hi,Oy]) (by simpa using hre _) hc (hr _) rfl (by simp) (by simp [jO]) ?_ k
 have ht:touches (mk n e) σ o=([],true):=by
  simp only [touches,ho,iP,kU hargs,eG hfo,List.nil_append,List.append_nil,hi]
  rfl
 simp [marked,ht]
theorem AW.of_eq {x y:AV} (h:x=y):AW x y:=h▸AW.refl x
theorem AW.undef (x:AV):AW x .undef:=fun _ _ v _=>.undef v
theorem AW.nl (sz:Nat):AW (.d .dB) (.d (.y8 sz [])):=by
 intro ro μ v h
 obtain rfl:=gP h rfl
 exact .d _ _ (.nl sz)
theorem AW.mH (id sz off:Nat):AW (.d .dB) (.slc id sz off 0 none):=by
 intro ro μ v h
 obtain rfl:=gP h rfl
 exact .mH id sz off
theorem AW.cap (id sz off len:Nat) (c:Option Nat):AW (.slc id sz off len c) (.slc id sz off len none):=by
 intro ro μ v h
 rcases o7 h with ⟨L,c',a,rfl,h1,h2,h3,h4,h5⟩ | ⟨rfl,rfl,rfl⟩
 ·exact .slc id sz off len none L c' a h1 h2 h3 (by simp) h5
 ·exact .mH id sz off
def jX:List AV→List AV→Prop
 | [],[]=>True
 | x::xs,y::ys=>AW x y∧jX xs ys
 | _,_=>False
theorem jX.get:∀{xs ys:List AV},jX xs ys→xs.length=ys.length∧∀(i:Nat) (y:AV),ys[i]?=some y→∃x,xs[i]?=some x∧AW x y
 | [],[],_=>⟨rfl,fun i y h=>by simp at h⟩
 | x::xs,y::ys,⟨h1,h2⟩=>by
  obtain ⟨k1,k2⟩:=jX.get h2
  refine ⟨by simp [k1],fun i z hz=>?_⟩
  cases i with
  | zero=>simp at hz;subst hz;exact ⟨x,rfl,h1⟩
  | succ i=>simpa using k2 i z (by simpa using hz)
 | [],_::_,h=>h.elim
 | _::_,[],h=>h.elim
theorem jX.vrs {xs ys:List AV} (h:jX xs ys) {ro:Ro} {μ:Mu} {vs:Array Value} (k:oo ro μ xs vs):oo ro μ ys vs:=by
 obtain ⟨h1,h2⟩:=h.get
 refine ⟨by rw [k.size,h1],fun i y v hy hv=>?_⟩
 obtain ⟨x,hx,hw⟩:=h2 i y hy
 exact hw ro μ v (k.get i x v hx hv)
theorem CW {ro:Ro} {μ:Mu} {x:AV} {v:Value} (h:VR ro μ x v) (hx:x.isAgg=true):∃C,v=.agg C∧oo ro μ x.cells C:=by
 cases x with
 | agg cs=>cases h with | agg _ vs hs h=>exact ⟨vs,rfl,⟨hs,h⟩⟩
 | d y=>
  cases y with
  | agg cs=>
   cases h with
   | d _ _ h=>cases h with
    | agg _ vs hs h=>
     refine ⟨vs,rfl,⟨by simpa [AV.cells] using hs,fun i y u hy hu=>?_⟩⟩
     simp only [AV.cells,List.getElem?_map,Option.map_eq_some_iff] at hy
     obtain ⟨z,hz,rfl⟩:=hy
     exact .d z u (h i z u hz hu)
  | _=>simp [AV.isAgg] at hx
 | _=>simp [AV.isAgg] at hx
theorem AW.agg {x:AV} {ys:List AV} (hx:x.isAgg=true) (h:jX x.cells ys):AW x (.agg ys):=by
 intro ro μ v hv
 obtain ⟨C,rfl,hC⟩:=CW hv hx
 have:=h.vrs hC
 exact .agg ys C this.size this.get
theorem AW.acL {x:AV} {ys:List D} (hx:x.isAgg=true) (h:jX x.cells (ys.map AV.d)):AW x (.d (.agg ys)):=by
 intro ro μ v hv
 obtain ⟨C,rfl,hC⟩:=CW hv hx
 have:=h.vrs hC
 refine .d _ _ (.agg ys C (by simpa using this.size) fun i y v hy hv=>?_)
 exact TK (this.get i (.d y) v (by simp [hy]) hv)
theorem AW.tuple {xs ys:List AV} (h:jX xs ys):AW (.tuple xs) (.tuple ys):=by
 intro ro μ v hv
 obtain ⟨vs,rfl,hV⟩:=Ms hv
 have:=h.vrs hV
 exact .tuple ys vs this.size this.get
theorem AW.fn {f:Fn} {xs xs' ys ys':List AV} (h:jX xs xs') (k:jX ys ys'):AW (.fn f xs ys) (.fn f xs' ys'):=by
 intro ro μ v hv
 obtain ⟨vs,us,rfl,h1,h2⟩:=OJ hv
 have a:=h.vrs h1
 have b:=k.vrs h2
 exact .fn f xs' ys' vs us a.size b.size a.get b.get
def EW (e:En):En→Prop
 | []=>True
 | (i,y)::r=>AW (lk e i) y∧EW e r
theorem EW.get {e:En}:∀{e':En},EW e e'→∀i,AW (lk e i) (lk e' i)
 | [],_,i=>AW.undef _
 | (j,y)::r,⟨h1,h2⟩,i=>by
  simp only [lk]
  cases hb:Nat.beq j i with
  | true=>have:=Nat.eq_of_beq_eq_true hb;subst this;exact h1
  | false=>exact EW.get h2 i
theorem Wk.env {e':En} (h:EW e e'):Wk m ⟨mk n e,σ⟩ ⟨mk n e',σ⟩:=by
 intro dZ dW w0 H0 ro μ w a hr
 refine ⟨ro,μ,hr.good,⟨by rw [hr.env.size,iI,iI],fun i y v hy hv=>?_⟩,hr.dom,hr.defers,hr.ext,hr.keep,hr.hm⟩
 obtain ⟨hi,rfl⟩:=CJ hy
 exact h.get i ro μ v (hr.env.get i _ v (uV hi) hv)
theorem Wk.env' {e':En} {σ1:List Ob} {s1:St} (h:EW e e') (k:Wk m ⟨mk n e',σ⟩ s1):Wk m ⟨mk n e,σ⟩ s1:=(Wk.env h).trans k
def enum:Nat→List AV→En
 | _,[]=>[]
 | i,x::r=>(i,x)::enum (i+1) r
theorem WH:∀(l:List AV) (k i:Nat),lk (enum k l) i=if k≤i∧i < k+l.length then (l[i - k]?).getD .undef else .undef
 | [],k,i=>by simp [enum,lk]
 | x::r,k,i=>by
  simp only [enum,lk]
  cases hb:Nat.beq k i with
  | true=>have:=Nat.eq_of_beq_eq_true hb;subst this;simp
  | false=>
   have hne:k≠i:=fun h=>by subst h;simp at hb
   rw [cond_false,WH r (k+1) i]
   by_cases hi:k+1≤i∧i < k+1+r.length
   ·rw [if_pos hi,if_pos (by simp;omega)]
    have:i - k=(i - (k+1))+1:=by omega
    rw [this,List.getElem?_cons_succ]
   ·rw [if_neg hi,if_neg (by simp;omega)]
theorem Wk.begin {args:List AV} {n:Nat} (hn:args.length≤n):Wk m ⟨args++List.replicate (n - args.length) (.tuple []),σ⟩ ⟨mk n (enum 0 args),σ⟩:=by
 intro dZ dW w0 H0 ro μ w a hr
 refine ⟨ro,μ,hr.good,⟨by rw [hr.env.size,iI];simp;omega,fun i y v hy hv=>?_⟩,hr.dom,hr.defers,hr.ext,hr.keep,hr.hm⟩
 obtain ⟨hi,rfl⟩:=CJ hy
 rw [WH]
 split
 ·rename_i h
  have hl:i < args.length:=by omega
  rw [Nat.sub_zero,List.getElem?_eq_getElem hl]
  exact hr.env.get i _ v (by rw [List.getElem?_append_left hl,List.getElem?_eq_getElem hl];rfl) hv
 ·exact .undef v
theorem Wk.push {env:List AV} (o:Ob) (ho:∀es,o≠.map es):Wk m ⟨env,σ⟩ ⟨env,σ++[o]⟩:=by
 intro dZ dW w0 H0 ro μ w a hr
 have hn:μ σ.length=none:=by
  cases hm:μ σ.length with
  | none=>rfl
  | some L=>have:=hr.dom _ L hm;simp at this
 obtain ⟨g1,x1⟩:=hr.good.phantom hn ho
 rw [← rF] at g1 x1
 exact ⟨ro,μ,g1,hr.env,fun id L h=>by have:=hr.dom id L h;simp at this ⊢;omega,hr.defers,hr.ext.trans x1.Ri,hr.keep,by have:=hr.hm;simp at this ⊢;omega⟩
theorem Wk.box {env:List AV} {id:Nat} {x y:AV} (h:σ[id]?=some (.box x)) (hw:jX x.cells y.cells):Wk m ⟨env,σ⟩ ⟨env,σ.set id (.box y)⟩:=by
 intro dZ dW w0 H0 ro μ w a hr
 have hlt:=cK h
 have heq:hp (σ.set id (.box y))=upd (hp σ) id (.box y):=oW hlt
 have hwr:∀i,(upd (hp σ) id (.box y) i).wr=(hp σ i).wr:=by
  intro i;unfold upd;split
  ·rename_i q;subst q;rw [dR h];rfl
  ·rfl
 have hlv:∀i,(upd (hp σ) id (.box y) i).live=(hp σ i).live:=by
  intro i;unfold upd;split
  ·rename_i q;subst q;rw [dR h];rfl
  ·rfl
 have hWB:∀b,WB (upd (hp σ) id (.box y)) μ b↔WB (hp σ) μ b:=by
  intro b;constructor
  ·rintro ⟨i,L,h1,h2,h3⟩;exact ⟨i,L,by rw [← hwr];exact h1,h2,h3⟩
  ·rintro ⟨i,L,h1,h2,h3⟩;exact ⟨i,L,by rw [hwr];exact h1,h2,h3⟩
 have hLB:∀b,LB (upd (hp σ) id (.box y)) μ b↔LB (hp σ) μ b:=by
  intro b;constructor
  ·rintro ⟨i,L,h1,h2,h3⟩;exact ⟨i,L,by rw [← hlv];exact h1,h2,h3⟩
  ·rintro ⟨i,L,h1,h2,h3⟩;exact ⟨i,L,by rw [hlv];exact h1,h2,h3⟩
 have g:=hr.good
 refine ⟨ro,μ,?_,hr.env,fun i L hL=>by have:=hr.dom i L hL;simpa using this,hr.defers,?_,hr.keep,by have:=hr.hm;simpa using this⟩
 ·simp only [heq]
  refine ⟨g.qJ,fun i=>?_,fun i i' L L' h1 h2 h3 h4 h5=>g.apart i i' L L' (by rw [← hwr];exact h1) (by rw [← hlv];exact h2) h3 h4 h5,fun b hb=>g.gu b ((hWB b).1 hb),g.base⟩
  unfold upd
  split
  ·rename_i q;subst q
   intro L hL
   have:=g.ob i
   rw [dR h] at this
   obtain ⟨C,T,fz,h0,h1,h2,h3⟩:=this L hL
   exact ⟨C,T,fz,h0,h1,h2,hw.vrs h3⟩
  ·exact g.ob i
 ·simp only [heq]
  have x:=hr.ext
  exact ⟨x.jC,x.kr,fun b hb=>x.jE b ((hWB b).1 hb),fun b hb=>x.lJ b ((hLB b).1 hb),x.frame,x.size,x.os,x.tape,x.output⟩
theorem Wk.og {x:AV} {i:Nat} {y:D} {σ1:List Ob} (hi:Nat.blt i n=true) (hx:lk e i=x) (h:Lv.og σ x=some (y,σ1)):Wk m ⟨mk n e,σ⟩ ⟨mk n ((i,.d y)::e),σ1⟩:=by
 intro dZ dW w0 H0 ro μ w a hr
 have hin:=UC hi
 have hsz:i < a.tmps.size:=by rw [hr.env.size,iI];exact hin
 have hv:=hr.env.get i x _ (by rw [uV hin,hx]) (Array.getElem?_eq_getElem hsz)
 obtain ⟨ro',g',x',hd,_,hl⟩:=sQ hr.good hv h
 refine ⟨ro',μ,g',?_,fun id L hL=>(by have h9:id < σ.length:=hr.dom id L hL;rw [hl];exact h9),hr.defers,hr.ext.trans x'.Ri,hr.keep,(by have h9:m≤σ.length:=hr.hm;rw [hl];exact h9)⟩
 have he:=hr.env.mono x'.jC x'.Ll
 have:=xL he (VR.d _ _ hd) (some i)
 simp only [Act.put] at this
 rw [qc] at this
 have hset:a.tmps.setIfInBounds i a.tmps[i]=a.tmps:=by
  apply Array.ext
  ·simp
  ·intro j h1 h2
   rw [Array.getElem_setIfInBounds]
   split
   ·rename_i q;subst q;rfl
   ·rfl
 rw [hset] at this
 exact this
theorem Wk.lD {x:AV} {i:Nat} {ys:List D} {σ1:List Ob} (hi:Nat.blt i n=true) (hx:lk e i=x) (ha:x.isAgg=true) (h:Lv.lD σ x.cells=some (ys,σ1)):Wk m ⟨mk n e,σ⟩ ⟨mk n ((i,.d (.agg ys))::e),σ1⟩:=by
 intro dZ dW w0 H0 ro μ w a hr
 have hin:=UC hi
 have hsz:i < a.tmps.size:=by rw [hr.env.size,iI];exact hin
 have hv:=hr.env.get i x _ (by rw [uV hin,hx]) (Array.getElem?_eq_getElem hsz)
 obtain ⟨C,hC,hvs⟩:=CW hv ha
 obtain ⟨ro',g',x',hlen,hd,_,hl⟩:=nZ x.cells (vs:=C.toList) hr.good (by simpa using hvs.size) (fun j z u hz hu=>hvs.get j z u hz (by simpa using hu)) h
 refine ⟨ro',μ,g',?_,fun id L hL=>(by have h9:id < σ.length:=hr.dom id L hL;rw [hl];exact h9),hr.defers,hr.ext.trans x'.Ri,hr.keep,(by have h9:m≤σ.length:=hr.hm;rw [hl];exact h9)⟩
 have he:=hr.env.mono x'.jC x'.Ll
 have hagg:VR ro' μ (.d (.agg ys)) (.agg C):=.d _ _ (.agg ys C (by rw [hvs.size,hlen]) (fun j z u hz hu=>hd j z u hz (by simpa using hu)))
 have:=xL he hagg (some i)
 simp only [Act.put] at this
 rw [qc] at this
 have hset:a.tmps.setIfInBounds i (.agg C)=a.tmps:=by
  apply Array.ext
  ·simp
  ·intro j h1 h2
   rw [Array.getElem_setIfInBounds]
   split
   ·rename_i q;subst q;exact hC.symm
   ·rfl
 rw [hset] at this
 exact this
def eRe (g:Nat→Option Nat):En→Option En
 | []=>some []
 | (i,x)::r=>match x.re g,eRe g r with
  | some y,some ys=>some ((i,y)::ys)
  | _,_=>none
theorem Qq {g:Nat→Option Nat}:∀{e e':En},eRe g e=some e'→∀i,(lk e i).re g=some (lk e' i)
 | [],e',h,i=>by
  simp only [eRe,Option.some.injEq] at h
  subst h;rfl
 | (j,x)::r,e',h,i=>by
  simp only [eRe] at h
  split at h
  ·rename_i y ys h1 h2
   simp only [Option.some.injEq] at h
   subst h
   simp only [lk]
   cases Nat.beq j i with
   | true=>exact h1
   | false=>exact Qq h2 i
  ·cases h
theorem Wk.canon {ι roots:List Nat} {os:List Ob} {e':En} (hcan:Lv.canon σ roots=some (ι,os)) (ht:ι.take m=List.range m) (he:eRe (fD ι) e=some e'):Wk m ⟨mk n e,σ⟩ ⟨mk n e',os⟩:=by
 intro dZ dW w0 H0 ro μ w a hr
 refine ⟨ro,Ep μ ι,hr.canon hcan ht ⟨by rw [hr.env.size,iI,iI],fun i y v hy hv=>?_⟩⟩
 obtain ⟨hi,rfl⟩:=CJ hy
 exact OI uG (hr.env.get i _ v (uV hi) hv) _ (Qq he i)
theorem Wk.kill {env:List AV} (id:Nat):Wk m ⟨env,σ⟩ ⟨env,σ.set id .dead⟩:=by
 intro dZ dW w0 H0 ro μ w a hr
 by_cases hid:id < σ.length
 ·obtain ⟨g,x⟩:=hr.good.kill id
  rw [← oW hid] at g x
  exact ⟨ro,μ,g,hr.env,fun i L h=>by have:=hr.dom i L h;simpa using this,hr.defers,hr.ext.trans x.Ri,hr.keep,by have:=hr.hm;simpa using this⟩
 ·rw [List.set_eq_of_length_le (by omega)]
  exact ⟨ro,μ,hr⟩
end
end Lv
/- Operations, one by one. -/
namespace Lv
open Go
variable [bJ]
def AV.P7:AV→Bool
 | .undef=>true
 | _=>false
theorem aaN {n:Nat} {e:En} {x:Option Operand} {v:Option AV} (h:(match x with | none=>some none | some y=>match lo n e y with | some v=>some (some v) | none=>none)=some v):yK (mk n e) x=some v:=by
 cases x with
 | none=>exact h
 | some y=>
  simp only at h
  split at h
  ·rename_i v' hv;simp only [yK,eG hv];exact h
  ·cases h
def loo (n:Nat) (e:En):Option Operand→Option (Option AV)
 | none=>some none
 | some y=>match lo n e y with
  | some v=>some (some v)
  | none=>none
theorem PY {n:Nat} {e:En} {x:Option Operand} {v:Option AV} (h:loo n e x=some v):yK (mk n e) x=some v:=aaN (by cases x <;> exact h)
section
variable {P:Program} {o:Oper} {n:Nat} {e:En} {σ σ':List Ob} {v a b c:AV} {t:TypeId} {x y:Operand}
theorem ajp (ho:o.op=.move x) (hx:lo n e x=some v):∀call,kQ P call (mk n e) σ o=some (v,σ):=by
 intro call;simp only [kQ,ho,eG hx]
theorem acZ (ho:o.op=.assign x) (hx:lo n e x=some v):∀call,kQ P call (mk n e) σ o=some (v,σ):=by
 intro call;simp only [kQ,ho,eG hx]
theorem aeR {z:Operand} (ho:o.op=.pick z x y) (hz:lo n e z=some (.d (.bool true))) (hx:lo n e x=some v):∀call,kQ P call (mk n e) σ o=some (v,σ):=by
 intro call;simp only [kQ,ho,eG hz,if_true,eG hx]
theorem aeS {z:Operand} (ho:o.op=.pick z x y) (hz:lo n e z=some (.d (.bool false))) (hy:lo n e y=some v):∀call,kQ P call (mk n e) σ o=some (v,σ):=by
 intro call;simp only [kQ,ho,eG hz,Bool.false_eq_true,if_false,eG hy]
theorem aeV {k:Nat} {z:D} (ho:o.op=.alloc t) (hz:zeroOf P t=some z) (hk:σ.length=k) (hσ:σ++[.box (.d z)]=σ'):∀call,kQ P call (mk n e) σ o=some (.ref k 0 0,σ'):=by
 intro call;simp only [kQ,ho,hz,hk,hσ]
theorem aoZ {k:Nat} (ho:o.op=.box t x) (hx:lo n e x=some v) (hv:v.P7=false) (hk:σ.length=k) (hσ:σ++[.box v]=σ'):∀call,kQ P call (mk n e) σ o=some (.ref k 0 0,σ'):=by
 intro call
 simp only [kQ,ho,eG hx]
 cases v <;> first | (simp [AV.P7] at hv;done) | simp [hk,hσ]
theorem aeU {ps:Array (Nat×Operand)} {parts:List (Nat×AV)} (ho:o.op=.build t ps) (hp:UJ n e ps.toList=some parts) (hb:iD P t parts=some v):∀call,kQ P call (mk n e) σ o=some (v,σ):=by
 intro call;simp only [kQ,ho,Ev hp,hb]
theorem QN {len:Nat} {ps:Array (Nat×Operand)} {parts:List (Nat×AV)} (ho:o.op=.buildSlice t len ps) (hp:UJ n e ps.toList=some parts) (hb:kH P σ t len parts=some (v,σ')):∀call,kQ P call (mk n e) σ o=some (v,σ'):=by
 intro call;simp only [kQ,ho,Ev hp,hb]
theorem ajq (ho:o.op=.load t x) (hx:lo n e x=some a) (hl:mQ P σ t a=some v):∀call,kQ P call (mk n e) σ o=some (v,σ):=by
 intro call;simp only [kQ,ho,eG hx,hl]
theorem aeP (ho:o.op=.store t x y) (hx:lo n e x=some a) (hy:lo n e y=some b) (hs:mg P σ t a b=some σ'):∀call,kQ P call (mk n e) σ o=some (.tuple [],σ'):=by
 intro call;simp only [kQ,ho,eG hx,eG hy,hs]
theorem acX {id idx off:Nat} (ho:o.op=.nilCheck x) (hx:lo n e x=some (.ref id idx off)):∀call,kQ P call (mk n e) σ o=some (.ref id idx off,σ):=by
 intro call;simp only [kQ,ho,eG hx]
theorem acW {cs:List D} (ho:o.op=.nilCheck x) (hx:lo n e x=some (.rop cs)):∀call,kQ P call (mk n e) σ o=some (.rop cs,σ):=by
 intro call;simp only [kQ,ho,eG hx]
theorem ao0 {op:BinOp} {t':TypeId} (ho:o.op=.binOp op t x y t') (hx:lo n e x=some a) (hy:lo n e y=some b) (hb:∀X Y,cO P op t X Y a b=some v):∀call,kQ P call (mk n e) σ o=some (v,σ):=by
 intro call;simp only [kQ,ho,eG hx,eG hy,hb]
theorem aoW {op:UnOp} {w:Value} (ho:o.op=.unOp op t x) (hx:lo n e x=some a) (hw:a.val=some w) (hb:vK P (Op.unary op w)=some v):∀call,kQ P call (mk n e) σ o=some (v,σ):=by
 intro call;simp only [kQ,ho,eG hx,hw,hb]
theorem acY {t':TypeId} (ho:o.op=.convert t t' x) (hx:lo n e x=some a) (hb:gy P σ t t' a=some (v,σ')):∀call,kQ P call (mk n e) σ o=some (v,σ'):=by
 intro call;simp only [kQ,ho,eG hx,hb]
theorem Ji {f:Nat} (ho:o.op=.fieldAddr t x f) (hx:lo n e x=some a) (hb:om P t f a=some v):∀call,kQ P call (mk n e) σ o=some (v,σ):=by
 intro call;simp only [kQ,ho,eG hx,hb]
theorem xM (ho:o.op=.indexAddr t x y) (hx:lo n e x=some a) (hy:lo n e y=some b) (hb:mq P t a b=some v):∀call,kQ P call (mk n e) σ o=some (v,σ):=by
 intro call;simp only [kQ,ho,eG hx,eG hy,hb]
theorem aeT {u w:Value} (ho:o.op=.index t x y) (hx:lo n e x=some a) (hy:lo n e y=some b) (hu:a.val=some u) (hw:b.val=some w) (hb:vK P (Instr.index t u w)=some v):∀call,kQ P call (mk n e) σ o=some (v,σ):=by
 intro call;simp only [kQ,ho,eG hx,eG hy,hu,hw,hb]
theorem aeQ {lo' hi' mx':Option Operand} {l h k:Option AV} (ho:o.op=.slice t x lo' hi' mx') (hx:lo n e x=some a) (hl:loo n e lo'=some l) (hh:loo n e hi'=some h) (hm:loo n e mx'=some k) (hb:aslice P t a l h k=some v):∀call,kQ P call (mk n e) σ o=some (v,σ):=by
 intro call;simp only [kQ,ho,eG hx,PY hl,PY hh,PY hm,hb]
theorem Vt {f:Fn} {first caps:Array Operand} {xs ys:List AV} (ho:o.op=.makeFunc f first caps) (hx:los n e first.toList=some xs) (hy:los n e caps.toList=some ys):∀call,kQ P call (mk n e) σ o=some (.fn f xs ys,σ):=by
 intro call;simp only [kQ,ho,kU hx,kU hy]
theorem Zo {i:Nat} {vs:List AV} (ho:o.op=.extract x i) (hx:lo n e x=some (.tuple vs)) (hv:vs[i]?=some v):∀call,kQ P call (mk n e) σ o=some (v,σ):=by
 intro call;simp only [kQ,ho,eG hx,hv]
theorem aoY {cl:Call} (ho:o.op=.call cl) (hb:cl.callee=.builtin .len) (ht:cl.argTypes[0]?=some t) (hx:los n e cl.args.toList=some [a]) (hl:Mq P t a=some v):∀call,kQ P call (mk n e) σ o=some (v,σ):=by
 intro call;simp only [kQ,ho,kU hx,hb,pJ,ht,hl]
theorem ac0 {cl:Call} {t2:TypeId} (ho:o.op=.call cl) (hb:cl.callee=.builtin .append) (ht:cl.argTypes[0]?=some t) (ht2:cl.argTypes[1]?=some t2) (hx:los n e cl.args.toList=some [a,b]) (hn:jl P t2=false) (hl:jm P σ t a b=some (v,σ')):∀call,kQ P call (mk n e) σ o=some (v,σ'):=by
 intro call;simp only [kQ,ho,kU hx,hb,pJ,ht,ht2,hn,Bool.false_eq_true,if_false,hl]
theorem aoX {cl:Call} {vs:List AV} {us:List Value} (ho:o.op=.call cl) (hb:cl.callee=.builtin .max) (hx:los n e cl.args.toList=some vs) (hu:qM vs=some us) (hl:vK P (Builtin.max_ cl.argTypes 0 us.toArray)=some v):∀call,kQ P call (mk n e) σ o=some (v,σ):=by
 intro call;simp only [kQ,ho,kU hx,hb,pJ,hu,hl]
end
abbrev eI (n:Int):D:=.int .i64 n
abbrev dX (x:UInt8):D:=.int .u8 (x.toNat:Int)
abbrev YH (x:UInt16):D:=.int .u16 (x.toNat:Int)
abbrev YG (x:UInt32):D:=.int .u32 (x.toNat:Int)
abbrev eX (x:UInt64):D:=.int .u64 (x.toNat:Int)
abbrev eB (b:Bool):D:=.bool b
abbrev eS (s:List UInt8):D:=.str ⟨s.toArray⟩
abbrev bL (n:Int):Int:=IntKind.i64.wrap n
section
variable {P:Program} {σ:List Ob} {t:TypeId} {s:Nat} {g:Bool}
theorem ak {id off:Nat} {x v:AV} (hs:dF P t=some s) (hg:jB P t=some g) (ho:σ[id]?=some (.box x)) (hv:tO g s ((x.cells.drop off).take s)=some v):mQ P σ t (.ref id 0 off)=some v:=by
 simp only [mQ,hs,hg,ho,if_true,hv]
theorem jD {id idx sz:Nat} {xs:List D} {wr:Bool} {x:D} {v:AV} (hs:dF P t=some s) (hg:jB P t=some g) (ho:σ[id]?=some (.row sz xs wr)) (hx:xs[idx]?=some x) {off:Nat} (hv:tO g s (((x.cells.map AV.d).drop off).take s)=some v):mQ P σ t (.ref id idx off)=some v:=by
 simp only [mQ,hs,hg,ho,hx,hv]
theorem bY {cs:List D} {v:AV} (hs:dF P t=some s) (hg:jB P t=some g) (hv:tO g s ((cs.map AV.d).take s)=some v):mQ P σ t (.rop cs)=some v:=by
 simp only [mQ,hs,hg,hv]
theorem bI {α:Type} {f:α→D} {xs:List α} {i:Nat} {x:α} (h:xs[i]?=some x):(xs.map f)[i]?=some (f x):=by simp [h]
def FO (P:Program) (t:TypeId) (f:Nat) (ty off:Nat):Prop:=(vI P t f).map (fun d=>(d.type,d.offset))=some (ty,off)
theorem FO.get {f ty off:Nat} (h:FO P t f ty off):∃fd,vI P t f=some fd∧fd.type=ty∧fd.offset=off:=by
 unfold FO at h
 cases hf:vI P t f with
 | none=>rw [hf] at h;cases h
 | some d=>rw [hf] at h;simp at h;exact ⟨d,rfl,h.1,h.2⟩
theorem aiW {id idx off f ty fo:Nat} (hf:FO P t f ty fo) (hs:dF P ty=some (s+1)) {k:Nat} (hk:off+fo=k):om P t f (.ref id idx off)=some (.ref id idx k):=by
 obtain ⟨fd,h1,rfl,rfl⟩:=hf.get
 simp only [om,h1,hs,hk];rfl
theorem aiV {f ty fo:Nat} {cs ds:List D} (hf:FO P t f ty fo) (hs:dF P ty=some (s+1)) (hd:cs.drop fo=ds):om P t f (.rop cs)=some (.rop ds):=by
 obtain ⟨fd,h1,rfl,rfl⟩:=hf.get
 simp only [om,h1,hs,hd];rfl
theorem aa7 {el:TypeId} {id off len:Nat} {cap:Option Nat} {i:Int} (hu:P.underlying t=some (.slice el)) (hs:dF P el=some s) (hi:0≤i∧i < (len:Int)):mq P t (.slc id s off len cap) (.d (eI i))=some (.ref id (off+i.toNat) 0):=by
 simp only [mq,hu,hs,hi.1,hi.2,and_self,if_true]
theorem ahI {el:TypeId} {xs:List D} {i:Int} {y:D} (hu:P.underlying t=some (.slice el)) (hs:dF P el=some s) (hi:0≤i) (hy:xs[i.toNat]?=some y):mq P t (.d (.y8 s xs)) (.d (eI i))=some (.rop y.cells):=by
 simp only [mq,hu,hs,hi,and_self,if_true,hy]
theorem gN {el:TypeId} {id sz off len:Nat} {cap:Option Nat} (hu:P.underlying t=some (.slice el)):Mq P t (.slc id sz off len cap)=some (.d (eI len)):=by simp only [Mq,hu]
theorem bN {el:TypeId} {sz:Nat} {α:Type} {f:α→D} {xs:List α} (hu:P.underlying t=some (.slice el)):Mq P t (.d (.y8 sz (xs.map f)))=some (.d (eI xs.length)):=by simp only [Mq,hu,List.length_map]
theorem iV {s:List UInt8} (hu:P.underlying t=some .string):Mq P t (.d (eS s))=some (.d (eI s.length)):=by simp only [Mq,hu];rfl
end
end Lv
/- Whole numbers without a sign as Lean's own. -/
namespace Lv
open Go
variable [bJ]
theorem SB {n:Int} (h:-9223372036854775808≤n) (h2:n < 9223372036854775808):IntKind.i64.wrap n=n:=by
 unfold IntKind.wrap
 have e1:(2:Int) ^ IntKind.i64.bits=18446744073709551616:=rfl
 have e2:(2:Int) ^ (IntKind.i64.bits - 1)=9223372036854775808:=rfl
 simp only [e1,e2,show IntKind.i64.signed=true from rfl,Bool.true_and,decide_eq_true_eq]
 split <;> omega
def O5 (n:Int):UInt8:=UInt8.ofNat (n % 256).toNat
def uP (n:Int):UInt64:=UInt64.ofNat (n % 18446744073709551616).toNat
def Gh (x:UInt64):Int:=IntKind.i64.wrap (x.toNat:Int)
theorem FY {P:Program} {α:Type} (a:α):pr P (pure a:Sem α)=some a:=rfl
section
variable {P:Program} (t:TypeId) (X Y:Operand)
theorem wrap_u8 (n:Int):IntKind.u8.wrap n=n % 256:=by
 unfold IntKind.wrap
 have e1:(2:Int) ^ IntKind.u8.bits=256:=rfl
 simp only [e1,show IntKind.u8.signed=false from rfl,Bool.false_and,Bool.false_eq_true,if_false]
theorem Sj (x:UInt8):x.toNat < 256:=x.toNat_lt
theorem T9 (x:UInt8):IntKind.u8.wrap (x.toNat:Int)=x.toNat:=by
 rw [wrap_u8];have:=Sj x;omega
theorem ag8 (x y:UInt8):IntKind.u8.wrap ((x.toNat:Int) - (y.toNat:Int))=((x - y).toNat:Int):=by
 rw [wrap_u8,UInt8.toNat_sub];have:=Sj x;have:=Sj y
 omega
theorem acA (x y:UInt8):cO P .sub t X Y (.d (dX x)) (.d (dX y))=some (.d (dX (x - y))):=(show _=some (AV.d (.int .u8 (IntKind.u8.wrap ((x.toNat:Int) - (y.toNat:Int))))) from rfl).trans (by rw [ag8])
theorem acG (x y:UInt8):cO P .eql t X Y (.d (dX x)) (.d (dX y))=some (.d (.bool (x==y))):=(show _=some (AV.d (.bool (((x.toNat:Int)==(y.toNat:Int))))) from rfl).trans (by
  have:((x.toNat:Int)==(y.toNat:Int))=(x==y):=by rw [Bool.eq_iff_iff];simp only [beq_iff_eq,← UInt8.toNat_inj];omega
  rw [this])
theorem acB (x y:UInt8):cO P .neq t X Y (.d (dX x)) (.d (dX y))=some (.d (.bool (x != y))):=(show _=some (AV.d (.bool (((x.toNat:Int) != (y.toNat:Int))))) from rfl).trans (by
  have:((x.toNat:Int) != (y.toNat:Int))=(x != y):=by rw [Bool.eq_iff_iff];simp only [bne_iff_ne,ne_eq,← UInt8.toNat_inj];omega
  rw [this])
theorem acC (x y:UInt8):cO P .lss t X Y (.d (dX x)) (.d (dX y))=some (.d (.bool (decide (x < y)))):=(show _=some (AV.d (.bool (decide ((x.toNat:Int) < (y.toNat:Int))))) from rfl).trans (by
  have:decide ((x.toNat:Int) < (y.toNat:Int))=(decide (x < y)):=by rw [Bool.eq_iff_iff];simp only [decide_eq_true_eq,UInt8.lt_iff_toNat_lt];omega
  rw [this])
theorem acD (x y:UInt8):cO P .leq t X Y (.d (dX x)) (.d (dX y))=some (.d (.bool (decide (x≤y)))):=(show _=some (AV.d (.bool (decide ((x.toNat:Int)≤(y.toNat:Int))))) from rfl).trans (by
  have:decide ((x.toNat:Int)≤(y.toNat:Int))=(decide (x≤y)):=by rw [Bool.eq_iff_iff];simp only [decide_eq_true_eq,UInt8.le_iff_toNat_le];omega
  rw [this])
theorem acE (x y:UInt8):cO P .gtr t X Y (.d (dX x)) (.d (dX y))=some (.d (.bool (decide (y < x)))):=(show _=some (AV.d (.bool (decide ((x.toNat:Int) > (y.toNat:Int))))) from rfl).trans (by
  have:decide ((x.toNat:Int) > (y.toNat:Int))=(decide (y < x)):=by rw [Bool.eq_iff_iff];simp only [decide_eq_true_eq,UInt8.lt_iff_toNat_lt];omega
  rw [this])
theorem acF (x y:UInt8):cO P .geq t X Y (.d (dX x)) (.d (dX y))=some (.d (.bool (decide (y≤x)))):=(show _=some (AV.d (.bool (decide ((x.toNat:Int)≥(y.toNat:Int))))) from rfl).trans (by
  have:decide ((x.toNat:Int)≥(y.toNat:Int))=(decide (y≤x)):=by rw [Bool.eq_iff_iff];simp only [decide_eq_true_eq,UInt8.le_iff_toNat_le];omega
  rw [this])
theorem XH (x:UInt8):vK P (Op.unary .xor (.int .u8 (x.toNat:Int)))=some (.d (dX (~~~ x))):=by
 have hx:BitVec.ofInt IntKind.u8.bits (x.toNat:Int)=x.toBitVec:=by
  rw [BitVec.ofInt_natCast];exact BitVec.eq_of_toNat_eq (by simp [BitVec.toNat_ofNat];exact Nat.mod_eq_of_lt x.toNat_lt)
 have hm:BitVec.ofInt IntKind.u8.bits IntKind.u8.max=BitVec.allOnes 8:=by rfl
 refine (show _=some (AV.d (.int .u8 (IntKind.u8.wrap ((BitVec.ofInt IntKind.u8.bits IntKind.u8.max ^^^ BitVec.ofInt IntKind.u8.bits (x.toNat:Int)).toNat:Int)))) from rfl).trans ?_
 rw [hx,hm]
 have:(BitVec.allOnes 8 ^^^ x.toBitVec)=(~~~ x).toBitVec:=by
  rw [UInt8.toBitVec_not];exact BitVec.allOnes_xor
 refine (congrArg (fun b:BitVec 8=>some (AV.d (.int .u8 (IntKind.u8.wrap (b.toNat:Int))))) this).trans ?_
 exact congrArg (fun n=>some (AV.d (.int .u8 n))) (T9 (~~~ x))
theorem acn (n:Int):IntKind.u8.wrap n=((O5 n).toNat:Int):=by
 rw [wrap_u8];unfold O5;rw [UInt8.toNat_ofNat']
 have h1:0≤n % 256:=Int.emod_nonneg _ (by omega)
 have h2:n % 256 < 256:=Int.emod_lt_of_pos _ (by omega)
 omega
theorem wrap_u16 (n:Int):IntKind.u16.wrap n=n % 65536:=by
 unfold IntKind.wrap
 have e1:(2:Int) ^ IntKind.u16.bits=65536:=rfl
 simp only [e1,show IntKind.u16.signed=false from rfl,Bool.false_and,Bool.false_eq_true,if_false]
theorem ahE (x:UInt16):x.toNat < 65536:=x.toNat_lt
def fK (x:UInt16) (n:Nat):UInt16:=UInt16.ofNat (x.toNat / 2 ^ n)
theorem YW (x:UInt16) (k:IntKind) {y:Int} (hy:0≤y):cO P .shr t X Y (.d (YH x)) (.d (.int k y))=some (.d (YH (fK x y.toNat))):=by
 have hp:pr P (Op.shift .shr .u16 (x.toNat:Int) k y)=some (.int .u16 ((fK x y.toNat).toNat:Int)):=by
  unfold Op.shift
  rw [if_neg (by omega)]
  simp only [FY]
  congr 2
  unfold fK
  rw [UInt16.toNat_ofNat']
  have hb:IntKind.u16.bits=16:=rfl
  rw [hb]
  have hx:=ahE x
  have hlt:x.toNat / 2 ^ y.toNat < 2 ^ 16:=Nat.lt_of_le_of_lt (Nat.div_le_self _ _) hx
  rw [Nat.mod_eq_of_lt hlt,Int.fdiv_eq_ediv_of_nonneg _ (by exact Int.le_of_lt (Int.pow_pos (by omega)))]
  rcases Nat.le_total y.toNat 16 with h | h
  ·rw [Nat.min_eq_left h,Int.natCast_ediv,Int.natCast_pow];rfl
  ·rw [Nat.min_eq_right h]
   have e1:(x.toNat:Int) / 2 ^ 16=0:=by omega
   have e2:x.toNat / 2 ^ y.toNat=0:=by
    apply Nat.div_eq_of_lt
    have h3:2 ^ 16≤2 ^ y.toNat:=Nat.pow_le_pow_right (by decide) h
    exact Nat.lt_of_lt_of_le hx h3
   rw [e1,e2];rfl
 show (match pr P (Op.shift .shr .u16 (x.toNat:Int) k y) with | some v=>(match nJ v with | some x=>some (AV.d x) | none=>none) | none=>none)=_
 rw [hp];rfl
theorem wrap_u32 (n:Int):IntKind.u32.wrap n=n % 4294967296:=by
 unfold IntKind.wrap
 have e1:(2:Int) ^ IntKind.u32.bits=4294967296:=rfl
 simp only [e1,show IntKind.u32.signed=false from rfl,Bool.false_and,Bool.false_eq_true,if_false]
theorem ahD (x:UInt32):x.toNat < 4294967296:=x.toNat_lt
def fT (x:UInt32) (n:Nat):UInt32:=UInt32.ofNat (x.toNat / 2 ^ n)
theorem YV (x:UInt32) (k:IntKind) {y:Int} (hy:0≤y):cO P .shr t X Y (.d (YG x)) (.d (.int k y))=some (.d (YG (fT x y.toNat))):=by
 have hp:pr P (Op.shift .shr .u32 (x.toNat:Int) k y)=some (.int .u32 ((fT x y.toNat).toNat:Int)):=by
  unfold Op.shift
  rw [if_neg (by omega)]
  simp only [FY]
  congr 2
  unfold fT
  rw [UInt32.toNat_ofNat']
  have hb:IntKind.u32.bits=32:=rfl
  rw [hb]
  have hx:=ahD x
  have hlt:x.toNat / 2 ^ y.toNat < 2 ^ 32:=Nat.lt_of_le_of_lt (Nat.div_le_self _ _) hx
  rw [Nat.mod_eq_of_lt hlt,Int.fdiv_eq_ediv_of_nonneg _ (by exact Int.le_of_lt (Int.pow_pos (by omega)))]
  rcases Nat.le_total y.toNat 32 with h | h
  ·rw [Nat.min_eq_left h,Int.natCast_ediv,Int.natCast_pow];rfl
  ·rw [Nat.min_eq_right h]
   have e1:(x.toNat:Int) / 2 ^ 32=0:=by omega
   have e2:x.toNat / 2 ^ y.toNat=0:=by
    apply Nat.div_eq_of_lt
    have h3:2 ^ 32≤2 ^ y.toNat:=Nat.pow_le_pow_right (by decide) h
    exact Nat.lt_of_lt_of_le hx h3
   rw [e1,e2];rfl
 show (match pr P (Op.shift .shr .u32 (x.toNat:Int) k y) with | some v=>(match nJ v with | some x=>some (AV.d x) | none=>none) | none=>none)=_
 rw [hp];rfl
theorem wrap_u64 (n:Int):IntKind.u64.wrap n=n % 18446744073709551616:=by
 unfold IntKind.wrap
 have e1:(2:Int) ^ IntKind.u64.bits=18446744073709551616:=rfl
 simp only [e1,show IntKind.u64.signed=false from rfl,Bool.false_and,Bool.false_eq_true,if_false]
theorem aaX (x:UInt64):x.toNat < 18446744073709551616:=x.toNat_lt
theorem IK (x:UInt64):IntKind.u64.wrap (x.toNat:Int)=x.toNat:=by
 rw [wrap_u64];have:=aaX x;omega
theorem u64_or (x y:UInt64):IntKind.u64.wrap ((BitVec.ofInt IntKind.u64.bits (x.toNat:Int) ||| BitVec.ofInt IntKind.u64.bits (y.toNat:Int)).toNat:Int)=((x ||| y).toNat:Int):=by
 have hx:BitVec.ofInt IntKind.u64.bits (x.toNat:Int)=x.toBitVec:=by
  rw [BitVec.ofInt_natCast];exact BitVec.eq_of_toNat_eq (by simp [BitVec.toNat_ofNat];exact Nat.mod_eq_of_lt x.toNat_lt)
 have hy:BitVec.ofInt IntKind.u64.bits (y.toNat:Int)=y.toBitVec:=by
  rw [BitVec.ofInt_natCast];exact BitVec.eq_of_toNat_eq (by simp [BitVec.toNat_ofNat];exact Nat.mod_eq_of_lt y.toNat_lt)
 rw [hx,hy]
 exact IK (x ||| y)
theorem acH (x y:UInt64):cO P .or t X Y (.d (eX x)) (.d (eX y))=some (.d (eX (x ||| y))):=(show _=some (AV.d (.int .u64 (IntKind.u64.wrap ((BitVec.ofInt IntKind.u64.bits (x.toNat:Int) ||| BitVec.ofInt IntKind.u64.bits (y.toNat:Int)).toNat:Int)))) from rfl).trans (by rw [u64_or])
theorem u64_xor (x y:UInt64):IntKind.u64.wrap ((BitVec.ofInt IntKind.u64.bits (x.toNat:Int) ^^^ BitVec.ofInt IntKind.u64.bits (y.toNat:Int)).toNat:Int)=((x ^^^ y).toNat:Int):=by
 have hx:BitVec.ofInt IntKind.u64.bits (x.toNat:Int)=x.toBitVec:=by
  rw [BitVec.ofInt_natCast];exact BitVec.eq_of_toNat_eq (by simp [BitVec.toNat_ofNat];exact Nat.mod_eq_of_lt x.toNat_lt)
 have hy:BitVec.ofInt IntKind.u64.bits (y.toNat:Int)=y.toBitVec:=by
  rw [BitVec.ofInt_natCast];exact BitVec.eq_of_toNat_eq (by simp [BitVec.toNat_ofNat];exact Nat.mod_eq_of_lt y.toNat_lt)
 rw [hx,hy]
 exact IK (x ^^^ y)
theorem YP (x y:UInt64):cO P .xor t X Y (.d (eX x)) (.d (eX y))=some (.d (eX (x ^^^ y))):=(show _=some (AV.d (.int .u64 (IntKind.u64.wrap ((BitVec.ofInt IntKind.u64.bits (x.toNat:Int) ^^^ BitVec.ofInt IntKind.u64.bits (y.toNat:Int)).toNat:Int)))) from rfl).trans (by rw [u64_xor])
theorem YU (x y:UInt64):cO P .eql t X Y (.d (eX x)) (.d (eX y))=some (.d (.bool (x==y))):=(show _=some (AV.d (.bool (((x.toNat:Int)==(y.toNat:Int))))) from rfl).trans (by
  have:((x.toNat:Int)==(y.toNat:Int))=(x==y):=by rw [Bool.eq_iff_iff];simp only [beq_iff_eq,← UInt64.toNat_inj];omega
  rw [this])
theorem YQ (x y:UInt64):cO P .neq t X Y (.d (eX x)) (.d (eX y))=some (.d (.bool (x != y))):=(show _=some (AV.d (.bool (((x.toNat:Int) != (y.toNat:Int))))) from rfl).trans (by
  have:((x.toNat:Int) != (y.toNat:Int))=(x != y):=by rw [Bool.eq_iff_iff];simp only [bne_iff_ne,ne_eq,← UInt64.toNat_inj];omega
  rw [this])
theorem YR (x y:UInt64):cO P .lss t X Y (.d (eX x)) (.d (eX y))=some (.d (.bool (decide (x < y)))):=(show _=some (AV.d (.bool (decide ((x.toNat:Int) < (y.toNat:Int))))) from rfl).trans (by
  have:decide ((x.toNat:Int) < (y.toNat:Int))=(decide (x < y)):=by rw [Bool.eq_iff_iff];simp only [decide_eq_true_eq,UInt64.lt_iff_toNat_lt];omega
  rw [this])
theorem YS (x y:UInt64):cO P .leq t X Y (.d (eX x)) (.d (eX y))=some (.d (.bool (decide (x≤y)))):=(show _=some (AV.d (.bool (decide ((x.toNat:Int)≤(y.toNat:Int))))) from rfl).trans (by
  have:decide ((x.toNat:Int)≤(y.toNat:Int))=(decide (x≤y)):=by rw [Bool.eq_iff_iff];simp only [decide_eq_true_eq,UInt64.le_iff_toNat_le];omega
  rw [this])
theorem YT (x y:UInt64):cO P .gtr t X Y (.d (eX x)) (.d (eX y))=some (.d (.bool (decide (y < x)))):=(show _=some (AV.d (.bool (decide ((x.toNat:Int) > (y.toNat:Int))))) from rfl).trans (by
  have:decide ((x.toNat:Int) > (y.toNat:Int))=(decide (y < x)):=by rw [Bool.eq_iff_iff];simp only [decide_eq_true_eq,UInt64.lt_iff_toNat_lt];omega
  rw [this])
def pz (x:UInt64) (n:Nat):UInt64:=UInt64.ofNat (x.toNat * 2 ^ n)
def dO (x:UInt64) (n:Nat):UInt64:=UInt64.ofNat (x.toNat / 2 ^ n)
theorem OB (x:UInt64) (k:IntKind) {y:Int} (hy:0≤y):cO P .shl t X Y (.d (eX x)) (.d (.int k y))=some (.d (eX (pz x y.toNat))):=by
 have hp:pr P (Op.shift .shl .u64 (x.toNat:Int) k y)=some (.int .u64 ((pz x y.toNat).toNat:Int)):=by
  unfold Op.shift
  rw [if_neg (by omega)]
  simp only [FY]
  congr 2
  rw [wrap_u64]
  unfold pz
  rw [UInt64.toNat_ofNat']
  have hb:IntKind.u64.bits=64:=rfl
  rw [hb]
  rcases Nat.le_total y.toNat 64 with h | h
  ·rw [Nat.min_eq_left h,Int.natCast_emod,Int.natCast_mul,Int.natCast_pow];rfl
  ·rw [Nat.min_eq_right h]
   obtain ⟨d,hd⟩:=Nat.exists_eq_add_of_le h
   have e1:((x.toNat:Int)*2 ^ 64) % 18446744073709551616=0:=by omega
   have e2:(x.toNat * 2 ^ y.toNat) % 2 ^ 64=0:=by
    rw [hd,Nat.pow_add,← Nat.mul_assoc,Nat.mul_right_comm]
    exact Nat.mul_mod_left _ _
   rw [e1,e2];rfl
 show (match pr P (Op.shift .shl .u64 (x.toNat:Int) k y) with | some v=>(match nJ v with | some x=>some (AV.d x) | none=>none) | none=>none)=_
 rw [hp];rfl
theorem CV (x:UInt64) (k:IntKind) {y:Int} (hy:0≤y):cO P .shr t X Y (.d (eX x)) (.d (.int k y))=some (.d (eX (dO x y.toNat))):=by
 have hp:pr P (Op.shift .shr .u64 (x.toNat:Int) k y)=some (.int .u64 ((dO x y.toNat).toNat:Int)):=by
  unfold Op.shift
  rw [if_neg (by omega)]
  simp only [FY]
  congr 2
  unfold dO
  rw [UInt64.toNat_ofNat']
  have hb:IntKind.u64.bits=64:=rfl
  rw [hb]
  have hx:=aaX x
  have hlt:x.toNat / 2 ^ y.toNat < 2 ^ 64:=Nat.lt_of_le_of_lt (Nat.div_le_self _ _) hx
  rw [Nat.mod_eq_of_lt hlt,Int.fdiv_eq_ediv_of_nonneg _ (by exact Int.le_of_lt (Int.pow_pos (by omega)))]
  rcases Nat.le_total y.toNat 64 with h | h
  ·rw [Nat.min_eq_left h,Int.natCast_ediv,Int.natCast_pow];rfl
  ·rw [Nat.min_eq_right h]
   have e1:(x.toNat:Int) / 2 ^ 64=0:=by omega
   have e2:x.toNat / 2 ^ y.toNat=0:=by
    apply Nat.div_eq_of_lt
    have h3:2 ^ 64≤2 ^ y.toNat:=Nat.pow_le_pow_right (by decide) h
    exact Nat.lt_of_lt_of_le hx h3
   rw [e1,e2];rfl
 show (match pr P (Op.shift .shr .u64 (x.toNat:Int) k y) with | some v=>(match nJ v with | some x=>some (AV.d x) | none=>none) | none=>none)=_
 rw [hp];rfl
theorem YK (n:Int):IntKind.u64.wrap n=((uP n).toNat:Int):=by
 rw [wrap_u64];unfold uP;rw [UInt64.toNat_ofNat']
 have h1:0≤n % 18446744073709551616:=Int.emod_nonneg _ (by omega)
 have h2:n % 18446744073709551616 < 18446744073709551616:=Int.emod_lt_of_pos _ (by omega)
 omega
end
end Lv
/- Texts: a byte of one, a front of one. -/
namespace Lv
open Go
theorem jh {P:Program} {α β:Type} (s:Sem α) (f:α→Sem β):pr P (s >>= f)=(pr P s).bind fun a=>pr P (f a):=by
 show pr P (Sem.bind s f)=_
 induction s with
 | pure a=>rfl
 | program k ih=>exact ih P
 | mark m k ih=>exact ih
 | _=>rfl
theorem kC {P:Program} {α:Type} (a:α):pr P (pure a:Sem α)=some a:=rfl
theorem gY {P:Program} {t:TypeId} {d:TypeDesc} (h:P.underlying t=some d):pr P (underlying t)=some d:=by
 unfold underlying
 rw [jh]
 show (pr P (Sem.program fun p=>pure p)).bind _=_
 simp only [pr,Option.bind]
 first
  | rw [h];rfl
  | simp [pr,h,kC]
end Lv
/- Texts and rows. -/
namespace Lv
open Go
variable [bJ]
theorem rU (l:List UInt8):(ByteArray.mk l.toArray).size=l.length:=by simp [ByteArray.size]
theorem kg (l:List UInt8):(ByteArray.mk l.toArray).toList=l:=by
 have h:∀(b:ByteArray) (k:Nat) (acc:List UInt8),k≤b.size→ByteArray.toList.loop b k acc=acc.reverse++b.data.toList.drop k:=by
  intro b
  suffices h:∀(n k:Nat) (acc:List UInt8),b.size - k=n→k≤b.size→ByteArray.toList.loop b k acc=acc.reverse++b.data.toList.drop k from fun k acc=>h _ k acc rfl
  intro n
  induction n with
  | zero=>
   intro k acc hn hk
   unfold ByteArray.toList.loop
   rw [if_neg (by omega)]
   rw [List.drop_eq_nil_of_le (by simp;have:b.data.size=b.size:=rfl;omega)]
   simp
  | succ n ih=>
   intro k acc hn hk
   unfold ByteArray.toList.loop
   have hlt:k < b.size:=by omega
   rw [if_pos hlt,ih (k+1) _ (by omega) (by omega)]
   have hd:b.data.toList.drop k=b.get! k::b.data.toList.drop (k+1):=by
    have hlt':k < b.data.toList.length:=by simpa using hlt
    rw [List.drop_eq_getElem_cons hlt']
    congr 1
    have:k < b.data.size:=hlt
    simp [ByteArray.get!,Array.getElem!_eq_getD,Array.getD,this]
    intro hc;omega
   rw [hd]
   simp
 unfold ByteArray.toList
 rw [h _ 0 [] (by omega)]
 simp
theorem YO (a b:List UInt8):(ByteArray.mk a.toArray)++(ByteArray.mk b.toArray)=ByteArray.mk (a++b).toArray:=by
 apply ByteArray.ext
 rw [ByteArray.data_append]
 simp
section
variable {P:Program} (t:TypeId) (X Y:Operand)
abbrev o8 (a b:List UInt8):Bool:=Op.bytesLess a b
theorem Y2 (a b:List UInt8):cO P .eql t X Y (.d (eS a)) (.d (eS b))=some (.d (.bool (a==b))):=(show _=some (AV.d (.bool ((ByteArray.mk a.toArray).toList==(ByteArray.mk b.toArray).toList))) from rfl).trans (by rw [kg,kg])
theorem YX (a b:List UInt8):cO P .neq t X Y (.d (eS a)) (.d (eS b))=some (.d (.bool (a != b))):=(show _=some (AV.d (.bool !((ByteArray.mk a.toArray).toList==(ByteArray.mk b.toArray).toList))) from rfl).trans (by rw [kg,kg];rfl)
theorem YZ (a b:List UInt8):cO P .lss t X Y (.d (eS a)) (.d (eS b))=some (.d (.bool (o8 a b))):=(show _=some (AV.d (.bool (Op.bytesLess (ByteArray.mk a.toArray).toList (ByteArray.mk b.toArray).toList))) from rfl).trans (by rw [kg,kg])
theorem Y0 (a b:List UInt8):cO P .gtr t X Y (.d (eS a)) (.d (eS b))=some (.d (.bool !(o8 a b || a==b))):=(show _=some (AV.d (.bool !(Op.bytesLess (ByteArray.mk a.toArray).toList (ByteArray.mk b.toArray).toList || (ByteArray.mk a.toArray).toList==(ByteArray.mk b.toArray).toList))) from rfl).trans (by rw [kg,kg])
theorem Y1 (a b:List UInt8):cO P .geq t X Y (.d (eS a)) (.d (eS b))=some (.d (.bool !(o8 a b))):=(show _=some (AV.d (.bool !(Op.bytesLess (ByteArray.mk a.toArray).toList (ByteArray.mk b.toArray).toList))) from rfl).trans (by rw [kg,kg])
theorem Ir (a b:List UInt8) (h:a.length+b.length≤9223372036854775807):cO P .add t X Y (.d (eS a)) (.d (eS b))=some (.d (eS (a++b))):=by
 have h':¬((((ByteArray.mk a.toArray).size+(ByteArray.mk b.toArray).size:Nat):Int) > IntKind.i64.max):=by
  have e:IntKind.i64.max=9223372036854775807:=rfl
  rw [e,rU,rU];omega
 show vK P (do eqGuard .add t X Y (.string ⟨a.toArray⟩) (.string ⟨b.toArray⟩);binOp .add t (.string ⟨a.toArray⟩) (.string ⟨b.toArray⟩))=_
 unfold vK
 have:pr P (do eqGuard .add t X Y (.string ⟨a.toArray⟩) (.string ⟨b.toArray⟩);binOp .add t (.string ⟨a.toArray⟩) (.string ⟨b.toArray⟩))=some (.string (⟨a.toArray⟩++⟨b.toArray⟩)):=by
  show pr P (Op.stringOp .add ⟨a.toArray⟩ ⟨b.toArray⟩)=_
  simp only [Op.stringOp]
  rw [if_neg h']
  rfl
 rw [this,YO]
 rfl
end
section
variable {P:Program} {t:TypeId}
theorem nC (un:P.underlying t=some .string) {s:List UInt8} {k:IntKind} {i:Int} {b:UInt8} (hi:0≤i) (h:s[i.toNat]?=some b):vK P (Instr.index t (.string ⟨s.toArray⟩) (.int k i))=some (.d (dX b)):=by
 have hs:(ByteArray.mk s.toArray)[i.toNat]?=some b:=by
  have hlt:=cK h
  have:i.toNat < (ByteArray.mk s.toArray).size:=by rw [rU];exact hlt
  rw [getElem?_pos (ByteArray.mk s.toArray) i.toNat this]
  have e:(ByteArray.mk s.toArray)[i.toNat]=s[i.toNat]:=rfl
  rw [e]
  rw [List.getElem?_eq_getElem hlt] at h
  exact h
 have:pr P (Instr.index t (.string ⟨s.toArray⟩) (.int k i))=some (.int .u8 b.toNat):=by
  simp only [Instr.index,asIntOf,pure_bind,jh,gY un,Option.bind_some]
  rw [if_pos hi,hs]
  rfl
 unfold vK
 rw [this]
 rfl
theorem Vg (s:List UInt8) (lo hi:Nat):(ByteArray.mk s.toArray).extract lo hi=⟨((s.drop lo).take (hi - lo)).toArray⟩:=by
 apply ByteArray.ext
 rw [ByteArray.data_extract]
 simp [List.extract_toArray,List.extract_eq_take_drop]
theorem XO (un:P.underlying t=some .string) {s:List UInt8} {lo:Int} (h:0≤lo∧lo≤(s.length:Int)):aslice P t (.d (eS s)) (some (.d (eI lo))) none none=some (.d (eS (s.drop lo.toNat))):=by
  have hz:=rU s
  have:pr P (Instr.slice t (.string ⟨s.toArray⟩) (some (.int .i64 lo)) none none)=some (.string ((ByteArray.mk s.toArray).extract lo.toNat (ByteArray.mk s.toArray).size)):=by
    simp only [Instr.slice,Instr.sliceBounds,Instr.sliceBound,asIntOf,pure_bind,jh,gY un,Option.bind_some,Option.isSome_none,Bool.false_eq_true,if_false]
    rw [if_pos (by omega)]
    rfl
  show (match P.underlying t with | some (.slice e)=>_ | some .string=>_ | _=>_)=_
  rw [un]
  show (match pr P (Instr.slice t (.string ⟨s.toArray⟩) (some (.int .i64 lo)) none none) with
        | some u=>(match nJ u with | some y=>some (AV.d y) | none=>none)
        | none=>none)=_
  rw [this,Vg,rU,List.take_of_length_le (by simp)]
  rfl
theorem mR {el:TypeId} {sz id off len:Nat} {lo:Int} (un:P.underlying t=some (.slice el)) (ts:dF P el=some sz) (h:0≤lo∧lo≤(len:Int)):
  aslice P t (.slc id sz off len none) (some (.d (eI lo))) none none=some (.slc id sz (off+lo.toNat) (len - lo.toNat) none):=by
 simp only [aslice,un,ts,vL,h.1,if_true,Option.getD_some,Option.getD_none,Option.isSome_some,true_and,reslice]
 rw [if_pos (by omega),if_pos (by omega)]
theorem yF {el:TypeId} {sz id off len:Nat} {hi:Int} (un:P.underlying t=some (.slice el)) (ts:dF P el=some sz) (h:0≤hi∧hi≤(len:Int)):
  aslice P t (.slc id sz off len none) none (some (.d (eI hi))) none=some (.slc id sz off hi.toNat none):=by
 simp only [aslice,un,ts,vL,h.1,if_true,Option.getD_some,Option.getD_none,Option.isSome_some,true_and,reslice,Nat.zero_le,Nat.add_zero,Nat.sub_zero]
 rw [if_pos (by omega)]
theorem XP {α:Type} {f:α→D} {xs:List α} {el:TypeId} {sz:Nat} {lo:Int} (un:P.underlying t=some (.slice el)) (ts:dF P el=some sz) (h:0≤lo∧lo≤(xs.length:Int)):
  aslice P t (.d (.y8 sz (xs.map f))) (some (.d (eI lo))) none none=some (.d (.y8 sz ((xs.drop lo.toNat).map f))):=by
 simp only [aslice,un,ts,vL,h.1,if_true,Option.getD_some,Option.getD_none,true_and,List.length_map,and_true,Nat.le_refl]
 rw [if_pos (by omega),← List.map_drop,List.take_of_length_le (by simp)]
theorem Hr {α:Type} {f:α→D} {xs:List α} {el:TypeId} {sz:Nat} {hi:Int} (un:P.underlying t=some (.slice el)) (ts:dF P el=some sz) (h:0≤hi∧hi≤(xs.length:Int)):
  aslice P t (.d (.y8 sz (xs.map f))) none (some (.d (eI hi))) none=some (.d (.y8 sz ((xs.take hi.toNat).map f))):=by
 simp only [aslice,un,ts,vL,h.1,if_true,Option.getD_some,Option.getD_none,true_and,List.length_map,and_true,Nat.zero_le,List.drop_zero,Nat.sub_zero]
 rw [if_pos (by omega),List.map_take]
variable {σ:List Ob} {α:Type} {f:α→D}
theorem dU {id sz:Nat} {xs:List α} {wr:Bool} {cap:Option Nat} (h:σ[id]?=some (.row sz (xs.map f) wr)):elems σ sz (.slc id sz 0 xs.length cap)=some (xs.map f):=by
 simp only [elems,h,List.length_map,Nat.zero_add,Nat.le_refl,and_self,if_true,List.drop_zero]
 rw [List.take_of_length_le (by simp)]
theorem aiZ {id sz off len:Nat} {xs:List α} {wr:Bool} {cap:Option Nat} (h:σ[id]?=some (.row sz (xs.map f) wr)) (hl:off+len≤xs.length):elems σ sz (.slc id sz off len cap)=some (((xs.drop off).take len).map f):=by
 simp [elems,h,hl,List.map_take,List.map_drop]
theorem yg {sz:Nat} {xs:List α}:elems σ sz (.d (.y8 sz (xs.map f)))=some (xs.map f):=by simp [elems]
theorem ab1 {s:List UInt8}:elems σ 1 (.d (eS s))=some (s.map dX):=by simp [elems,bytesD]
theorem aeD {el:TypeId} {i:TypeInfo} {z:D} {k id sz:Nat} {xs ys:List α} {x:AV} {σ':List Ob} (un:P.underlying t=some (.slice el)) (hi:P.info? el=some i) (hz:zeroOf P el=some z) (hs:i.size=sz) (hzl:z.cells.length=sz∧i.bytes≠0)
  (h:σ[id]?=some (.row sz (xs.map f) true)) (hx:elems σ sz x=some (ys.map f)) (hr:(xs.length+ys.length)*i.bytes≤room) (hk:σ.length=k) (hσ:σ.set id .dead++[.row sz ((xs++ys).map f) true]=σ'):
  jm P σ t (.slc id sz 0 xs.length none) x=some (.slc k sz 0 (xs++ys).length none,σ'):=by
 subst hs
 simp only [jm,un,hi,hx,hz,hzl,ne_eq,not_false_eq_true,and_self,if_true,h,true_and,List.length_map,Nat.zero_add,Nat.le_refl,hr,List.drop_zero,hk]
 rw [List.take_of_length_le (by simp),← List.map_append,hσ,List.length_append]
theorem ajd {el:TypeId} {i:TypeInfo} {z:D} {k id sz off len:Nat} {xs ys:List α} {x:AV} {σ':List Ob} (un:P.underlying t=some (.slice el)) (hi:P.info? el=some i) (hz:zeroOf P el=some z) (hs:i.size=sz) (hzl:z.cells.length=sz∧i.bytes≠0)
  (h:σ[id]?=some (.row sz (xs.map f) true)) (hl:off+len≤xs.length) (hx:elems σ sz x=some (ys.map f)) (hr:(len+ys.length)*i.bytes≤room) (hk:σ.length=k) (hσ:σ.set id .dead++[.row sz (((xs.drop off).take len++ys).map f) true]=σ'):
  jm P σ t (.slc id sz off len none) x=some (.slc k sz 0 ((xs.drop off).take len++ys).length none,σ'):=by
 subst hs
 simp only [jm,un,hi,hx,hz,hzl,ne_eq,not_false_eq_true,and_self,if_true,h,true_and,List.length_map,hl,hr,hk]
 rw [← List.map_drop,← List.map_take,← List.map_append,hσ]
 have:((xs.drop off).take len).length=len:=by simp;omega
 rw [List.length_append,this]
theorem aje {el:TypeId} {i:TypeInfo} {z:D} {k sz:Nat} {ys:List α} {x:AV} {σ':List Ob} (un:P.underlying t=some (.slice el)) (hi:P.info? el=some i) (hz:zeroOf P el=some z) (hs:i.size=sz) (hzl:z.cells.length=sz∧i.bytes≠0)
  (hx:elems σ sz x=some (ys.map f)) (hr:ys.length*i.bytes≤room) (hk:σ.length=k) (hσ:σ++[.row sz (ys.map f) true]=σ'):
  jm P σ t (.d .dB) x=some (.slc k sz 0 ys.length none,σ'):=by
 subst hs
 simp only [jm,un,hi,hx,hz,hzl,ne_eq,not_false_eq_true,and_self,if_true,List.length_map,hr,hk,hσ]
theorem ahk {id off s:Nat} {x y:AV} {zs:List AV} {σ':List Ob} (hs:dF P t=some s) (hy:y.cells=zs) (hl:zs.length=s) (h1:zs.all AV.one=true) (h:σ[id]?=some (.box x)) (hx:x.isAgg=true) (ho:off+s≤x.cells.length) (hσ:σ.set id (.box (BR (over x.cells off zs)))=σ'):mg P σ t (.ref id 0 off) y=some σ':=by
 subst hy
 simp only [mg,hs,hl,h1,and_self,if_true,h,hx,ho,hσ]
theorem adS {id:Nat} {x y:AV} {σ':List Ob} (hs:dF P t=some 1) (hy:y.cells=[y]) (h1:y.one=true) (h:σ[id]?=some (.box x)) (hx:x.isAgg=false) (hc:x.cells.length=1) (hσ:σ.set id (.box y)=σ'):mg P σ t (.ref id 0 0) y=some σ':=by
 simp only [mg,hs,hy,List.length_cons,List.length_nil,List.all_cons,h1,List.all_nil,Bool.and_self,and_self,if_true,h,hx,hc,Nat.zero_add,Nat.le_refl,Bool.false_eq_true,if_false,hσ]
theorem adR {id idx sz:Nat} {xs:List α} {y:D} {v:α} {σ':List Ob} {o:α} (hs:dF P t=some 1) (hy:f v=y) (hc:y.cells=[y]) (ha:y.isAgg=false) (h:σ[id]?=some (.row sz (xs.map f) true)) (hx:xs[idx]?=some o) (hoc:(f o).isAgg=false) (hσ:σ.set id (.row sz ((xs.set idx v).map f) true)=σ'):mg P σ t (.ref id idx 0) (.d y)=some σ':=by
 subst hy
 have hcs:AV.cells (.d (f v))=[.d (f v)]:=by
  cases hv:f v with
  | agg cs=>rw [hv] at ha;cases ha
  | _=>rfl
 have hol:(f o).cells.length=1:=by
  cases hv:f o with
  | agg cs=>rw [hv] at hoc;cases hoc
  | _=>rfl
 have hone:AV.one (.d (f v))=true:=by simp [AV.one,ha]
 simp only [mg,hs,hcs,List.length_cons,List.length_nil,List.all_cons,hone,List.all_nil,Bool.and_self,and_self,if_true,h,lD,Lv.og,ha,Bool.false_eq_true,if_false,bI hx,hoc,hol,Nat.zero_add,Nat.le_refl]
 rw [← List.map_set,hσ]
theorem adQ {id idx off s sz:Nat} {xs:List α} {y:AV} {ds:List D} {v:α} {σ':List Ob} {o:α} {zs:List AV} (hs:dF P t=some s) (hy:y.cells=zs) (hl:zs.length=s) (h1:zs.all AV.one=true) (h:σ[id]?=some (.row sz (xs.map f) true)) (hfr:Lv.lD σ zs=some (ds,σ)) (hx:xs[idx]?=some o) (hoc:(f o).isAgg=true) (hof:off+s≤(f o).cells.length)
  (hv:D.agg (over (f o).cells off ds)=f v) (hσ:σ.set id (.row sz ((xs.set idx v).map f) true)=σ'):mg P σ t (.ref id idx off) y=some σ':=by
 subst hy
 simp only [mg,hs,hl,h1,and_self,if_true,h,hfr,bI hx,hoc,hof,hv]
 rw [← List.map_set,hσ]
theorem Qu {el t':TypeId} {s:List UInt8} {k:Nat} {σ':List Ob} (u:P.underlying t=some .string) (u':P.underlying t'=some (.slice el)) (u2:P.underlying el=some (.int .u8)) (ts:dF P el=some 1) (hk:σ.length=k) (hσ:σ++[.row 1 (s.map dX) true]=σ'):
  gy P σ t t' (.d (eS s))=some (.slc k 1 0 s.length none,σ'):=by
 simp only [gy,u,u',u2,ts,hk,rU]
 rw [← hσ]
 rfl
theorem GA:∀(l:List UInt8),bytesOf (l.map dX)=some l
 | []=>rfl
 | b::l=>by
  simp only [List.map_cons,bytesOf,byteOf,GA l]
  congr 2
  simp
theorem oN {el t':TypeId} {x:AV} {ys:List UInt8} (u:P.underlying t=some (.slice el)) (u':P.underlying t'=some .string) (u2:P.underlying el=some (.int .u8)) (hx:elems σ 1 x=some (ys.map dX)) (hn:∀s,x≠.d (.str s)):
  gy P σ t t' x=some (.d (eS ys),σ):=by
 simp only [gy,u,u',u2,hx,GA]
end
end Lv
/- Partial functions: parts, loops; how code meets them. -/
namespace Lv
open Go
theorem WC {α:Type} {l:List α} {i:Nat} {x:α} (h:l[i]?=some x):i < l.length:=by
 rcases Nat.lt_or_ge i l.length with k | k
 ·exact k
 ·rw [List.getElem?_eq_none k] at h;cases h
theorem ob {α β:Type} {o:Option α} {k:α→Option β} {r:β} (h:o.bind k=some r):∃v,o=some v∧k v=some r:=by
 cases o with
 | none=>cases h
 | some v=>exact ⟨v,rfl,h⟩
theorem ct {β:Type} {b:Bool} {x y:β} {z:β} (hb:b=true) (h:(bif b then x else y)=z):x=z:=by subst hb;exact h
theorem cf {β:Type} {b:Bool} {x y:β} {z:β} (hb:b=false) (h:(bif b then x else y)=z):y=z:=by subst hb;exact h
theorem gd {β:Type} {p:Prop} [Decidable p] {x:Option β} {r:β} (h:(bif decide p then x else none)=some r):p∧x=some r:=by
 by_cases hp:p
 ·rw [decide_eq_true hp] at h;exact ⟨hp,h⟩
 ·rw [decide_eq_false hp] at h;cases h
def bP {α:Type} (xs:List α) (i:Int):Option α:=if 0≤i then xs[i.toNat]? else none
theorem aB {α:Type} {xs:List α} {i:Int} {v:α} (h:bP xs i=some v):0≤i∧xs[i.toNat]?=some v:=by
 unfold bP at h
 split at h
 ·exact ⟨by assumption,h⟩
 ·cases h
theorem pO {α:Type} {xs:List α} {i:Int} {v:α} (h:bP xs i=some v):0≤i∧i < (xs.length:Int):=by
 obtain ⟨h1,h2⟩:=aB h
 have:=WC h2
 omega
def mP {α:Type} (xs:List α) (off len:Nat) (i:Int):Option α:=if 0≤i∧i < (len:Int) then xs[off+i.toNat]? else none
theorem dI {α:Type} {xs:List α} {off len:Nat} {i:Int} {v:α} (h:mP xs off len i=some v):(0≤i∧i < (len:Int))∧xs[off+i.toNat]?=some v:=by
 unfold mP at h
 split at h
 ·exact ⟨by assumption,h⟩
 ·cases h
def fP {Y E R:Type} (p:Option (Y⊕E)) (k:Y→Option R) (esc:E→Option R):Option R:=p.bind (Sum.elim k esc)
def mM {Y W:Type} (B:Y→Option (Y⊕W)):Nat→Y→Option W
 | 0,_=>none
 | n+1,y=>match B y with
  | none=>none
  | some (.inl y')=>mM B n y'
  | some (.inr w)=>some w
open Classical in
noncomputable def loop {Y W:Type} (B:Y→Option (Y⊕W)) (y:Y):Option W:=if h:∃w,∃n,mM B n y=some w then some h.choose else none
theorem Ew {Y W:Type} {B:Y→Option (Y⊕W)}:∀{n:Nat} {y:Y} {w:W},mM B n y=some w→∀k,mM B (n+k) y=some w
 | 0,y,w,h,k=>by cases h
 | n+1,y,w,h,k=>by
  have e:n+1+k=(n+k)+1:=by omega
  rw [e]
  simp only [mM] at h ⊢
  split at h
  ·cases h
  ·exact Ew h k
  ·exact h
theorem Yw {Y W:Type} {B:Y→Option (Y⊕W)} {n k:Nat} {y:Y} {w v:W} (h:mM B n y=some w) (h':mM B k y=some v):w=v:=by
 have h1:=Ew h k
 have h2:=Ew h' n
 rw [Nat.add_comm,h1] at h2
 exact Option.some.inj h2
theorem J8 {Y W:Type} {B:Y→Option (Y⊕W)} {n:Nat} {y:Y} {w:W} (h:mM B n y=some w):loop B y=some w:=by
 have hex:∃w,∃n,mM B n y=some w:=⟨w,n,h⟩
 unfold loop
 rw [dif_pos hex]
 obtain ⟨k,hk⟩:=hex.choose_spec
 rw [Yw hk h]
theorem CK {Y W:Type} {B:Y→Option (Y⊕W)} {y:Y} {w:W} (h:loop B y=some w):∃n,mM B n y=some w:=by
 unfold loop at h
 split at h
 ·rename_i hex
  rw [← Option.some.inj h]
  exact hex.choose_spec
 ·cases h
theorem gB {Y W:Type} {B:Y→Option (Y⊕W)} {y y':Y} (h:B y=some (.inl y')):loop B y=loop B y':=by
 cases h1:loop B y' with
 | some w=>
  obtain ⟨n,hn⟩:=CK h1
  exact J8 (n:=n+1) (by simp only [mM,h,hn])
 | none=>
  cases h2:loop B y with
  | none=>rfl
  | some w=>
   obtain ⟨n,hn⟩:=CK h2
   cases n with
   | zero=>cases hn
   | succ n=>
    simp only [mM,h] at hn
    rw [J8 hn] at h1
    cases h1
theorem fM {Y W:Type} {B:Y→Option (Y⊕W)} {y:Y} {w:W} (h:B y=some (.inr w)):loop B y=some w:=J8 (n:=1) (by simp only [mM,h])
theorem aei {Y W:Type} {B:Y→Option (Y⊕W)} (I:Y→Prop) (μ:Y→Nat) (G:Y→W) (h:∀y,I y→(∃y',B y=some (.inl y')∧I y'∧μ y' < μ y∧G y'=G y)∨B y=some (.inr (G y))):∀y,I y→loop B y=some (G y):=by
 have key:∀n y,μ y=n→I y→loop B y=some (G y):=by
  intro n
  induction n using Nat.strongRecOn with
  | ind n ih=>
   intro y hn hy
   rcases h y hy with ⟨y',h1,h2,h3,h4⟩ | h1
   ·rw [gB h1,← h4]
    exact ih (μ y') (hn▸h3) y' rfl h2
   ·exact fM h1
 exact fun y hy=>key _ y rfl hy
variable [bJ]
section
variable {P:Program} {m:Nat} {ops:Array Oper} {o:Oper} {l:List Oper} {n:Nat} {e:En} {σ σ':List Ob} {v:AV} {s:St} {a b c:Code} {Q:Ex→St→Prop}
theorem SC.dw {Y R:Type} {p:Option Y} {k:Y→Option R} {r:R} (h:p.bind k=some r) (S:Y→St) (ha:∀y,p=some y→SC P m a s (fun e s'=>match e with | .normal=>Wk m s' (S y) | e=>Q e s')) (hb:∀y,k y=some r→SC P m b (S y) Q):SC P m (.seq a b) s Q:=by
 obtain ⟨y,h1,h2⟩:=ob h
 refine SC.seq ((ha y h1).mono fun e s' hq=>?_)
 cases e with
 | normal=>exact SC.wk hq (hb y h2)
 | ret=>exact hq
 | exit i=>exact hq
theorem SC.seqB {Y E R:Type} {p:Option (Y⊕E)} {k:Y→Option R} {esc:E→Option R} {r:R} (h:fP p k esc=some r) (S:Y→St)
  (ha:∀u,p=some u→Sum.elim k esc u=some r→SC P m a s (fun e s'=>match e with | .normal=>∃y,u=.inl y∧Wk m s' (S y) | e=>Q e s')) (hb:∀y,k y=some r→SC P m b (S y) Q):SC P m (.seq a b) s Q:=by
 obtain ⟨u,h1,h2⟩:=ob h
 refine SC.seq ((ha u h1 h2).mono fun e s' hq=>?_)
 cases e with
 | normal=>
  obtain ⟨y,rfl,hw⟩:=hq
  exact SC.wk hw (hb y h2)
 | ret=>exact hq
 | exit i=>exact hq
theorem SC.eH {Y W:Type} {B:Y→Option (Y⊕W)} {y0:Y} {w:W} (h:Lv.loop B y0=some w) (S:Y→St) (h0:Wk m s (S y0))
  (k:∀n y v,B y=some v→Sum.elim (fun y'=>mM B n y'=some w) (fun w'=>w'=w) v→SC P m c (S y) (fun e s'=>match e with | .normal=>∃y',v=.inl y'∧Wk m s' (S y') | e=>Q e s')):SC P m (.loop c) s Q:=by
 obtain ⟨n,hn⟩:=CK h
 refine SC.WE S (fun n y=>mM B n y=some w) n y0 h0 hn fun n y hj=>?_
 cases n with
 | zero=>cases hj
 | succ n=>
  simp only [mM] at hj
  cases hB:B y with
  | none=>rw [hB] at hj;cases hj
  | some v=>
   rw [hB] at hj
   have hv:Sum.elim (fun y'=>mM B n y'=some w) (fun w'=>w'=w) v:=by
    cases v with
    | inl y'=>exact hj
    | inr w'=>exact Option.some.inj hj
   refine (k n y v hB hv).mono fun e s' hq=>?_
   cases e with
   | normal=>
    obtain ⟨y',rfl,hw⟩:=hq
    exact ⟨y',n,by omega,hw,hv⟩
   | ret=>exact hq
   | exit i=>exact hq
theorem SC.blk {i:Nat} (h:SC P m a s (fun e s1=>match e with | .exit j=>_root_.cond (Nat.beq j i) (Q .normal s1) (Q (.exit j) s1) | e=>Q e s1)):SC P m (.block i a) s Q:=by
 refine SC.block (h.mono fun e s1 hq=>?_)
 cases e with
 | normal=>exact hq
 | ret=>exact hq
 | exit j=>
  simp only at hq ⊢
  cases hb:Nat.beq j i with
  | true=>rw [hb] at hq;rw [if_pos (Nat.eq_of_beq_eq_true hb)];exact hq
  | false=>
   rw [hb] at hq
   rw [if_neg (fun e=>by subst e;simp at hb)]
   exact hq
theorem SC.anB {c:Operand} (hc:lo n e c=some (.d (.bool true))) (h:SC P m a ⟨mk n e,σ⟩ Q):SC P m (.cond c a b) ⟨mk n e,σ⟩ Q:=SC.cond (eG hc) (fun _=>h) (fun h=>by cases h)
theorem SC.anC {c:Operand} (hc:lo n e c=some (.d (.bool false))) (h:SC P m b ⟨mk n e,σ⟩ Q):SC P m (.cond c a b) ⟨mk n e,σ⟩ Q:=SC.cond (eG hc) (fun h=>by cases h) (fun _=>h)
theorem SC.anD {c:Operand} {t:Bool} (hc:lo n e c=some (.d (.bool t))) (h1:t=true→SC P m a ⟨mk n e,σ⟩ Q) (h2:t=false→SC P m b ⟨mk n e,σ⟩ Q):SC P m (.cond c a b) ⟨mk n e,σ⟩ Q:=SC.cond (eG hc) h1 h2
theorem lf {Y E:Type} {S:Y→St} {s':St} {y:Y} (h:Wk m s' (S y)):∃y',(Sum.inl y:Y⊕E)=.inl y'∧Wk m s' (S y'):=⟨y,rfl,h⟩
theorem EW.nil:EW e []:=trivial
theorem EW.cons {i:Nat} {y:AV} {r:En} (h:AW (lk e i) y) (k:EW e r):EW e ((i,y)::r):=⟨h,k⟩
theorem jX.nil:jX [] []:=trivial
theorem jX.cons {x y:AV} {xs ys:List AV} (h:AW x y) (k:jX xs ys):jX (x::xs) (y::ys):=⟨h,k⟩
theorem jX.refl:∀(l:List AV),jX l l
 | []=>trivial
 | x::l=>⟨AW.refl x,jX.refl l⟩
theorem AW.slc {id sz o o' l l':Nat} (h:o=o') (k:l=l'):AW (.slc id sz o l none) (.slc id sz o' l' none):=by subst h;subst k;exact AW.refl _
theorem AW.ase {id sz o o' l l':Nat} {c:Option Nat} (h:o=o') (k:l=l'):AW (.slc id sz o l c) (.slc id sz o' l' none):=by subst h;subst k;exact AW.cap _ _ _ _ _
structure EI (P:Program) (el:TypeId) (sz GD:Nat) (z:D):Prop where
 info:(P.info? el).map (fun i=>(i.size,i.bytes))=some (sz,GD)
 zero:zeroOf P el=some z
 len:z.cells.length=sz
 nz:GD≠0
 flat:z.cells.all (fun c=> !c.isAgg)=true
 pos:sz≠0
theorem EI.get {el:TypeId} {sz GD:Nat} {z:D} (E:EI P el sz GD z):∃i,P.info? el=some i∧i.size=sz∧i.bytes=GD:=by
 have:=E.info
 cases h:P.info? el with
 | none=>rw [h] at this;cases this
 | some i=>rw [h] at this;simp at this;exact ⟨i,rfl,this.1,this.2⟩
variable {t el:TypeId} {sz GD k id off len:Nat} {z:D} {α:Type} {f:α→D} {xs ys:List α} {x:AV}
theorem ajf (un:P.underlying t=some (.slice el)) (E:EI P el sz GD z) (h:σ[id]?=some (.row sz (xs.map f) true)) (hx:elems σ sz x=some (ys.map f)) (hr:(xs.length+ys.length)*GD≤room) (hk:σ.length=k) (hσ:σ.set id .dead++[.row sz ((xs++ys).map f) true]=σ'):
  jm P σ t (.slc id sz 0 xs.length none) x=some (.slc k sz 0 (xs++ys).length none,σ'):=by
 obtain ⟨i,h1,h2,h3⟩:=E.get
 exact aeD un h1 E.zero h2 ⟨E.len,by rw [h3];exact E.nz⟩ h hx (by rw [h3];exact hr) hk hσ
theorem aoP (un:P.underlying t=some (.slice el)) (E:EI P el sz GD z) (h:σ[id]?=some (.row sz (xs.map f) true)) (hl:off+len≤xs.length) (hx:elems σ sz x=some (ys.map f)) (hr:(len+ys.length)*GD≤room) (hk:σ.length=k) (hσ:σ.set id .dead++[.row sz (((xs.drop off).take len++ys).map f) true]=σ'):
  jm P σ t (.slc id sz off len none) x=some (.slc k sz 0 ((xs.drop off).take len++ys).length none,σ'):=by
 obtain ⟨i,h1,h2,h3⟩:=E.get
 exact ajd un h1 E.zero h2 ⟨E.len,by rw [h3];exact E.nz⟩ h hl hx (by rw [h3];exact hr) hk hσ
theorem aoQ (un:P.underlying t=some (.slice el)) (E:EI P el sz GD z) (hx:elems σ sz x=some (ys.map f)) (hr:ys.length*GD≤room) (hk:σ.length=k) (hσ:σ++[.row sz (ys.map f) true]=σ'):
  jm P σ t (.d .dB) x=some (.slc k sz 0 ys.length none,σ'):=by
 obtain ⟨i,h1,h2,h3⟩:=E.get
 exact aje un h1 E.zero h2 ⟨E.len,by rw [h3];exact E.nz⟩ hx (by rw [h3];exact hr) hk hσ
end
end Lv
/- Equality of structs with letters in them. -/
namespace Lv
open Go
section
variable {P:Program}
theorem Ef:pr P program=some P:=rfl
theorem aaL {α:Type} (c:Prop) [Decidable c] (s s':Sem α):pr P (if c then s else s')=if c then pr P s else pr P s':=by split <;> rfl
theorem Yh (d:Nat) (t:TypeId) (xs ys:Array Value) {fs:Array Field} (ht:P.underlying t=some (.struct fs)) (hp:P.stoodInHeld t=false):
  pr P (Op.equalIn (d+1) t (.agg xs) (.agg ys))=pr P (Op.eqFields d xs ys fs.toList):=by
 simp only [Op.equalIn,jh,gY ht,Option.bind_some,Ef,hp,Bool.false_eq_true,if_false]
 rw [← Array.forIn_toList]
 generalize fs.toList=fs
 clear ht
 induction fs with
 | nil=>simp [Op.eqFields,kC]
 | cons f fs ih=>
  simp only [List.forIn_cons,Op.eqFields,jh,aaL]
  split
  ·cases pr P (part f.type xs f.offset) with
   | none=>rfl
   | some a=>
    simp only [Option.bind_some]
    cases pr P (part f.type ys f.offset) with
    | none=>rfl
    | some b=>
     simp only [Option.bind_some]
     cases pr P (Op.equalIn d f.type a b) with
     | none=>rfl
     | some r=>
      cases r
      ·simp only [Option.bind_some,Bool.not_false,if_true,kC]
      ·simp only [Option.bind_some,Bool.not_true,Bool.false_eq_true,if_false,kC]
       exact ih
  ·simp only [kC,Option.bind_some]
   exact ih
theorem Yi (d:Nat) (t:TypeId) (a b:ByteArray) (h:P.underlying t=some .string):pr P (Op.equalIn (d+1) t (.string a) (.string b))=some (a.toList==b.toList):=by
 simp only [Op.equalIn,jh,gY h,Option.bind_some,kC,beq_toListBytes]
theorem Ux (d:Nat) (t:TypeId) (a b:Bool) (h:P.underlying t=some .bool):pr P (Op.equalIn (d+1) t (.bool a) (.bool b))=some (a==b):=by
 simp only [Op.equalIn,jh,gY h,Option.bind_some,kC]
theorem Oa (d:Nat) (t:TypeId) (k k':IntKind) (a b:Int) (h:P.underlying t=some (.int k')):pr P (Op.equalIn (d+1) t (.int k a) (.int k b))=some (a==b):=by
 simp only [Op.equalIn,jh,gY h,Option.bind_some,if_true,kC]
end
end Lv
/- Further words for printed walks. -/
namespace Lv
open Go
variable [bJ]
abbrev eL {α:Type} (sz:Nat) (f:α→D) (l:List α):D:=.y8 sz (l.map f)
section
variable {P:Program} {m:Nat} {o:Oper} {n:Nat} {e:En} {σ σ':List Ob} {v a b:AV} {t:TypeId} {s:St}
theorem AW.asB {id o o':Nat} (h:o=o'):AW (.ref id o 0) (.ref id o' 0):=by subst h;exact AW.refl _
theorem Wk.nI {env:List AV} (o:Ob) (ho:∀es,o≠.map es) (hσ:σ++[o]=σ'):Wk m ⟨env,σ⟩ ⟨env,σ'⟩:=hσ▸Wk.push o ho
theorem Wk.Vd {env:List AV} {id:Nat} {x y:AV} (h:σ[id]?=some (.box x)) (hw:jX x.cells y.cells) (hσ:σ.set id (.box y)=σ'):Wk m ⟨env,σ⟩ ⟨env,σ'⟩:=hσ▸Wk.box h hw
def mvg (i n k:Nat):Option Nat:=if k=i then some n else if k < n then some k else none
theorem Wk.move {e':En} {os:List Ob} {o:Ob} (i:Nat) (hi:i < σ.length) (hos:mK (mvg i σ.length) σ=some os) (he:eRe (mvg i σ.length) e=some e') (ho:os[i]?=some o) (hσ:os.set i .dead++[o]=σ'):Wk m ⟨mk n e,σ⟩ ⟨mk n e',σ'⟩:=by
 intro dZ dW w0 H0 ro μ w a hr
 subst hσ
 have hl:os.length=σ.length:=zD hos
 have hg:∀k j,mvg i σ.length k=some j→(if j=σ.length then μ i else μ j)=μ k:=by
  intro k j h
  unfold mvg at h
  split at h
  ·rename_i e;subst e;cases h;rw [if_pos rfl]
  ·split at h
   ·cases h;rw [if_neg (by omega)]
   ·cases h
 have hK:∀j,(hp (os.set i .dead++[o]) j).live=true→∃k,mvg i σ.length k=some j∧(hp σ k).re (mvg i σ.length)=some (hp (os.set i .dead++[o]) j):=by
  intro j hj
  rcases Nat.lt_trichotomy j σ.length with h | h | h
  ·have e1:(os.set i .dead++[o])[j]?=(os.set i .dead)[j]?:=List.getElem?_append_left (by simp;omega)
   by_cases hji:j=i
   ·subst hji
    have:hp (os.set j .dead++[o]) j=.dead:=dR (by rw [e1,List.getElem?_set,if_pos rfl,if_pos (by omega)])
    rw [this] at hj;simp [Ob.live] at hj
   ·have hjl:j < os.length:=by omega
    have e2:(os.set i .dead++[o])[j]?=some os[j]:=by rw [e1,List.getElem?_set,if_neg (fun q=>hji q.symm),List.getElem?_eq_getElem hjl]
    obtain ⟨x,k1,k2⟩:=yL hos j _ (List.getElem?_eq_getElem hjl)
    refine ⟨j,by unfold mvg;rw [if_neg hji,if_pos h],?_⟩
    rw [dR k1,dR e2];exact k2
  ·subst h
   have e2:(os.set i .dead++[o])[σ.length]?=some o:=by rw [List.getElem?_append_right (by simp;omega)];simp [hl]
   obtain ⟨x,k1,k2⟩:=yL hos i _ ho
   refine ⟨i,by unfold mvg;rw [if_pos rfl],?_⟩
   rw [dR k1,dR e2];exact k2
  ·rw [qg (by simp;omega)] at hj;simp [Ob.live] at hj
 refine ⟨ro,fun j=>if j=σ.length then μ i else μ j,hr.good.re hg hK,⟨by rw [hr.env.size,iI,iI],fun j y v hy hv=>?_⟩,fun id L h=>?_,hr.defers,hr.ext.trans (yx.re hg hK),fun id hid=>?_,by have:=hr.hm;simp at this ⊢;omega⟩
 ·obtain ⟨hj,rfl⟩:=CJ hy
  exact OI hg (hr.env.get j _ v (uV hj) hv) _ (Qq he j)
 ·split at h
  ·rename_i q;subst q;simp;omega
  ·have:=hr.dom id L h;simp at this ⊢;omega
 ·have:=hr.hm;simp at this
  rw [if_neg (by omega)]
  exact hr.keep id hid
variable {el:TypeId} {sz GD k id len:Nat} {z:D} {α:Type} {f:α→D} {xs ys:List α} {x:AV}
theorem ajo (hl:len=xs.length) (un:P.underlying t=some (.slice el)) (E:EI P el sz GD z) (h:σ[id]?=some (.row sz (xs.map f) true)) (hx:elems σ sz x=some (ys.map f)) (hr:(xs.length+ys.length)*GD≤room) (hk:σ.length=k) (hσ:σ.set id .dead++[.row sz ((xs++ys).map f) true]=σ'):
  jm P σ t (.slc id sz 0 len none) x=some (.slc k sz 0 (xs++ys).length none,σ'):=by
 subst hl;exact ajf un E h hx hr hk hσ
theorem bsl {len:Nat} {parts:List (Nat×AV)} {ds:List D} (un:P.underlying t=some (.slice el)) (E:EI P el sz GD z) (hl:len*sz≤16777216) (hp:parts.length=len) (ha:mh σ sz 0 parts=some (ds,σ)) (hk:σ.length=k) (hσ:σ++[.row sz ds true]=σ'):
  kH P σ t len parts=some (.slc k sz 0 len (some len),σ'):=by
 obtain ⟨i,h1,h2,h3⟩:=E.get
 have ts:dF P el=some sz:=by simp only [dF,h1,h2]
 simp only [kH,un,ts,E.zero,hl,hp,and_self,if_true,ha,hk,hσ]
theorem zF {el:TypeId} {X Y:Operand} (un:P.underlying t=some (.pointer el)) {id idx off:Nat}:cO P .eql t X Y (.ref id idx off) (.d .Ga)=some (.d (eB false)):=by
 simp only [cO,AV.val,un,Gb,if_true]
theorem CF {el:TypeId} {X Y:Operand} (un:P.underlying t=some (.pointer el)) {id idx off:Nat}:cO P .neq t X Y (.ref id idx off) (.d .Ga)=some (.d (eB true)):=by
 simp only [cO,AV.val,un,Gb,if_true]
variable (t)
variable (X Y:Operand)
theorem Zb (a b:Int):cO P .eql t X Y (.d (eI a)) (.d (eI b))=some (.d (eB (a==b))):=rfl
theorem Y5 (a b:Int):cO P .neq t X Y (.d (eI a)) (.d (eI b))=some (.d (eB (a != b))):=rfl
theorem Y7 (a b:Int):cO P .lss t X Y (.d (eI a)) (.d (eI b))=some (.d (eB (decide (a < b)))):=rfl
theorem Y8 (a b:Int):cO P .leq t X Y (.d (eI a)) (.d (eI b))=some (.d (eB (decide (a≤b)))):=rfl
theorem Y9 (a b:Int):cO P .gtr t X Y (.d (eI a)) (.d (eI b))=some (.d (eB (decide (a > b)))):=rfl
theorem Za (a b:Int):cO P .geq t X Y (.d (eI a)) (.d (eI b))=some (.d (eB (decide (a≥b)))):=rfl
theorem Zc (a b:Int):cO P .add t X Y (.d (eI a)) (.d (eI b))=some (.d (eI (bL (a+b)))):=rfl
theorem Y3 (a b:Int):cO P .sub t X Y (.d (eI a)) (.d (eI b))=some (.d (eI (bL (a - b)))):=rfl
theorem Y6 (a b:Int):cO P .mul t X Y (.d (eI a)) (.d (eI b))=some (.d (eI (bL (a*b)))):=rfl
theorem OD (a b:Int) (h:b≠0):cO P .quo t X Y (.d (eI a)) (.d (eI b))=some (.d (eI (bL (a.tdiv b)))):=by
 have hp:pr P (Op.intDiv .quo .i64 a b)=some (.int .i64 (bL (a.tdiv b))):=by unfold Op.intDiv;rw [if_neg h];rfl
 show (match pr P (Op.intDiv .quo .i64 a b) with | some v=>(match nJ v with | some x=>some (AV.d x) | none=>none) | none=>none)=_
 rw [hp];rfl
theorem OC (a b:Int) (h:b≠0):cO P .rem t X Y (.d (eI a)) (.d (eI b))=some (.d (eI (a.tmod b))):=by
 have hp:pr P (Op.intDiv .rem .i64 a b)=some (.int .i64 (a.tmod b)):=by unfold Op.intDiv;rw [if_neg h];rfl
 show (match pr P (Op.intDiv .rem .i64 a b) with | some v=>(match nJ v with | some x=>some (AV.d x) | none=>none) | none=>none)=_
 rw [hp];rfl
theorem Y4 (a:Int) (k:IntKind) {b:Int} (h:0≤b):cO P .shl t X Y (.d (eI a)) (.d (.int k b))=some (.d (eI (bL (a*2 ^ min b.toNat 64)))):=by
 have hp:pr P (Op.shift .shl .i64 a k b)=some (.int .i64 (bL (a*2 ^ min b.toNat 64))):=by unfold Op.shift;rw [if_neg (by omega)];rfl
 show (match pr P (Op.shift .shl .i64 a k b) with | some v=>(match nJ v with | some x=>some (AV.d x) | none=>none) | none=>none)=_
 rw [hp];rfl
end
section
variable {P:Program} {s d:TypeId} {σ:List Ob}
theorem ai5 {k l:IntKind} (hs:P.underlying s=some (.int k)) (hd:P.underlying d=some (.int l)) (n:Int):gy P σ s d (.d (.int k n))=some (.d (.int l (l.wrap n)),σ):=by
 have hp:pr P (convert s d (.int k n))=some (.int l (l.wrap n)):=by
  simp only [convert,jh,gY hs,gY hd,Option.bind_some]
  rfl
 simp only [gy,hs,hd,AV.val,D.val,D.cval,vK,hp]
 rfl
theorem Qt (k:IntKind) (hs:P.underlying s=some (.int k)) {l:IntKind} (hd:P.underlying d=some (.int l)) (n m:Int) (h:l.wrap n=m):gy P σ s d (.d (.int k n))=some (.d (.int l m),σ):=by
 rw [ai5 hs hd,h]
theorem Ox (hs:P.underlying s=some (.int .i64)) (hd:P.underlying d=some (.int .u8)) (n:Int):gy P σ s d (.d (eI n))=some (.d (dX (O5 n)),σ):=Qt _ hs hd _ _ (acn n)
theorem Ma (hs:P.underlying s=some (.int .i64)) (hd:P.underlying d=some (.int .u64)) (n:Int):gy P σ s d (.d (eI n))=some (.d (eX (uP n)),σ):=Qt _ hs hd _ _ (YK n)
theorem L8 (hs:P.underlying s=some (.int .u64)) (hd:P.underlying d=some (.int .i64)) (n:UInt64):gy P σ s d (.d (eX n))=some (.d (eI (Gh n)),σ):=Qt _ hs hd _ _ rfl
theorem qG (hs:P.underlying s=some (.int .u8)) (hd:P.underlying d=some (.int .i64)) (n:UInt8):gy P σ s d (.d (dX n))=some (.d (eI (n.toNat:Int)),σ):=Qt _ hs hd _ _ (by have:=Sj n;exact SB (by omega) (by omega))
theorem CS (hs:P.underlying s=some (.int .u8)) (hd:P.underlying d=some (.int .u64)) (n:UInt8):gy P σ s d (.d (dX n))=some (.d (eX n.toUInt64),σ):=Qt _ hs hd _ _ (by rw [wrap_u64,UInt8.toNat_toUInt64];have:=Sj n;omega)
theorem vP (hs:P.underlying s=some (.int .u64)) (hd:P.underlying d=some (.int .u8)) (n:UInt64):gy P σ s d (.d (eX n))=some (.d (dX n.toUInt8),σ):=Qt _ hs hd _ _ (by rw [wrap_u8,UInt64.toNat_toUInt8];omega)
theorem L6 (hs:P.underlying s=some (.int .u64)) (hd:P.underlying d=some (.int .u32)) (n:UInt64):gy P σ s d (.d (eX n))=some (.d (YG n.toUInt32),σ):=Qt _ hs hd _ _ (by rw [wrap_u32,UInt64.toNat_toUInt32];omega)
theorem L9 (hs:P.underlying s=some (.int .u32)) (hd:P.underlying d=some (.int .u16)) (n:UInt32):gy P σ s d (.d (YG n))=some (.d (YH n.toUInt16),σ):=Qt _ hs hd _ _ (by rw [wrap_u16,UInt32.toNat_toUInt16];omega)
theorem Ow (hs:P.underlying s=some (.int .u16)) (hd:P.underlying d=some (.int .u8)) (n:UInt16):gy P σ s d (.d (YH n))=some (.d (dX n.toUInt8),σ):=Qt _ hs hd _ _ (by rw [wrap_u8,UInt16.toNat_toUInt8];omega)
end
section
variable {P:Program} {t:TypeId}
theorem Ua {op:BinOp} {X Y:Operand} {a b:AV} {u v:Value} {r:Bool} {L:Nat} (ha:a.val=some u) (hb:b.val=some v) (hg:pr P (eqGuard op t X Y u v)=some ()) (hL:L≤10000) (h:∀d,pr P (Op.equalIn (d+L) t u v)=some r)
  (ho:(op=.eql∧binOp op t u v=(do pure (.bool (← Op.equal t u v))))∨(op=.neq∧binOp op t u v=(do pure (.bool (!(← Op.equal t u v)))))):cO P op t X Y a b=some (.d (eB (if op=.eql then r else !r))):=by
 have he:pr P (Op.equal t u v)=some r:=by
  have:=h (10000 - L)
  rw [Nat.sub_add_cancel hL] at this
  exact this
 simp only [cO,ha,hb,vK,jh,hg,Option.bind_some]
 rcases ho with ⟨rfl,h2⟩ | ⟨rfl,h2⟩
 ·rw [h2];simp only [jh,he,Option.bind_some,kC,if_true];rfl
 ·rw [h2];simp only [jh,he,Option.bind_some,kC];rfl
theorem Oo {op:BinOp} {X Y:Operand} {xs ys:Array Value} (hm:P.eqGuardType P.depth t=false):pr P (eqGuard op t X Y (.agg xs) (.agg ys))=some ():=by
 cases op <;> simp [eqGuard,jh,Ef,hm,kC]
theorem GK {X Y:Operand} {a b:AV} {xs ys:Array Value} {r:Bool} {L:Nat} (ha:a.val=some (.agg xs)) (hb:b.val=some (.agg ys)) (hm:P.eqGuardType P.depth t=false) (hL:L≤10000) (h:∀d,pr P (Op.equalIn (d+L) t (.agg xs) (.agg ys))=some r):cO P .eql t X Y a b=some (.d (eB r)):=
 Ua ha hb (Oo hm) hL h (.inl ⟨rfl,rfl⟩)
theorem Qz {X Y:Operand} {a b:AV} {xs ys:Array Value} {r:Bool} {L:Nat} (ha:a.val=some (.agg xs)) (hb:b.val=some (.agg ys)) (hm:P.eqGuardType P.depth t=false) (hL:L≤10000) (h:∀d,pr P (Op.equalIn (d+L) t (.agg xs) (.agg ys))=some r):cO P .neq t X Y a b=some (.d (eB !r)):=
 Ua ha hb (Oo hm) hL h (.inr ⟨rfl,rfl⟩)
theorem Vh (un:P.underlying t=some .bool) (X Y:Operand) (a b:Bool):cO P .neq t X Y (.d (eB a)) (.d (eB b))=some (.d (eB (a != b))):=
 Ua (u:=.bool a) (v:=.bool b) (L:=1) rfl rfl rfl (by decide) (fun d=>Ux d t a b un) (.inr ⟨rfl,rfl⟩)
def abS (f:Field):Bool×Nat×Nat:=(f.name== "_",f.type,f.offset)
inductive EqF (P:Program) (d:Nat) (xs ys:Array Value):List (Bool×Nat×Nat)→Bool→Prop
 | nil:EqF P d xs ys [] true
 | cons {ty off:Nat} {l:List (Bool×Nat×Nat)} {a b:Value} {r q:Bool} (h1:pr P (part ty xs off)=some a) (h2:pr P (part ty ys off)=some b) (h3:pr P (Op.equalIn d ty a b)=some r) (h4:EqF P d xs ys l q):EqF P d xs ys ((false,ty,off)::l) (r&&q)
theorem EqF.run {d:Nat} {xs ys:Array Value} {l:List (Bool×Nat×Nat)} {r:Bool} (h:EqF P d xs ys l r):∀{fs:List Field},fs.map abS=l→pr P (Op.eqFields d xs ys fs)=some r:=by
 induction h with
 | nil=>intro fs hf;cases fs with
  | nil=>rfl
  | cons f fs=>cases hf
 | cons h1 h2 h3 h4 ih=>
  intro fs hf
  cases fs with
  | nil=>cases hf
  | cons f fs=>
   simp only [List.map_cons,List.cons.injEq,abS,Prod.mk.injEq] at hf
   obtain ⟨⟨e1,rfl,rfl⟩,e2⟩:=hf
   have hn:f.name≠ "_" :=by simpa using e1
   simp only [Op.eqFields,hn,ne_eq,not_false_eq_true,if_true,jh,h1,h2,h3,Option.bind_some,aaL,ih e2,kC]
   split <;> simp_all
theorem Ot {d:Nat} {xs ys:Array Value} {l:List (Bool×Nat×Nat)} {r:Bool} (hu:P.underlying t=some (.struct (P.fieldsOf t))) (hf:(P.fieldsOf t).toList.map abS=l) (hp:P.stoodInHeld t=false) (h:EqF P d xs ys l r):pr P (Op.equalIn (d+1) t (.agg xs) (.agg ys))=some r:=by
 rw [Yh d t xs ys hu hp,h.run hf]
theorem aiY {d:Nat} (h:P.underlying t=some .string) (a b:List UInt8):pr P (Op.equalIn (d+1) t (.string ⟨a.toArray⟩) (.string ⟨b.toArray⟩))=some (a==b):=by rw [Yi d t _ _ h,kg,kg]
theorem Qp {d:Nat} (h:P.underlying t=some (.int .i64)) (a b:Int):pr P (Op.equalIn (d+1) t (.int .i64 a) (.int .i64 b))=some (a==b):=Oa d t _ _ a b h
theorem aiX {d:Nat} (h:P.underlying t=some (.int .u64)) (a b:UInt64):pr P (Op.equalIn (d+1) t (.int .u64 a.toNat) (.int .u64 b.toNat))=some (a==b):=by
 rw [Oa d t _ _ _ _ h];congr 1;rw [Bool.eq_iff_iff];simp only [beq_iff_eq,← UInt64.toNat_inj];omega
theorem N9 {g:Bool} (h:jB P t=some g):pr P (isAgg t)=some g:=by
 unfold jB at h
 split at h
 ·rename_i hu;cases h;simp [isAgg,jh,gY hu,kC]
 ·rename_i hu;cases h;simp [isAgg,jh,gY hu,kC]
 ·rename_i d h1 h2 hu
  cases h
  simp only [isAgg,jh,gY hu,Option.bind_some]
  all_goals (cases d <;> first | rfl | exact absurd rfl (h1 _) | exact absurd rfl (h2 _ _))
 ·cases h
theorem Ag {cs:Array Value} {off:Nat} {v:Value} (h:jB P t=some false) (hv:cs[off]?=some v):pr P (part t cs off)=some v:=by
 simp only [part,jh,N9 h,Option.bind_some,Bool.false_eq_true,if_false,hv,kC]
theorem afB {cs ds:Array Value} {off s:Nat} (h:jB P t=some true) (hs:dF P t=some s) (hv:cs.extract off (off+s)=ds):pr P (part t cs off)=some (.agg ds):=by
 have h2:pr P (Go.sizeOf t)=some s:=by
  unfold dF at hs
  split at hs
  ·rename_i i hi
   cases hs
   unfold Go.sizeOf
   simp [typeInfo,jh,Ef,hi,kC]
  ·cases hs
 simp only [part,jh,N9 h,Option.bind_some,if_true,h2,hv,kC]
end
section
variable {P:Program}
theorem Vb {t:TypeId} (un:P.underlying t=some (.int .i64)) (a b:Int):vK P (Builtin.max_ #[t,t] 0 #[.int .i64 a,.int .i64 b])=some (.d (eI (max a b))):=by
 have:pr P (Builtin.max_ #[t,t] 0 #[.int .i64 a,.int .i64 b])=some (.int .i64 (if b > a then b else a)):=rfl
 simp only [vK,this,nJ,Lh]
 congr 3
 show (if b > a then b else a)=max a b
 split <;> omega
end
section
variable {P:Program} {m n:Nat} {e:En} {σ σ1:List Ob} {s:St} {fn:Func} {r:AV} {rs:List AV}
inductive ES (P:Program) (n:Nat) (e:En) (σ:List Ob):List ResultVar→List AV→Prop
 | nil:ES P n e σ [] []
 | tmp {t:Tmp} {v:AV} {l:List ResultVar} {vs:List AV} (h:lo n e (.tmp t)=some v) (k:ES P n e σ l vs):ES P n e σ (.tmp t::l) (v::vs)
 | cell {a:Tmp} {t:TypeId} {p v:AV} {l:List ResultVar} {vs:List AV} (h:lo n e (.tmp a)=some p) (hl:mQ P σ t p=some v) (k:ES P n e σ l vs):ES P n e σ (.cell a t::l) (v::vs)
theorem aW:ES P n e σ [] []:=.nil
theorem bq {t:Tmp} {v:AV} {l:List ResultVar} {vs:List AV} (h:lo n e (.tmp t)=some v) (k:ES P n e σ l vs):ES P n e σ (.tmp t::l) (v::vs):=.tmp h k
theorem xE {a:Tmp} {t:TypeId} {p v:AV} {l:List ResultVar} {vs:List AV} (h:lo n e (.tmp a)=some p) (hl:mQ P σ t p=some v) (k:ES P n e σ l vs):ES P n e σ (.cell a t::l) (v::vs):=.cell h hl k
theorem ES.res {l:List ResultVar} (h:ES P n e σ l rs):jK P ⟨mk n e,σ⟩ l=some rs:=by
 induction h with
 | nil=>rfl
 | tmp h k ih=>
  have h':=eG h
  simp only [oM] at h'
  simp only [jK,h',ih]
 | cell h hl k ih=>
  have h':=eG h
  simp only [oM] at h'
  simp only [jK,h',hl,ih]
theorem bM (hk:Wk m s ⟨mk n e,σ1⟩) (hr:ES P n e σ1 fn.results.toList rs) (ho:F6 rs=r):∃s1,Wk m s s1∧Fin P fn r σ1 .ret s1:=⟨_,hk,.inr rfl,rs,hr.res,ho,rfl⟩
theorem vH (hk:Wk m s ⟨mk n e,σ1⟩) (hr:ES P n e σ1 fn.results.toList rs) (ho:F6 rs=r):∃s1,Wk m s s1∧Fin P fn r σ1 .normal s1:=⟨_,hk,.inl rfl,rs,hr.res,ho,rfl⟩
theorem yO {α:Type} {f:α→D} {id sz len:Nat} {xs:List α} {wr:Bool} (hl:len=xs.length) (h:σ[id]?=some (.row sz (xs.map f) wr)) {cap:Option Nat}:Lv.og σ (.slc id sz 0 len cap)=some (eL sz f xs,σ.set id (.row sz (xs.map f) false)):=by
 subst hl
 simp only [Lv.og,h,List.length_map,Nat.zero_add,Nat.le_refl,and_self,if_true,List.drop_zero]
 rw [List.take_of_length_le (by simp)]
theorem wP:Lv.lD σ []=some ([],σ):=rfl
theorem kX {x:D} {l:List AV} {ys:List D} (h:x.isAgg=false) (k:Lv.lD σ l=some (ys,σ1)):Lv.lD σ (.d x::l)=some (x::ys,σ1):=by
 simp only [Lv.lD,Lv.og,h,Bool.false_eq_true,if_false,k]
theorem kW {x:AV} {y:D} {σ2:List Ob} {l:List AV} {ys:List D} (h:Lv.og σ x=some (y,σ1)) (k:Lv.lD σ1 l=some (ys,σ2)):Lv.lD σ (x::l)=some (y::ys,σ2):=by
 simp only [Lv.lD,h,k]
end
end Lv
/- Contracts of frozen arguments serve for rows. -/
namespace Lv
open Go
variable [bJ]
inductive iX:List AV→List Ob→List AV→List Ob→Prop
 | nil (σ:List Ob):iX [] σ [] σ
 | keep {x:AV} {xs ys:List AV} {σ σ':List Ob} (h:iX xs σ ys σ'):iX (x::xs) σ (x::ys) σ'
 | aw {x y:AV} {xs ys:List AV} {σ σ':List Ob} (k:AW x y) (h:iX xs σ ys σ'):iX (x::xs) σ (y::ys) σ'
 | og {x:AV} {y:D} {xs ys:List AV} {σ σ1 σ':List Ob} (k:Lv.og σ x=some (y,σ1)) (h:iX xs σ1 ys σ'):iX (x::xs) σ (.d y::ys) σ'
 | lD {x:AV} {zs:List D} {xs ys:List AV} {σ σ1 σ':List Ob} (ha:x.isAgg=true) (k:Lv.lD σ x.cells=some (zs,σ1)) (h:iX xs σ1 ys σ'):iX (x::xs) σ (.d (.agg zs)::ys) σ'
 | YD {x y:AV} {zs:List D} {xs ys:List AV} {σ σ1 σ':List Ob} (ha:x.isAgg=true) (k:Lv.lD σ x.cells=some (zs,σ1)) (q:AW (.d (.agg zs)) y) (h:iX xs σ1 ys σ'):iX (x::xs) σ (y::ys) σ'
theorem iX.sound {args args1:List AV} {σ σ1:List Ob} (h:iX args σ args1 σ1):∀{ro:Ro} {μ:Mu} {w:World} {cs:List Value},Good ro μ w (hp σ)→cs.length=args.length→(∀(i:Nat) (x:AV) (v:Value),args[i]?=some x→cs[i]?=some v→VR ro μ x v)→
  ∃ro',Good ro' μ w (hp σ1)∧Ext ro μ w (hp σ) ro' μ w (hp σ1)∧args1.length=args.length∧(∀(i:Nat) (x:AV) (v:Value),args1[i]?=some x→cs[i]?=some v→VR ro' μ x v)∧σ1.length=σ.length:=by
 have tail:∀{ro qK:Ro} {μ:Mu} {w:World} {H H1:Hp} {x:AV} {xs:List AV} {c:Value} {cs:List Value},Ext ro μ w H qK μ w H1→(∀(i:Nat) (y:AV) (v:Value),(x::xs)[i]?=some y→(c::cs)[i]?=some v→VR ro μ y v)→
   (∀(i:Nat) (y:AV) (v:Value),xs[i]?=some y→cs[i]?=some v→VR qK μ y v):=fun e h i y v hy hv=>(h (i+1) y v (by simpa using hy) (by simpa using hv)).mono e.jC (fun _ _ h=>h)
 have cons:∀{ro:Ro} {μ:Mu} {x:AV} {xs:List AV} {c:Value} {cs:List Value},VR ro μ x c→(∀(i:Nat) (y:AV) (v:Value),xs[i]?=some y→cs[i]?=some v→VR ro μ y v)→(∀(i:Nat) (y:AV) (v:Value),(x::xs)[i]?=some y→(c::cs)[i]?=some v→VR ro μ y v):=by
  intro ro μ x xs c cs h k i y v hy hv
  cases i with
  | zero=>simp at hy hv;subst hy;subst hv;exact h
  | succ i=>exact k i y v (by simpa using hy) (by simpa using hv)
 induction h with
 | nil σ=>intro ro μ w cs g hl hv;exact ⟨ro,g,Ext.refl _ _ _ _,rfl,hv,rfl⟩
 | keep h ih=>
  intro ro μ w cs g hl hv
  cases cs with
  | nil=>simp at hl
  | cons c cs=>
   obtain ⟨ro',g',e',l',v',s'⟩:=ih g (by simpa using hl) (tail (Ext.refl ro μ w (hp [])) hv)
   exact ⟨ro',g',e',by simp [l'],cons ((hv 0 _ c rfl rfl).mono e'.jC (fun _ _ h=>h)) v',s'⟩
 | aw k h ih=>
  intro ro μ w cs g hl hv
  cases cs with
  | nil=>simp at hl
  | cons c cs=>
   obtain ⟨ro',g',e',l',v',s'⟩:=ih g (by simpa using hl) (tail (Ext.refl ro μ w (hp [])) hv)
   exact ⟨ro',g',e',by simp [l'],cons (k _ _ _ ((hv 0 _ c rfl rfl).mono e'.jC (fun _ _ h=>h))) v',s'⟩
 | og k h ih=>
  intro ro μ w cs g hl hv
  cases cs with
  | nil=>simp at hl
  | cons c cs=>
   obtain ⟨qK,g1,e1,d1,_,s1⟩:=sQ g (hv 0 _ c rfl rfl) k
   obtain ⟨ro',g',e',l',v',s'⟩:=ih g1 (by simpa using hl) (tail e1 hv)
   exact ⟨ro',g',e1.trans e',by simp [l'],cons ((VR.d _ _ d1).mono e'.jC (fun _ _ h=>h)) v',by omega⟩
 | lD ha k h ih=>
  intro ro μ w cs g hl hv
  cases cs with
  | nil=>simp at hl
  | cons c cs=>
   obtain ⟨C,rfl,hvs⟩:=CW (hv 0 _ c rfl rfl) ha
   obtain ⟨qK,g1,e1,hlen,hd,_,s1⟩:=nZ _ (vs:=C.toList) g (by simpa using hvs.size) (fun j z u hz hu=>hvs.get j z u hz (by simpa using hu)) k
   have hagg:VR qK μ (.d (.agg _)) (.agg C):=.d _ _ (.agg _ C (by rw [hvs.size,hlen]) (fun j z u hz hu=>hd j z u hz (by simpa using hu)))
   obtain ⟨ro',g',e',l',v',s'⟩:=ih g1 (by simpa using hl) (tail e1 hv)
   exact ⟨ro',g',e1.trans e',by simp [l'],cons (hagg.mono e'.jC (fun _ _ h=>h)) v',by omega⟩
 | YD ha k q h ih=>
  intro ro μ w cs g hl hv
  cases cs with
  | nil=>simp at hl
  | cons c cs=>
   obtain ⟨C,rfl,hvs⟩:=CW (hv 0 _ c rfl rfl) ha
   obtain ⟨qK,g1,e1,hlen,hd,_,s1⟩:=nZ _ (vs:=C.toList) g (by simpa using hvs.size) (fun j z u hz hu=>hvs.get j z u hz (by simpa using hu)) k
   have hagg:VR qK μ (.d (.agg _)) (.agg C):=.d _ _ (.agg _ C (by rw [hvs.size,hlen]) (fun j z u hz hu=>hd j z u hz (by simpa using hu)))
   obtain ⟨ro',g',e',l',v',s'⟩:=ih g1 (by simpa using hl) (tail e1 hv)
   exact ⟨ro',g',e1.trans e',by simp [l'],cons (q _ _ _ (hagg.mono e'.jC (fun _ _ h=>h))) v',by omega⟩
theorem aT.og {P:Program} {f:FuncId} {args args1:List AV} {σ σ1 σ2:List Ob} {r:AV} (hf:iX args σ args1 σ1) (h:aT P f args1 σ1 r σ2):aT P f args σ r σ2:=by
 intro ro μ w fG g hdom hV
 obtain ⟨qK,g1,e1,l1,v1,s1⟩:=hf.sound (cs:=fG.toList) g (by simpa using hV.size) (fun i x v hx hv=>hV.get i x v hx (by simpa using hv))
 refine (h qK μ w fG g1 (fun id L hL=>by rw [s1];exact hdom id L hL) ⟨by rw [hV.size,l1],fun i x v hx hv=>v1 i x v hx (by simpa using hv)⟩).mono ?_
 rintro e w' ⟨v,ro',μ',he,k1,k2,k3,k4,k5⟩
 exact ⟨v,ro',μ',he,k1,k2,(e1.Ri).trans k3,k4,fun id hid=>k5 id (by rw [s1];exact hid)⟩
theorem aT.frame {P:Program} {f:FuncId} {args args':List AV} {σ lF σ2 os σ':List Ob} {ι:List Nat} {r r':AV} (hcan:canon σ (kN args)=some (ι,lF)) (hre:AY (fD ι) args=some args') (hc:aT P f args' lF r' σ2)
  (hr:r'.re (jv ι σ.length σ2.length)=some r) (hos:mK (jv ι σ.length σ2.length) σ2=some os) (hle:ι.length≤os.length) (hσ:jO σ ι (os.take ι.length)++os.drop ι.length=σ'):aT P f args σ r σ':=by
 intro ro μ w fG g hdom hV
 have hs:single f args' lF r' σ2 f args' lF=some (r',σ2):=by unfold single;rw [if_pos ⟨rfl,rfl,rfl⟩]
 have hin:oh (single f args' lF r' σ2) f args σ=some (r,σ'):=by simp only [oh,hcan,hre,hs,hr,hos,hle,if_true,hσ]
 obtain ⟨hlen,EA⟩:=vJ (vM hc) hin g (fun id h1 _=>by
  cases hm:μ id with
  | none=>rfl
  | some L=>have:=hdom id L hm;omega) hV
 refine EA.mono ?_
 rintro e w' ⟨v,ro',μ',he,k1,k2,k3,k4⟩
 refine ⟨v,ro',μ',he,k1,k2,k3.Ri,fun id L hL=>?_,fun id hid=>?_⟩
 ·by_cases h:μ' id=μ id
  ·have:=hdom id L (h▸hL);omega
  ·exact (k4 id h).2
 ·by_cases h:μ' id=μ id
  ·exact h
  ·have:=(k4 id h).1;omega
end Lv
/- Short words for printed walks. -/
namespace Lv
open Go
variable [bJ]
def lkq:En→Nat→Option AV
 | [],_=>none
 | (j,v)::r,i=>bif Nat.beq j i then some v else lkq r i
theorem aa1:∀{e:En} {i:Nat} {v:AV},lkq e i=some v→lk e i=v
 | [],_,_,h=>by cases h
 | (j,x)::r,i,v,h=>by
  simp only [lkq] at h
  simp only [lk]
  cases hb:Nat.beq j i with
  | true=>rw [hb] at h;exact Option.some.inj h
  | false=>rw [hb] at h;exact aa1 h
def lq (n:Nat) (e:En):Operand→Option AV
 | .tmp t=>bif Nat.blt t n then lkq e t else none
 | .const v=>match nJ v with
  | some x=>some (.d x)
  | none=>none
 | .func f=>some (.fn (.func f) [] [])
 | .global _=>none
theorem fE {n:Nat} {e:En} {x:Operand} {v:AV} (h:lq n e x=some v):lo n e x=some v:=by
 cases x with
 | tmp t=>
  simp only [lq] at h
  simp only [lo]
  cases hb:Nat.blt t n with
  | true=>rw [hb] at h;simp only [cond_true] at h ⊢;rw [aa1 h]
  | false=>rw [hb] at h;cases h
 | const v'=>exact h
 | func f=>exact h
 | global g=>cases h
def Sk (n:Nat) (e:En):List Operand→Option (List AV)
 | []=>some []
 | x::r=>match lq n e x,Sk n e r with
  | some v,some vs=>some (v::vs)
  | _,_=>none
theorem lX {n:Nat} {e:En}:∀{l:List Operand} {vs:List AV},Sk n e l=some vs→los n e l=some vs
 | [],vs,h=>h
 | x::r,vs,h=>by
  simp only [Sk] at h
  split at h
  ·rename_i v vs' h1 h2
   simp only [los,fE h1,lX h2]
   exact h
  ·cases h
def lqp (n:Nat) (e:En):List (Nat×Operand)→Option (List (Nat×AV))
 | []=>some []
 | (i,x)::r=>match lq n e x,lqp n e r with
  | some v,some vs=>some ((i,v)::vs)
  | _,_=>none
theorem LA {n:Nat} {e:En}:∀{l:List (Nat×Operand)} {vs:List (Nat×AV)},lqp n e l=some vs→UJ n e l=some vs
 | [],vs,h=>h
 | (i,x)::r,vs,h=>by
  simp only [lqp] at h
  split at h
  ·rename_i v vs' h1 h2
   simp only [UJ,fE h1,LA h2]
   exact h
  ·cases h
def lqo (n:Nat) (e:En):Option Operand→Option (Option AV)
 | none=>some none
 | some y=>match lq n e y with
  | some v=>some (some v)
  | none=>none
theorem PX {n:Nat} {e:En} {x:Option Operand} {v:Option AV} (h:lqo n e x=some v):loo n e x=some v:=by
 cases x with
 | none=>exact h
 | some y=>
  simp only [lqo] at h
  split at h
  ·rename_i v' hv;simp only [loo,fE hv];exact h
  ·cases h
def M7:List Ob→Nat→Ob→Option (List Ob)
 | [],_,_=>none
 | _::r,0,o=>some (o::r)
 | x::r,i+1,o=>match M7 r i o with
  | some l=>some (x::l)
  | none=>none
theorem um:∀{σ:List Ob} {i:Nat} {o:Ob} {l:List Ob},M7 σ i o=some l→σ.set i o=l
 | [],_,_,_,h=>by cases h
 | x::r,0,o,l,h=>Option.some.inj h
 | x::r,i+1,o,l,h=>by
  simp only [M7] at h
  split at h
  ·rename_i l' hl;cases h;rw [List.set_cons_succ,um hl]
  ·cases h
def XM:List Ob→Ob→Nat→Option (List Ob)
 | [],o,0=>some [o]
 | x::r,o,k+1=>match XM r o k with
  | some l=>some (x::l)
  | none=>none
 | _,_,_=>none
theorem rY:∀{σ:List Ob} {o:Ob} {k:Nat} {l:List Ob},XM σ o k=some l→σ.length=k∧σ++[o]=l
 | [],o,0,l,h=>by simp only [XM,Option.some.injEq] at h;exact ⟨rfl,by simp [h]⟩
 | [],o,k+1,l,h=>by simp [XM] at h
 | x::r,o,0,l,h=>by simp [XM] at h
 | x::r,o,k+1,l,h=>by
  simp only [XM] at h
  split at h
  ·rename_i l' hl;cases h;obtain ⟨h1,h2⟩:=rY hl;exact ⟨by simp [h1],by simp [h2]⟩
  ·cases h
def mvq (σ:List Ob) (i:Nat) (o:Ob) (k:Nat):Option (List Ob):=match M7 σ i .dead with
 | some l=>XM l o k
 | none=>none
theorem PV {σ l:List Ob} {i k:Nat} {o:Ob} (h:mvq σ i o k=some l):σ.length=k∧σ.set i .dead++[o]=l:=by
 unfold mvq at h
 split at h
 ·rename_i l' hl
  have e:=um hl
  obtain ⟨h1,h2⟩:=rY h
  subst e
  exact ⟨by simpa using h1,h2⟩
 ·cases h
section
variable {P:Program} {m:Nat} {n:Nat} {e:En} {σ σ':List Ob} {v a b:AV} {t:TypeId} {x y:Operand}
def Yl (P:Program) (n:Nat) (e:En) (σ:List Ob) (op:Op) (v:AV) (σ':List Ob):Prop:=∃v0,(∀(o:Oper),o.op=op→∀call,kQ P call (mk n e) σ o=some (v0,σ'))∧AW v0 v
theorem Yl.of {op:Op} (h:∀(o:Oper),o.op=op→∀call,kQ P call (mk n e) σ o=some (v,σ')):Yl P n e σ op v σ':=⟨v,h,AW.refl v⟩
theorem Yl.w {op:Op} {v':AV} (h:∀(o:Oper),o.op=op→∀call,kQ P call (mk n e) σ o=some (v,σ')) (k:AW v v'):Yl P n e σ op v' σ':=⟨v,h,k⟩
theorem mv (hx:lq n e x=some v):Yl P n e σ (.move x) v σ:=.of fun o ho=>ajp ho (fE hx)
theorem jA (hx:lq n e x=some v):Yl P n e σ (.assign x) v σ:=.of fun o ho=>acZ ho (fE hx)
theorem pkt {z:Operand} (hz:lq n e z=some (.d (.bool true))) (hx:lq n e x=some v):Yl P n e σ (.pick z x y) v σ:=.of fun o ho=>aeR ho (fE hz) (fE hx)
theorem eT {z:Operand} (hz:lq n e z=some (.d (.bool false))) (hy:lq n e y=some v):Yl P n e σ (.pick z x y) v σ:=.of fun o ho=>aeS ho (fE hz) (fE hy)
theorem yA {k:Nat} {z:D} (hz:zeroOf P t=some z) (hσ:XM σ (.box (.d z)) k=some σ'):Yl P n e σ (.alloc t) (.ref k 0 0) σ':=.of fun o ho=>aeV ho hz (rY hσ).1 (rY hσ).2
theorem nN {k:Nat} (hx:lq n e x=some v) (hv:v.P7=false) (hσ:XM σ (.box v) k=some σ'):Yl P n e σ (.box t x) (.ref k 0 0) σ':=.of fun o ho=>aoZ ho (fE hx) hv (rY hσ).1 (rY hσ).2
theorem vg {ps:Array (Nat×Operand)} {parts:List (Nat×AV)} (hp:lqp n e ps.toList=some parts) (hb:iD P t parts=some v):Yl P n e σ (.build t ps) v σ:=.of fun o ho=>aeU ho (LA hp) hb
theorem rX {len:Nat} {ps:Array (Nat×Operand)} {parts:List (Nat×AV)} {el:TypeId} {sz GD k:Nat} {z:D} {ds:List D} {off l':Nat} (hp:lqp n e ps.toList=some parts) (un:P.underlying t=some (.slice el)) (E:EI P el sz GD z) (hl:Nat.ble (len*sz) 16777216=true) (hn:parts.length=len)
  (ha:mh σ sz 0 parts=some (ds,σ)) (ho':0=off) (hl':len=l') (hσ:XM σ (.row sz ds true) k=some σ'):Yl P n e σ (.buildSlice t len ps) (.slc k sz off l' none) σ':=
 .w (fun o ho=>QN ho (LA hp) (bsl un E (Nat.le_of_ble_eq_true hl) hn ha (rY hσ).1 (rY hσ).2)) (AW.ase ho' hl')
theorem bK (hx:lq n e x=some a) (hl:mQ P σ t a=some v):Yl P n e σ (.load t x) v σ:=.of fun o ho=>ajq ho (fE hx) hl
theorem jF (hx:lq n e x=some a) (hy:lq n e y=some b) (hs:mg P σ t a b=some σ'):Yl P n e σ (.store t x y) (.tuple []) σ':=.of fun o ho=>aeP ho (fE hx) (fE hy) hs
theorem lu {id idx off:Nat} (hx:lq n e x=some (.ref id idx off)):Yl P n e σ (.nilCheck x) (.ref id idx off) σ:=.of fun o ho=>acX ho (fE hx)
theorem nkp {cs:List D} (hx:lq n e x=some (.rop cs)):Yl P n e σ (.nilCheck x) (.rop cs) σ:=.of fun o ho=>acW ho (fE hx)
theorem bi {op:BinOp} {t':TypeId} (hx:lq n e x=some a) (hy:lq n e y=some b) (hb:∀X Y,cO P op t X Y a b=some v):Yl P n e σ (.binOp op t x y t') v σ:=.of fun o ho=>ao0 ho (fE hx) (fE hy) hb
theorem uo {op:UnOp} {w:Value} (hx:lq n e x=some a) (hw:a.val=some w) (hb:vK P (Op.unary op w)=some v):Yl P n e σ (.unOp op t x) v σ:=.of fun o ho=>aoW ho (fE hx) hw hb
theorem nt {b:Bool} (hx:lq n e x=some (.d (eB b))):Yl P n e σ (.unOp .not t x) (.d (eB (!b))) σ:=.of fun o ho=>aoW ho (fE hx) rfl rfl
theorem AZ {t':TypeId} (hx:lq n e x=some a) (hb:gy P σ t t' a=some (v,σ')):Yl P n e σ (.convert t t' x) v σ':=.of fun o ho=>acY ho (fE hx) hb
theorem cvs {t' el:TypeId} {s:List UInt8} {k:Nat} (hx:lq n e x=some (.d (eS s))) (u:P.underlying t=some .string) (u':P.underlying t'=some (.slice el)) (u2:P.underlying el=some (.int .u8)) (ts:dF P el=some 1) (hσ:XM σ (.row 1 (s.map dX) true) k=some σ'):Yl P n e σ (.convert t t' x) (.slc k 1 0 s.length none) σ':=
 .of fun o ho=>acY ho (fE hx) (Qu u u' u2 ts (rY hσ).1 (rY hσ).2)
theorem far {f id idx off k ty fo s:Nat} (hx:lq n e x=some (.ref id idx off)) (hf:FO P t f ty fo) (hs:dF P ty=some (s+1)) (hk:Nat.beq (off+fo) k=true):Yl P n e σ (.fieldAddr t x f) (.ref id idx k) σ:=
 .of fun o ho=>Ji ho (fE hx) (aiW hf hs (Nat.eq_of_beq_eq_true hk))
def drq:List D→Nat→Option (List D)
 | l,0=>some l
 | [],_+1=>none
 | _::r,k+1=>drq r k
theorem ab4:∀{l:List D} {k:Nat} {r:List D},drq l k=some r→l.drop k=r
 | l,0,r,h=>by simp only [drq,Option.some.injEq] at h;simp [h]
 | [],k+1,r,h=>by cases h
 | x::l,k+1,r,h=>by simp only [drq] at h;rw [List.drop_succ_cons];exact ab4 h
theorem fap {f ty fo s:Nat} {cs ds:List D} (hx:lq n e x=some (.rop cs)) (hf:FO P t f ty fo) (hs:dF P ty=some (s+1)) (hd:drq cs fo=some ds):Yl P n e σ (.fieldAddr t x f) (.rop ds) σ:=
 .of fun o ho=>Ji ho (fE hx) (aiV hf hs (ab4 hd))
theorem SA {el:TypeId} {id s off len:Nat} {cap:Option Nat} {i:Int} (hx:lq n e x=some (.slc id s off len cap)) (hy:lq n e y=some (.d (eI i))) (hu:P.underlying t=some (.slice el)) (hs:dF P el=some s) (hi:0≤i∧i < (len:Int)):Yl P n e σ (.indexAddr t x y) (.ref id (off+i.toNat) 0) σ:=
 .of fun o ho=>xM ho (fE hx) (fE hy) (aa7 hu hs hi)
theorem Yz {el:TypeId} {id s len:Nat} {cap:Option Nat} {i:Int} (hx:lq n e x=some (.slc id s 0 len cap)) (hy:lq n e y=some (.d (eI i))) (hu:P.underlying t=some (.slice el)) (hs:dF P el=some s) (hi:0≤i∧i < (len:Int)):Yl P n e σ (.indexAddr t x y) (.ref id i.toNat 0) σ:=
 .w (fun o ho=>xM ho (fE hx) (fE hy) (aa7 hu hs hi)) (AW.asB (Nat.zero_add _))
def ai7:D→Option (List D)
 | .agg cs=>some cs
 | x=>some [x]
theorem aey {d:D} {cs:List D} (h:ai7 d=some cs):d.cells=cs:=by
 cases d <;> simp only [ai7,Option.some.injEq] at h <;> exact h
theorem kV {el:TypeId} {s:Nat} {xs:List D} {i:Int} {d:D} {cs:List D} (hx:lq n e x=some (.d (.y8 s xs))) (hy:lq n e y=some (.d (eI i))) (hu:P.underlying t=some (.slice el)) (hs:dF P el=some s) (hi:0≤i) (hd:xs[i.toNat]?=some d) (hc:ai7 d=some cs):Yl P n e σ (.indexAddr t x y) (.rop cs) σ:=
 .of fun o ho=>xM ho (fE hx) (fE hy) (aey hc▸ahI hu hs hi hd)
theorem ixs {u w:Value} (hx:lq n e x=some a) (hy:lq n e y=some b) (hu:a.val=some u) (hw:b.val=some w) (hb:vK P (Instr.index t u w)=some v):Yl P n e σ (.index t x y) v σ:=
 .of fun o ho=>aeT ho (fE hx) (fE hy) hu hw hb
theorem NT {lo' hi' mx':Option Operand} {l h k:Option AV} (hx:lq n e x=some a) (hl:lqo n e lo'=some l) (hh:lqo n e hi'=some h) (hm:lqo n e mx'=some k) (hb:aslice P t a l h k=some v):Yl P n e σ (.slice t x lo' hi' mx') v σ:=
 .of fun o ho=>aeQ ho (fE hx) (PX hl) (PX hh) (PX hm) hb
theorem mkf {f:Fn} {first caps:Array Operand} {xs ys:List AV} (hx:Sk n e first.toList=some xs) (hy:Sk n e caps.toList=some ys):Yl P n e σ (.makeFunc f first caps) (.fn f xs ys) σ:=.of fun o ho=>Vt ho (lX hx) (lX hy)
theorem ext {i:Nat} {vs:List AV} (hx:lq n e x=some (.tuple vs)) (hv:vs[i]?=some v):Yl P n e σ (.extract x i) v σ:=.of fun o ho=>Zo ho (fE hx) hv
theorem len {cl:Call} (hb:cl.callee=.builtin .len) (ht:cl.argTypes[0]?=some t) (hx:Sk n e cl.args.toList=some [a]) (hl:Mq P t a=some v):Yl P n e σ (.call cl) v σ:=.of fun o ho=>aoY ho hb ht (lX hx) hl
theorem app {cl:Call} {t2:TypeId} (hb:cl.callee=.builtin .append) (ht:cl.argTypes[0]?=some t) (ht2:cl.argTypes[1]?=some t2) (hx:Sk n e cl.args.toList=some [a,b]) (hn:jl P t2=false) (hl:jm P σ t a b=some (v,σ')):Yl P n e σ (.call cl) v σ':=
 .of fun o ho=>ac0 ho hb ht ht2 (lX hx) hn hl
theorem mxo {cl:Call} {vs:List AV} {us:List Value} (hb:cl.callee=.builtin .max) (hx:Sk n e cl.args.toList=some vs) (hu:qM vs=some us) (hl:vK P (Builtin.max_ cl.argTypes 0 us.toArray)=some v):Yl P n e σ (.call cl) v σ:=.of fun o ho=>aoX ho hb (lX hx) hu hl
section
variable {el:TypeId} {sz GD k id len off:Nat} {z:D} {α:Type} {f:α→D} {xs ys:List α} {w:AV}
theorem aF (hl:len=xs.length) (un:P.underlying t=some (.slice el)) (E:EI P el sz GD z) (h:σ[id]?=some (.row sz (xs.map f) true)) (hx:elems σ sz w=some (ys.map f)) (hr:(xs.length+ys.length)*GD≤room) (hσ:mvq σ id (.row sz ((xs++ys).map f) true) k=some σ'):
  jm P σ t (.slc id sz 0 len none) w=some (.slc k sz 0 (xs++ys).length none,σ'):=ajo hl un E h hx hr (PV hσ).1 (PV hσ).2
theorem aS (un:P.underlying t=some (.slice el)) (E:EI P el sz GD z) (h:σ[id]?=some (.row sz (xs.map f) true)) (hl:off+len≤xs.length) (hx:elems σ sz w=some (ys.map f)) (hr:(len+ys.length)*GD≤room) (hσ:mvq σ id (.row sz (((xs.drop off).take len++ys).map f) true) k=some σ'):
  jm P σ t (.slc id sz off len none) w=some (.slc k sz 0 ((xs.drop off).take len++ys).length none,σ'):=aoP un E h hl hx hr (PV hσ).1 (PV hσ).2
theorem aN (un:P.underlying t=some (.slice el)) (E:EI P el sz GD z) (hx:elems σ sz w=some (ys.map f)) (hr:ys.length*GD≤room) (hσ:XM σ (.row sz (ys.map f) true) k=some σ'):
  jm P σ t (.d .dB) w=some (.slc k sz 0 ys.length none,σ'):=aoQ un E hx hr (rY hσ).1 (rY hσ).2
theorem sB {s:Nat} {c d d':AV} (hs:dF P t=some s) (hl:d.cells.length=s) (h1:d.cells.all AV.one=true) (h:σ[id]?=some (.box c)) (hx:c.isAgg=true) (ho:Nat.ble (off+s) c.cells.length=true) (hd:BR (over c.cells off d.cells)=d') (hσ:M7 σ id (.box d')=some σ'):mg P σ t (.ref id 0 off) d=some σ':=
 ahk hs rfl hl h1 h hx (Nat.le_of_ble_eq_true ho) (by rw [hd];exact um hσ)
theorem sC {c d:AV} (hs:dF P t=some 1) (hy:d.cells=[d]) (h1:d.one=true) (h:σ[id]?=some (.box c)) (hx:c.isAgg=false) (hc:c.cells.length=1) (hσ:M7 σ id (.box d)=some σ'):mg P σ t (.ref id 0 0) d=some σ':=
 adS hs hy h1 h hx hc (um hσ)
theorem sR {idx sz:Nat} {y:D} {v:α} {o:α} (hs:dF P t=some 1) (hy:f v=y) (hc:y.cells=[y]) (ha:y.isAgg=false) (h:σ[id]?=some (.row sz (xs.map f) true)) (hx:xs[idx]?=some o) (hoc:(f o).isAgg=false) (hσ:M7 σ id (.row sz ((xs.set idx v).map f) true)=some σ'):mg P σ t (.ref id idx 0) (.d y)=some σ':=
 adR hs hy hc ha h hx hoc (um hσ)
theorem sF {idx s sz:Nat} {y:AV} {ds:List D} {v:α} {o:α} (hs:dF P t=some s) (hl:y.cells.length=s) (h1:y.cells.all AV.one=true) (h:σ[id]?=some (.row sz (xs.map f) true)) (hfr:Lv.lD σ y.cells=some (ds,σ)) (hx:xs[idx]?=some o) (hoc:(f o).isAgg=true) (hof:Nat.ble (off+s) (f o).cells.length=true)
  (hv:D.agg (over (f o).cells off ds)=f v) (hσ:M7 σ id (.row sz ((xs.set idx v).map f) true)=some σ'):mg P σ t (.ref id idx off) y=some σ':=
 adQ hs rfl hl h1 h hfr hx hoc (Nat.le_of_ble_eq_true hof) hv (um hσ)
theorem fF {len:Nat} {wr:Bool} {cap:Option Nat} (hl:len=xs.length) (h:σ[id]?=some (.row sz (xs.map f) wr)) (hσ:M7 σ id (.row sz (xs.map f) false)=some σ'):Lv.og σ (.slc id sz 0 len cap)=some (eL sz f xs,σ'):=by
 rw [yO hl h,um hσ]
end
variable {ops:Array Oper} {l:List Oper} {d:Option Nat} {dd:Nat} {op:Op} {ty:TypeId} {pos:String} {af:Array Edge} {g:Option (Nat×Bool)}
theorem wf:Wanted ops n e ⟨d,op,ty,pos,af,none⟩ true:=Wanted.free rfl
theorem wb {j t:Nat} {w b c:Bool} (h1:(ops[j]?).bind (·.dst)=some t) (h2:lq n e (.tmp t)=some (.d (.bool b))) (h3:(b==w)=c):Wanted ops n e ⟨d,op,ty,pos,af,some (j,w)⟩ c:=Wanted.by rfl h1 (fE h2) h3
theorem wo {j t:Nat} {w:Bool} (h1:(ops[j]?).bind (·.dst)=some t) (h2:lq n e (.tmp t)=some (.tuple [])):Wanted ops n e ⟨d,op,ty,pos,af,some (j,w)⟩ false:=Wanted.out rfl h1 (fE h2)
theorem g1 {Q:St→Prop} (hw:Wanted ops n e ⟨some dd,op,ty,pos,af,g⟩ true) (ha:Yl P n e σ op v σ') (k:SO P m ops l ⟨mk n ((dd,v)::e),σ'⟩ Q):SO P m ops (⟨some dd,op,ty,pos,af,g⟩::l) ⟨mk n e,σ⟩ Q:=by
 obtain ⟨v0,h1,h2⟩:=ha
 exact SO.opW hw rfl (h1 _ rfl) h2 k
theorem g0 {Q:St→Prop} (hw:Wanted ops n e ⟨none,op,ty,pos,af,g⟩ true) (ha:Yl P n e σ op v σ') (k:SO P m ops l ⟨mk n e,σ'⟩ Q):SO P m ops (⟨none,op,ty,pos,af,g⟩::l) ⟨mk n e,σ⟩ Q:=by
 obtain ⟨v0,h1,h2⟩:=ha
 exact SO.op0 hw rfl (h1 _ rfl) k
theorem s1 {Q:St→Prop} (ha:Yl P n e σ op v σ') (k:SO P m ops l ⟨mk n ((dd,v)::e),σ'⟩ Q):SO P m ops (⟨some dd,op,ty,pos,af,none⟩::l) ⟨mk n e,σ⟩ Q:=g1 wf ha k
theorem s0 {Q:St→Prop} (ha:Yl P n e σ op v σ') (k:SO P m ops l ⟨mk n e,σ'⟩ Q):SO P m ops (⟨none,op,ty,pos,af,none⟩::l) ⟨mk n e,σ⟩ Q:=g0 wf ha k
theorem k1 {Q:St→Prop} (hw:Wanted ops n e ⟨some dd,op,ty,pos,af,g⟩ false) (k:SO P m ops l ⟨mk n ((dd,.tuple [])::e),σ⟩ Q):SO P m ops (⟨some dd,op,ty,pos,af,g⟩::l) ⟨mk n e,σ⟩ Q:=SO.skip hw rfl k
theorem k0 {Q:St→Prop} (hw:Wanted ops n e ⟨none,op,ty,pos,af,g⟩ false) (k:SO P m ops l ⟨mk n e,σ⟩ Q):SO P m ops (⟨none,op,ty,pos,af,g⟩::l) ⟨mk n e,σ⟩ Q:=SO.akx hw rfl k
variable {acc:List (List Nat×Bool)} {R:St→List (List Nat×Bool)→Prop}
theorem u1 (mk':List Nat×Bool) (hw:Wanted ops n e ⟨some dd,op,ty,pos,af,g⟩ true) (ha:Yl P n e σ op v σ') (hm:marked (mk n e) σ σ' ⟨some dd,op,ty,pos,af,g⟩=mk') (k:ST P ops l ⟨mk n ((dd,v)::e),σ'⟩ (mk'::acc) R):ST P ops (⟨some dd,op,ty,pos,af,g⟩::l) ⟨mk n e,σ⟩ acc R:=by
 obtain ⟨v0,h1,h2⟩:=ha
 exact ST.opW hw rfl (h1 _ rfl) h2 hm k
theorem u0 (mk':List Nat×Bool) (hw:Wanted ops n e ⟨none,op,ty,pos,af,g⟩ true) (ha:Yl P n e σ op v σ') (hm:marked (mk n e) σ σ' ⟨none,op,ty,pos,af,g⟩=mk') (k:ST P ops l ⟨mk n e,σ'⟩ (mk'::acc) R):ST P ops (⟨none,op,ty,pos,af,g⟩::l) ⟨mk n e,σ⟩ acc R:=by
 obtain ⟨v0,h1,h2⟩:=ha
 exact ST.op0 hw rfl (h1 _ rfl) hm k
theorem t1 (mk':List Nat×Bool) (ha:Yl P n e σ op v σ') (hm:marked (mk n e) σ σ' ⟨some dd,op,ty,pos,af,none⟩=mk') (k:ST P ops l ⟨mk n ((dd,v)::e),σ'⟩ (mk'::acc) R):ST P ops (⟨some dd,op,ty,pos,af,none⟩::l) ⟨mk n e,σ⟩ acc R:=u1 mk' wf ha hm k
theorem t0 (mk':List Nat×Bool) (ha:Yl P n e σ op v σ') (hm:marked (mk n e) σ σ' ⟨none,op,ty,pos,af,none⟩=mk') (k:ST P ops l ⟨mk n e,σ'⟩ (mk'::acc) R):ST P ops (⟨none,op,ty,pos,af,none⟩::l) ⟨mk n e,σ⟩ acc R:=u0 mk' wf ha hm k
theorem j1 (hw:Wanted ops n e ⟨some dd,op,ty,pos,af,g⟩ false) (k:ST P ops l ⟨mk n ((dd,.tuple [])::e),σ⟩ (([],false)::acc) R):ST P ops (⟨some dd,op,ty,pos,af,g⟩::l) ⟨mk n e,σ⟩ acc R:=ST.skip hw rfl k
def wtq (ops:Array Oper) (n:Nat) (e:En) (j:Nat) (w:Bool):Option Bool:=
 match (ops[j]?).bind (·.dst) with
 | some t=>match lq n e (.tmp t) with
  | some (.d (.bool b))=>some (b==w)
  | some (.tuple [])=>some false
  | _=>none
 | none=>none
theorem ww {j:Nat} {w c:Bool} (h:wtq ops n e j w=some c):Wanted ops n e ⟨d,op,ty,pos,af,some (j,w)⟩ c:=by
 unfold wtq at h
 split at h
 ·rename_i t ht
  split at h
  ·rename_i b hb
   exact wb ht hb (Option.some.inj h)
  ·rename_i hb
   cases h
   exact wo ht hb
  ·cases h
 ·cases h
theorem kw {Q:St→Prop} {j:Nat} {w:Bool} (h:wtq ops n e j w=some false) (k:SO P m ops l ⟨mk n ((dd,.tuple [])::e),σ⟩ Q):SO P m ops (⟨some dd,op,ty,pos,af,some (j,w)⟩::l) ⟨mk n e,σ⟩ Q:=k1 (ww h) k
theorem jw {j:Nat} {w:Bool} (h:wtq ops n e j w=some false) (k:ST P ops l ⟨mk n ((dd,.tuple [])::e),σ⟩ (([],false)::acc) R):ST P ops (⟨some dd,op,ty,pos,af,some (j,w)⟩::l) ⟨mk n e,σ⟩ acc R:=j1 (ww h) k
theorem gw {Q:St→Prop} {j:Nat} {w:Bool} (h:wtq ops n e j w=some true) (ha:Yl P n e σ op v σ') (k:SO P m ops l ⟨mk n ((dd,v)::e),σ'⟩ Q):SO P m ops (⟨some dd,op,ty,pos,af,some (j,w)⟩::l) ⟨mk n e,σ⟩ Q:=g1 (ww h) ha k
theorem sm {Q:St→Prop} (h:lq n e x=some v) (k:SO P m ops l ⟨mk n ((dd,v)::e),σ⟩ Q):SO P m ops (⟨some dd,.move x,ty,pos,af,none⟩::l) ⟨mk n e,σ⟩ Q:=s1 (mv h) k
theorem sa {Q:St→Prop} (h:lq n e x=some v) (k:SO P m ops l ⟨mk n ((dd,v)::e),σ⟩ Q):SO P m ops (⟨some dd,.assign x,ty,pos,af,none⟩::l) ⟨mk n e,σ⟩ Q:=s1 (jA h) k
theorem c0 {Q:St→Prop} {c:Call} {fo:Operand} {f:FuncId} {args:List AV} {r:AV} (hc:aT P f args [] r []) (hw:Wanted ops n e ⟨some dd,.call c,ty,pos,af,g⟩ true) (hargs:Sk n e c.args.toList=some args) (iP:c.callee=.value fo)
  (hfo:lq n e fo=some (.fn (.func f) [] [])) (hcb:callable P f=true) (hi:kN args=[]) (hre:∀h,AY h args=some args) (hr:∀h,r.re h=some r)
  (k:SO P m ops l ⟨mk n ((dd,r)::e),σ⟩ Q):SO P m ops (⟨some dd,.call c,ty,pos,af,g⟩::l) ⟨mk n e,σ⟩ Q:=
 SO.acj hw rfl rfl (lX hargs) iP (fE hfo) hcb hi hre hr hc k
theorem tr (ι:List Nat) (is:List Nat) {c:Call} {fo:Operand} {f:FuncId} {args first caps args':List AV} {lF σ2 os:List Ob} {r r':AV} (hc:aT P f args' lF r' σ2) (hw:Wanted ops n e ⟨some dd,.call c,ty,pos,af,g⟩ true) (hargs:Sk n e c.args.toList=some args) (iP:c.callee=.value fo)
  (hfo:lq n e fo=some (.fn (.func f) first caps)) (hcb:callable P f=true) (hcan:canon σ (kN (first++args++caps))=some (ι,lF)) (hre:AY (fD ι) (first++args++caps)=some args')
  (hr:r'.re (jv ι σ.length σ2.length)=some r) (hos:mK (jv ι σ.length σ2.length) σ2=some os) (hle:Nat.ble ι.length os.length=true) (hσ:jO σ ι (os.take ι.length)++os.drop ι.length=σ) (hm:(marked (mk n e) σ σ ⟨some dd,.call c,ty,pos,af,g⟩).1=is)
  (k:ST P ops l ⟨mk n ((dd,r)::e),σ⟩ ((is,false)::acc) R):ST P ops (⟨some dd,.call c,ty,pos,af,g⟩::l) ⟨mk n e,σ⟩ acc R:=
 ST.agP hw rfl rfl (lX hargs) iP (fE hfo) hcb hcan hre hc hr hos (Nat.le_of_ble_eq_true hle) hσ hm k
theorem Hg {c:Call} {fo:Operand} {f:FuncId} {args:List AV} {r:AV} (hc:aT P f args [] r []) (hw:Wanted ops n e ⟨some dd,.call c,ty,pos,af,g⟩ true) (hargs:Sk n e c.args.toList=some args) (iP:c.callee=.value fo)
  (hfo:lq n e fo=some (.fn (.func f) [] [])) (hcb:callable P f=true) (hi:kN args=[]) (hre:∀h,AY h args=some args) (hr:∀h,r.re h=some r)
  (k:ST P ops l ⟨mk n ((dd,r)::e),σ⟩ (([],true)::acc) R):ST P ops (⟨some dd,.call c,ty,pos,af,g⟩::l) ⟨mk n e,σ⟩ acc R:=
 ST.acj hw rfl rfl (lX hargs) iP (fE hfo) hcb hi hre hr hc k
theorem sp {β:Type} {w1 w2 z:β} {b:Bool} {Q:St→Prop} (h:(bif b then w1 else w2)=z) (ht:w1=z→SO P m ops l ⟨mk n ((dd,.d (.bool true))::e),σ⟩ Q) (hf:w2=z→SO P m ops l ⟨mk n ((dd,.d (.bool false))::e),σ⟩ Q):SO P m ops l ⟨mk n ((dd,.d (.bool b))::e),σ⟩ Q:=by
 cases b with
 | true=>exact ht h
 | false=>exact hf h
theorem tp {β:Type} {w1 w2 z:β} {b:Bool} (h:(bif b then w1 else w2)=z) (ht:w1=z→ST P ops l ⟨mk n ((dd,.d (.bool true))::e),σ⟩ acc R) (hf:w2=z→ST P ops l ⟨mk n ((dd,.d (.bool false))::e),σ⟩ acc R):ST P ops l ⟨mk n ((dd,.d (.bool b))::e),σ⟩ acc R:=by
 cases b with
 | true=>exact ht h
 | false=>exact hf h
variable {A B:Code} {Q:Ex→St→Prop} {s:St}
theorem cB {β:Type} {w1 w2 z:β} {b:Bool} {c:Operand} (h:(bif b then w1 else w2)=z) (hc:lq n e c=some (.d (.bool b))) (h1:w1=z→SC P m A ⟨mk n e,σ⟩ Q) (h2:w2=z→SC P m B ⟨mk n e,σ⟩ Q):SC P m (.cond c A B) ⟨mk n e,σ⟩ Q:=
 SC.anD (fE hc) (fun hb=>h1 (ct hb h)) (fun hb=>h2 (cf hb h))
theorem cT {c:Operand} (hc:lq n e c=some (.d (.bool true))) (h:SC P m A ⟨mk n e,σ⟩ Q):SC P m (.cond c A B) ⟨mk n e,σ⟩ Q:=SC.anB (fE hc) h
theorem cF {c:Operand} (hc:lq n e c=some (.d (.bool false))) (h:SC P m B ⟨mk n e,σ⟩ Q):SC P m (.cond c A B) ⟨mk n e,σ⟩ Q:=SC.anC (fE hc) h
def Sq (P:Program) (m:Nat) (B:Code) (Q:Ex→St→Prop) (e:Ex) (s:St):Prop:=match e with
 | .normal=>SC P m B s Q
 | e=>Q e s
theorem sq (h:SC P m A s (Sq P m B Q)):SC P m (.seq A B) s Q:=SC.seq (h.mono fun e s q=>by cases e <;> exact q)
theorem sk (h:SC P m B s Q):SC P m .skip s (Sq P m B Q):=SC.skip h
theorem lb {i:Nat} (h:SC P m B s Q):SC P m (.label i) s (Sq P m B Q):=SC.label h
theorem sr {id:Nat} (h:SO P m ops ops.toList s (fun s'=>SC P m B s' Q)):SC P m (.seq (.region id ops false) B) s Q:=SC.seq (SC.region h)
theorem sn (h:SC P m B s Q):SO P m ops [] s (fun s'=>SC P m B s' Q):=SO.nil h
theorem sd {id:Nat} (hok:pW P ops=true) (h:ST P ops ops.toList s [] (fun s' t=>eD ops t=true∧SC P m B s' Q)):SC P m (.seq (.region id ops true) B) s Q:=sq (SC.draws hok h)
theorem tn (h1:eD ops acc.reverse=true) (h:SC P m B s Q):ST P ops [] s acc (fun s' t=>eD ops t=true∧SC P m B s' Q):=ST.nil ⟨h1,h⟩
theorem si {α:Type} {x y:α} (h:some x=some y):x=y:=Option.some.inj h
theorem wq {e':En} (h:e'.map (fun p=>(p.1,lk e p.1))=e'):Wk m ⟨mk n e,σ⟩ ⟨mk n e',σ⟩:=by
 refine Wk.env ?_
 have key:∀l:En,l.map (fun p=>(p.1,lk e p.1))=l→EW e l:=by
  intro l
  induction l with
  | nil=>intro _;exact trivial
  | cons p r ih=>
   intro h
   simp only [List.map_cons,List.cons.injEq] at h
   exact ⟨AW.of_eq (by rw [← h.1]),ih h.2⟩
 exact key e' h
theorem wc (ι roots:List Nat) {os:List Ob} {e':En} (hcan:Lv.canon σ roots=some (ι,os)) (ht:ι.take m=List.range m) (he:e'.map (fun p=>(lk e p.1).re (fD ι))=e'.map (fun p=>some p.2)):Wk m ⟨mk n e,σ⟩ ⟨mk n e',os⟩:=by
 intro dZ dW w0 H0 ro μ w a hr
 refine ⟨ro,Ep μ ι,hr.canon hcan ht ⟨by rw [hr.env.size,iI,iI],fun i y v hy hv=>?_⟩⟩
 obtain ⟨hi,rfl⟩:=CJ hy
 have key:∀l:En,l.map (fun p=>(lk e p.1).re (fD ι))=l.map (fun p=>some p.2)→∀i,lk l i=.undef∨(lk e i).re (fD ι)=some (lk l i):=by
  intro l
  induction l with
  | nil=>intro _ i;exact .inl rfl
  | cons p r ih=>
   intro h i
   simp only [List.map_cons,List.cons.injEq] at h
   obtain ⟨j,x⟩:=p
   simp only [lk]
   cases hb:Nat.beq j i with
   | true=>have:=Nat.eq_of_beq_eq_true hb;subst this;exact .inr h.1
   | false=>exact ih h.2 i
 rcases key e' he i with h | h
 ·rw [h];exact .undef v
 ·exact OI uG (hr.env.get i _ v (uV hi) hv) _ h
end
def agU:List Nat→List AV→Option En
 | [],[]=>some []
 | i::r,x::l=>match agU r l with
  | some e=>some ((i,x)::e)
  | none=>none
 | _,_=>none
theorem fn0 {P:Program} {f:FuncId} {args:List AV} {σ σ':List Ob} {r:AV} {fn:Func} {c:Code} {n:Nat} {e:En} (ι:List Nat) (hfn:P.funcs[f]?=some fn) (hbody:fn.body=some c) (hn:fn.ntmps=n) (hz:agU ι args=some e) (he:enum 0 args=e) (hl:Nat.ble args.length n=true)
  (h:SC P σ.length c ⟨mk n e,σ⟩ (fun e s=>∃s1,Wk σ.length s s1∧Fin P fn r σ' e s1)):aT P f args σ r σ':=by
 subst hn
 subst he
 exact aT.of hfn hbody (SC.post (SC.wk (Wk.begin (Nat.le_of_ble_eq_true hl)) h) (fun _ _ h=>h))
theorem aaD {P:Program} {t:TypeId} {a b:UInt8}:∀X Y,cO P .sub t X Y (.d (dX a)) (.d (dX b))=some (.d (dX (a - b))):=fun X Y=>acA t X Y a b
theorem aaG {P:Program} {t:TypeId} {a b:UInt8}:∀X Y,cO P .eql t X Y (.d (dX a)) (.d (dX b))=some (.d (.bool (a==b))):=fun X Y=>acG t X Y a b
theorem BD {P:Program} {t:TypeId} {a b:UInt8}:∀X Y,cO P .neq t X Y (.d (dX a)) (.d (dX b))=some (.d (.bool (a != b))):=fun X Y=>acB t X Y a b
theorem BF {P:Program} {t:TypeId} {a b:UInt8}:∀X Y,cO P .lss t X Y (.d (dX a)) (.d (dX b))=some (.d (.bool (decide (a < b)))):=fun X Y=>acC t X Y a b
theorem aaE {P:Program} {t:TypeId} {a b:UInt8}:∀X Y,cO P .leq t X Y (.d (dX a)) (.d (dX b))=some (.d (.bool (decide (a≤b)))):=fun X Y=>acD t X Y a b
theorem yJ {P:Program} {t:TypeId} {a b:UInt8}:∀X Y,cO P .gtr t X Y (.d (dX a)) (.d (dX b))=some (.d (.bool (decide (b < a)))):=fun X Y=>acE t X Y a b
theorem aaF {P:Program} {t:TypeId} {a b:UInt8}:∀X Y,cO P .geq t X Y (.d (dX a)) (.d (dX b))=some (.d (.bool (decide (b≤a)))):=fun X Y=>acF t X Y a b
theorem RP {P:Program} {t:TypeId} {a b:UInt64}:∀X Y,cO P .or t X Y (.d (eX a)) (.d (eX b))=some (.d (eX (a ||| b))):=fun X Y=>acH t X Y a b
theorem NY {P:Program} {t:TypeId} {a b:UInt64}:∀X Y,cO P .xor t X Y (.d (eX a)) (.d (eX b))=some (.d (eX (a ^^^ b))):=fun X Y=>YP t X Y a b
theorem j4 {P:Program} {t:TypeId} {a b:UInt64}:∀X Y,cO P .eql t X Y (.d (eX a)) (.d (eX b))=some (.d (.bool (a==b))):=fun X Y=>YU t X Y a b
theorem HY {P:Program} {t:TypeId} {a b:UInt64}:∀X Y,cO P .neq t X Y (.d (eX a)) (.d (eX b))=some (.d (.bool (a != b))):=fun X Y=>YQ t X Y a b
theorem NZ {P:Program} {t:TypeId} {a b:UInt64}:∀X Y,cO P .lss t X Y (.d (eX a)) (.d (eX b))=some (.d (.bool (decide (a < b)))):=fun X Y=>YR t X Y a b
theorem Yd {P:Program} {t:TypeId} {a b:UInt64}:∀X Y,cO P .leq t X Y (.d (eX a)) (.d (eX b))=some (.d (.bool (decide (a≤b)))):=fun X Y=>YS t X Y a b
theorem Ye {P:Program} {t:TypeId} {a b:UInt64}:∀X Y,cO P .gtr t X Y (.d (eX a)) (.d (eX b))=some (.d (.bool (decide (b < a)))):=fun X Y=>YT t X Y a b
theorem mV {P:Program} {t:TypeId} {a b:List UInt8}:∀X Y,cO P .eql t X Y (.d (eS a)) (.d (eS b))=some (.d (.bool (a==b))):=fun X Y=>Y2 t X Y a b
theorem Yf {P:Program} {t:TypeId} {a b:List UInt8}:∀X Y,cO P .neq t X Y (.d (eS a)) (.d (eS b))=some (.d (.bool (a != b))):=fun X Y=>YX t X Y a b
theorem N7 {P:Program} {t:TypeId} {a b:List UInt8}:∀X Y,cO P .lss t X Y (.d (eS a)) (.d (eS b))=some (.d (.bool (o8 a b))):=fun X Y=>YZ t X Y a b
theorem Yg {P:Program} {t:TypeId} {a b:List UInt8}:∀X Y,cO P .gtr t X Y (.d (eS a)) (.d (eS b))=some (.d (.bool !(o8 a b || a==b))):=fun X Y=>Y0 t X Y a b
theorem N8 {P:Program} {t:TypeId} {a b:List UInt8}:∀X Y,cO P .geq t X Y (.d (eS a)) (.d (eS b))=some (.d (.bool !(o8 a b))):=fun X Y=>Y1 t X Y a b
theorem bD {P:Program} {t:TypeId} {a b:Int}:∀X Y,cO P .eql t X Y (.d (eI a)) (.d (eI b))=some (.d (eB (a==b))):=fun X Y=>Zb t X Y a b
theorem dA {P:Program} {t:TypeId} {a b:Int}:∀X Y,cO P .neq t X Y (.d (eI a)) (.d (eI b))=some (.d (eB (a != b))):=fun X Y=>Y5 t X Y a b
theorem bB {P:Program} {t:TypeId} {a b:Int}:∀X Y,cO P .lss t X Y (.d (eI a)) (.d (eI b))=some (.d (eB (decide (a < b)))):=fun X Y=>Y7 t X Y a b
theorem qA {P:Program} {t:TypeId} {a b:Int}:∀X Y,cO P .leq t X Y (.d (eI a)) (.d (eI b))=some (.d (eB (decide (a≤b)))):=fun X Y=>Y8 t X Y a b
theorem dx {P:Program} {t:TypeId} {a b:Int}:∀X Y,cO P .gtr t X Y (.d (eI a)) (.d (eI b))=some (.d (eB (decide (a > b)))):=fun X Y=>Y9 t X Y a b
theorem fU {P:Program} {t:TypeId} {a b:Int}:∀X Y,cO P .geq t X Y (.d (eI a)) (.d (eI b))=some (.d (eB (decide (a≥b)))):=fun X Y=>Za t X Y a b
theorem bH {P:Program} {t:TypeId} {a b:Int}:∀X Y,cO P .add t X Y (.d (eI a)) (.d (eI b))=some (.d (eI (bL (a+b)))):=fun X Y=>Zc t X Y a b
theorem gX {P:Program} {t:TypeId} {a b:Int}:∀X Y,cO P .sub t X Y (.d (eI a)) (.d (eI b))=some (.d (eI (bL (a - b)))):=fun X Y=>Y3 t X Y a b
theorem vN {P:Program} {t:TypeId} {a b:Int}:∀X Y,cO P .mul t X Y (.d (eI a)) (.d (eI b))=some (.d (eI (bL (a*b)))):=fun X Y=>Y6 t X Y a b
def orI (a b:Int):Int:=IntKind.i64.wrap ((BitVec.ofInt 64 a ||| BitVec.ofInt 64 b).toNat:Int)
theorem aaH {P:Program} {t:TypeId} {a b:Int}:∀X Y,cO P .or t X Y (.d (eI a)) (.d (eI b))=some (.d (eI (orI a b))):=fun X Y=>rfl
def acJ:List Ob→List Ob→Option (List Ob)
 | [],os=>some os
 | x::r,os=>match acJ r os with
  | some l=>some (x::l)
  | none=>none
theorem Xf:∀{a b l:List Ob},acJ a b=some l→a++b=l
 | [],b,l,h=>by simp only [acJ,Option.some.injEq] at h;simp [h]
 | x::r,b,l,h=>by
  simp only [acJ] at h
  split at h
  ·rename_i l' hl;cases h;rw [List.cons_append,Xf hl]
  ·cases h
def mgq:List Ob→List Nat→List Ob→Option (List Ob)
 | σ,[],os=>acJ σ os
 | σ,i::r,o::os=>match M7 σ i o with
  | some σ1=>mgq σ1 r os
  | none=>none
 | _,_::_,[]=>none
theorem Et:∀{ι:List Nat} {σ os l:List Ob},mgq σ ι os=some l→jO σ ι (os.take ι.length)++os.drop ι.length=l∧ι.length≤os.length
 | [],σ,os,l,h=>by
  simp only [mgq] at h
  exact ⟨by simpa [jO] using Xf h,Nat.zero_le _⟩
 | i::r,σ,[],l,h=>by simp [mgq] at h
 | i::r,σ,o::os,l,h=>by
  simp only [mgq] at h
  split at h
  ·rename_i σ1 hs
   obtain ⟨h1,h2⟩:=Et h
   have:=um hs
   subst this
   refine ⟨?_,by simpa using h2⟩
   simpa [jO] using h1
  ·cases h
def Xd (κ:List Nat) (j:Nat):Option Nat:=κ[j]?
theorem Iq {ι ν:List Nat} {n k:Nat} (h:List.range' n (k - ι.length)=ν) (hl:Nat.ble ι.length k=true):jv ι n k=Xd (ι++ν):=by
 subst h
 funext j
 have hl:=Nat.le_of_ble_eq_true hl
 unfold jv Xd
 by_cases h1:j < ι.length
 ·rw [if_pos h1,List.getElem?_append_left h1]
 ·rw [if_neg h1,List.getElem?_append_right (by omega)]
  by_cases h2:j < k
  ·rw [if_pos h2,List.getElem?_eq_getElem (by simp;omega)]
   simp
  ·rw [if_neg h2,List.getElem?_eq_none (by simp;omega)]
section
variable {P:Program} {m:Nat} {n:Nat} {e:En} {σ σ':List Ob} {ops:Array Oper} {l:List Oper} {dd:Nat} {ty:TypeId} {pos:String} {af:Array Edge} {g:Option (Nat×Bool)}
theorem cq {Q:St→Prop} {c:Call} {fo:Operand} {f:FuncId} {args first caps args':List AV} (ι ν:List Nat) {κ:List Nat} {lF σ2 os:List Ob} {r r':AV} (hc:aT P f args' lF r' σ2) (hw:Wanted ops n e ⟨some dd,.call c,ty,pos,af,g⟩ true) (hargs:Sk n e c.args.toList=some args) (iP:c.callee=.value fo)
  (hfo:lq n e fo=some (.fn (.func f) first caps)) (hcb:callable P f=true) (hcan:canon σ (kN (first++args++caps))=some (ι,lF)) (hre:AY (fD ι) (first++args++caps)=some args')
  (hν:List.range' σ.length (σ2.length - ι.length)=ν) (hl:Nat.ble ι.length σ2.length=true) (hκ:ι++ν=κ) (hr:r'.re (Xd κ)=some r) (hos:mK (Xd κ) σ2=some os) (hσ:mgq σ ι os=some σ')
  (k:SO P m ops l ⟨mk n ((dd,r)::e),σ'⟩ Q):SO P m ops (⟨some dd,.call c,ty,pos,af,g⟩::l) ⟨mk n e,σ⟩ Q:=by
 subst hκ
 rw [← Iq hν hl] at hr hos
 obtain ⟨h1,h2⟩:=Et hσ
 exact SO.call hw rfl rfl (lX hargs) iP (fE hfo) hcb hcan hre hc hr hos h2 h1 k
variable {acc:List (List Nat×Bool)} {R:St→List (List Nat×Bool)→Prop}
theorem tq {c:Call} {fo:Operand} {f:FuncId} {args first caps args':List AV} (ι ν:List Nat) (mk':List Nat×Bool) {κ:List Nat} {lF σ2 os:List Ob} {r r':AV} (hc:aT P f args' lF r' σ2) (hw:Wanted ops n e ⟨some dd,.call c,ty,pos,af,g⟩ true) (hargs:Sk n e c.args.toList=some args) (iP:c.callee=.value fo)
  (hfo:lq n e fo=some (.fn (.func f) first caps)) (hcb:callable P f=true) (hcan:canon σ (kN (first++args++caps))=some (ι,lF)) (hre:AY (fD ι) (first++args++caps)=some args')
  (hν:List.range' σ.length (σ2.length - ι.length)=ν) (hl:Nat.ble ι.length σ2.length=true) (hκ:ι++ν=κ) (hr:r'.re (Xd κ)=some r) (hos:mK (Xd κ) σ2=some os) (hσ:mgq σ ι os=some σ') (hm:marked (mk n e) σ σ' ⟨some dd,.call c,ty,pos,af,g⟩=mk')
  (k:ST P ops l ⟨mk n ((dd,r)::e),σ'⟩ (mk'::acc) R):ST P ops (⟨some dd,.call c,ty,pos,af,g⟩::l) ⟨mk n e,σ⟩ acc R:=by
 subst hκ
 rw [← Iq hν hl] at hr hos
 obtain ⟨h1,h2⟩:=Et hσ
 exact ST.call hw rfl rfl (lX hargs) iP (fE hfo) hcb hcan hre hc hr hos h2 h1 hm k
theorem tqr {c:Call} {fo:Operand} {f:FuncId} {args first caps args':List AV} (ι:List Nat) (is:List Nat) {lF σ2 os:List Ob} {r r':AV} (hc:aT P f args' lF r' σ2) (hw:Wanted ops n e ⟨some dd,.call c,ty,pos,af,g⟩ true) (hargs:Sk n e c.args.toList=some args) (iP:c.callee=.value fo)
  (hfo:lq n e fo=some (.fn (.func f) first caps)) (hcb:callable P f=true) (hcan:canon σ (kN (first++args++caps))=some (ι,lF)) (hre:AY (fD ι) (first++args++caps)=some args')
  (hν:List.range' σ.length (σ2.length - ι.length)=[]) (hl:Nat.ble ι.length σ2.length=true) (hr:r'.re (Xd ι)=some r) (hos:mK (Xd ι) σ2=some os) (hσ:mgq σ ι os=some σ) (hm:(marked (mk n e) σ σ ⟨some dd,.call c,ty,pos,af,g⟩).1=is)
  (k:ST P ops l ⟨mk n ((dd,r)::e),σ⟩ ((is,false)::acc) R):ST P ops (⟨some dd,.call c,ty,pos,af,g⟩::l) ⟨mk n e,σ⟩ acc R:=by
 have e0:ι=ι++[]:=by simp
 rw [e0] at hr hos
 rw [← Iq hν hl] at hr hos
 obtain ⟨h1,h2⟩:=Et hσ
 exact ST.agP hw rfl rfl (lX hargs) iP (fE hfo) hcb hcan hre hc hr hos h2 h1 hm k
theorem fq {f:FuncId} {args args':List AV} {κ:List Nat} {lF σ2 os:List Ob} (ι ν:List Nat) {r r':AV} (hc:aT P f args' lF r' σ2) (hcan:canon σ (kN args)=some (ι,lF)) (hre:AY (fD ι) args=some args')
  (hν:List.range' σ.length (σ2.length - ι.length)=ν) (hl:Nat.ble ι.length σ2.length=true) (hκ:ι++ν=κ) (hr:r'.re (Xd κ)=some r) (hos:mK (Xd κ) σ2=some os) (hσ:mgq σ ι os=some σ'):aT P f args σ r σ':=by
 subst hκ
 rw [← Iq hν hl] at hr hos
 obtain ⟨h1,h2⟩:=Et hσ
 exact aT.frame hcan hre hc hr hos h2 h1
end
end Lv
namespace Lv
theorem aC [bJ] {m n:Nat} {e:En} {σ:List Ob} (ι roots:List Nat) {os:List Ob} {e':En} (ht:ι.take m=List.range m) (hcan:Lv.canon σ roots=some (ι,os):=by kernel_rfl) (he:e'.map (fun p=>(lk e p.1).re (fD ι))=e'.map (fun p=>some p.2):=by kernel_rfl):Wk m ⟨mk n e,σ⟩ ⟨mk n e',os⟩:=wc ι roots hcan ht he
end Lv
/- Maps in printed walks. -/
namespace Lv
open Go
section
variable {κ β:Type} [BEq κ] {f:κ→D} {g:β→D} {m:List (κ×β)} {k:κ} {v:β}
end
variable [bJ]
section
variable {P:Program} {n:Nat} {e:En} {σ σ':List Ob} {t kt vt:TypeId} {td:TypeDesc} {x y z:Operand} {id:Nat}
variable {κ β:Type} [BEq κ] {f:κ→D} {g:β→D} {m:List (κ×β)} {k:κ} {v:β}
end
end Lv
/- Steps whose yield is one of several. -/
namespace Lv
open Go
theorem map_nil {α β:Type} {f:α→β} {l:List α} (h:l.map f=[]):l=[]:=by cases l <;> simp_all
variable [bJ]
section
variable {P:Program} {m:Nat} {ops:Array Oper} {o:Oper} {l:List Oper} {n:Nat} {e:En} {σ:List Ob} {t:TypeId} {x y:Operand}
end
end Lv
/- slices.Delete: in its own memory, what is left over made zero. -/
namespace Lv
open Go
variable [bJ]
section
variable {P:Program} {m:Nat} {ops:Array Oper} {o:Oper} {l:List Oper} {n:Nat} {e:En} {σ σ':List Ob} {t:TypeId} {x y:Operand}
end
section
variable {P:Program} {σ:List Ob} {t el:TypeId} {sz GD c:Nat} {z:D} {α:Type} {f:α→D} {xs:List α}
end
end Lv
/- slices.Sort and slices.Compact of strings: in their own memory. -/
namespace Lv
open Go Go.Sort
variable [bJ]
theorem Good.ag0 {ro:Ro} {μ:Mu} {w w':World} {H:Hp} (g:Good ro μ w H) {n:Nat} {o:Ob} {L:Loc} (hH:(H n).wr=true) (hL:μ n=some L)
  (hb:∀b,b≠L.blk→b < w.heap.size→w'.heap[b]?=w.heap[b]?) (hs:w.heap.size≤w'.heap.size) (h1:w'.os=w.os) (h2:w'.tape=w.tape) (h3:w'.output=w.output) (ho:OR ro μ w' n o):
  Good ro μ w' (upd H n o)∧Ext ro μ w H ro μ w' (upd H n o):=by
 have hwb:WB H μ L.blk:=⟨n,L,hH,hL,rfl⟩
 have sub:∀i,(upd H n o i).wr=true→(H i).wr=true:=by
  intro i hi
  unfold upd at hi
  split at hi
  ·rename_i e;subst e;exact hH
  ·exact hi
 have M6:∀i,(upd H n o i).live=true→(H i).live=true:=by
  intro i hi
  unfold upd at hi
  split at hi
  ·rename_i e;subst e;exact Ob.gT hH
  ·exact hi
 refine ⟨⟨fun a v h=>?_,fun i=>?_,fun i i' L1 L2 k1 k2 k3 k4 k5=>g.apart i i' L1 L2 (sub i k1) (M6 i' k2) k3 k4 k5,fun b' hb' a ha=>?_,g.base⟩,⟨fun _ _ h=>h,fun _ _ h=>h,fun _ _ h=>.inl h,fun b' hb'=>?_,fun b' hb'=>?_,fun b' hb' hn=>?_,hs,h1,h2,h3⟩⟩
 ·have:a.block≠L.blk:=by
   intro e
   have:=g.gu _ hwb a e
   rw [this] at h;cases h
  have k:=g.qJ a v h
  have hlt:a.block < w.heap.size:=by
   rcases Nat.lt_or_ge a.block w.heap.size with q | q
   ·exact q
   ·simp [World.cell?,Array.getElem?_eq_none q] at k
  rw [mY (hb _ this hlt)];exact k
 ·by_cases e:i=n
  ·subst e;simp only [upd,if_true];exact ho
  ·simp only [upd,e,if_false]
   by_cases hl:(H i).live=true
   ·refine (g.ob i).keep (fun _ _ h=>h) (fun _ _ h=>h) rfl (fun L' hL'=>hb _ (fun e'=>e (g.apart n i L L' hH hl hL hL' e'.symm).symm) ?_)
    exact (g.ob i).lt hl hL'
   ·have:H i=.dead:=by cases e:H i <;> simp [e,Ob.live] at hl ⊢
    rw [this];trivial
 ·obtain ⟨i,L1,k1,k2,rfl⟩:=hb'
  exact g.gu _ ⟨i,L1,sub i k1,k2,rfl⟩ a ha
 ·obtain ⟨i,L1,k1,k2,rfl⟩:=hb'
  exact .inr ⟨i,L1,sub i k1,k2,rfl⟩
 ·obtain ⟨i,L1,k1,k2,rfl⟩:=hb'
  exact .inr ⟨i,L1,M6 i k1,k2,rfl⟩
 ·exact hb b' (fun e=>hn (e▸hwb)) hb'
theorem aT.att {P:Program} {f:FuncId} {args:List AV} {σ σ1 σ2:List Ob} {x:AV} {y:D} (h:aT P f args σ x σ1) (k:Lv.og σ1 x=some (y,σ2)):aT P f args σ (.d y) σ2:=by
 intro ro μ w fG g hdom hV
 refine (h ro μ w fG g hdom hV).mono ?_
 rintro e w' ⟨v,ro',μ',he,hv,g',e',d',q'⟩
 obtain ⟨Rx,g2,e2,hd,_,hl⟩:=sQ g' hv k
 exact ⟨v,Rx,μ',he,.d _ _ hd,g2,e'.trans e2.Ri,fun id L hL=>by rw [hl];exact d' id L hL,q'⟩
theorem aT.atu {P:Program} {f:FuncId} {args:List AV} {σ σ1 σ2:List Ob} {cs:List AV} {ys:List D} (h:aT P f args σ (.agg cs) σ1) (k:Lv.lD σ1 cs=some (ys,σ2)):aT P f args σ (.d (.agg ys)) σ2:=by
 intro ro μ w fG g hdom hV
 refine (h ro μ w fG g hdom hV).mono ?_
 rintro e w' ⟨v,ro',μ',he,hv,g',e',d',q'⟩
 obtain ⟨C,rfl,hvs⟩:=CW hv rfl
 obtain ⟨qK,g1,e1,hlen,hd,_,s1⟩:=nZ _ (vs:=C.toList) g' (by simpa using hvs.size) (fun j z u hz hu=>hvs.get j z u hz (by simpa using hu)) k
 exact ⟨_,qK,μ',he,.d _ _ (.agg _ C (by rw [hvs.size,hlen]) (fun j z u hz hu=>hd j z u hz (by simpa using hu))),g1,e'.trans e1.Ri,fun id L hL=>by rw [s1];exact d' id L hL,q'⟩
end Lv
/- Arrays at a number that is told by cases; slices of nil. -/
namespace Lv
open Go Go.Sort
variable [bJ]
section
variable {P:Program} {m n:Nat} {e:En} {σ σ':List Ob} {t:TypeId} {x y z:Operand} {ops:Array Oper} {l:List Oper} {acc:List (List Nat×Bool)} {R:St→List (List Nat×Bool)→Prop} {s:St}
theorem iar {el len id idx off sz off':Nat} {i:Int} (k:Nat) (hx:lq n e x=some (.ref id idx off)) (hy:lq n e y=some (.d (eI i))) (hu:P.underlying t=some (.array len el)) (hs:dF P el=some sz) (hi:i=(k:Int)) (hk:Nat.ble (k+1) len=true) (ho:off+k*sz=off'):
  Yl P n e σ (.indexAddr t x y) (.ref id idx off') σ:=by
 subst hi
 subst ho
 have hk:=Nat.le_of_ble_eq_true hk
 refine .of fun o ho=>xM ho (fE hx) (fE hy) ?_
 simp only [mq,hu,hs]
 rw [if_pos (by omega),Int.toNat_natCast]
theorem tE {β:Type} {w1 w2 z:β} {b:Bool} (h:(bif b then w1 else w2)=z) (ht:b=true→w1=z→ST P ops l s acc R) (hf:w2=z→ST P ops l s acc R):ST P ops l s acc R:=by
 cases b with
 | true=>exact ht rfl h
 | false=>exact hf h
end
theorem Yk {α:Type} [Inhabited α] (enc:α→Value) (w:World) (n blk off:Nat) (m:List α) (os:Array Obj) (C:Array Value) (T:TypeId) (fz:Nat×Nat) (h:w.heap[blk]?=some (.cells C T fz)):
  (grow (putRow enc (Go.Sort.ahead w n) blk off m.toArray) os).heap[blk]?=some (.cells (putCells enc off m.toArray C) T fz)∧∀b,b≠blk→b < w.heap.size→(grow (putRow enc (Go.Sort.ahead w n) blk off m.toArray) os).heap[b]?=w.heap[b]?:=by
 have hlt:blk < w.heap.size:=by
  rcases Nat.lt_or_ge blk w.heap.size with k | k
  ·exact k
  ·simp [Array.getElem?_eq_none k] at h
 refine ⟨?_,fun b hb hl=>?_⟩
 ·simp only [grow,putRow,mapBlock,Go.Sort.ahead]
  rw [Array.getElem?_append_left (by simpa using hlt),Array.getElem?_modify]
  simp [h,onCells]
 ·simp only [grow,putRow,mapBlock,Go.Sort.ahead]
  rw [Array.getElem?_append_left (by simpa using hl),Array.getElem?_modify]
  simp [Ne.symm hb]
structure aoU {α:Type} (enc:α→Value) (EM:α→D):Prop where
 dr:∀(ro:Ro) (x:α),DR ro (EM x) (enc x)
 inv:∀(ro:Ro) (x:α) (v:Value),DR ro (EM x) v→v=enc x
 cells:∀x,(EM x).cells=[EM x]
 one:∀x,(EM x).isAgg=false
omit [bJ] in
theorem akW:aoU (Value.int .i64) eI:=⟨fun ro x=>.int _ _,fun ro x v h=>by cases h;rfl,fun _=>rfl,fun _=>rfl⟩
theorem aT.aa6 {α:Type} [Inhabited α] {enc:α→Value} {EM:α→D} (E:aoU enc EM) {P:Program} {f:FuncId} {l m:List α} {R:Option Addr→Nat→Value} {r:AV} (hlen:m.length=l.length)
  (hR:∀(ro:Ro) (μ:Mu) (a:Option Addr) (c:Nat),VR ro μ (.slc 0 1 0 l.length none) (.slice a l.length c)→VR ro μ r (R a c))
  (h:∀(blk off cap:Nat) (w:World),l≠[]→Holds enc w blk off l.toArray→blk < w.heap.size→l.length≤cap→
   Calls P f #[.slice (some ⟨blk,off,none⟩) l.length cap] w fun e w'=>e=.returned (R (some ⟨blk,off,none⟩) cap)∧∃n os,w'=grow (putRow enc (Go.Sort.ahead w n) blk off m.toArray) os)
  (h0:∀(a:Option Addr) (cap:Nat) (w:World),l=[]→Calls P f #[.slice a 0 cap] w fun e w'=>e=.returned (R a cap)∧w'=w):
  aT P f [.slc 0 1 0 l.length none] [.row 1 (l.map EM) true] r [.row 1 (m.map EM) true]:=by
 intro ro μ w fG g hdom hV
 obtain ⟨v,rfl,hv⟩:∃v,fG=#[v]∧VR ro μ (.slc 0 1 0 l.length none) v:=by
  have hs:=hV.size
  obtain ⟨cs⟩:=fG
  match cs,hs with
  | [v],_=>exact ⟨v,rfl,hV.get 0 _ v rfl rfl⟩
 by_cases e:l=[]
 ·have em:m=[]:=by subst e;simpa using hlen
  subst e em
  obtain ⟨a,c,rfl⟩:∃a c,v=.slice a 0 c:=by
   rcases o7 hv with ⟨L,c,a,rfl,_⟩ | ⟨_,_,rfl⟩
   ·exact ⟨_,_,rfl⟩
   ·exact ⟨_,_,rfl⟩
  refine (h0 a c w rfl).mono ?_
  rintro e w' ⟨rfl,rfl⟩
  exact ⟨_,ro,μ,rfl,hR _ _ _ _ hv,g,(Ext.refl _ _ _ _).Ri,hdom,fun _ _=>rfl⟩
 ·have hpos:0 < l.length:=List.length_pos_iff.2 e
  rcases o7 hv with ⟨L,c,a,rfl,hL,hsz,hlc,_,ha⟩ | ⟨h0,_,_⟩
  rotate_left
  ·omega
  obtain ⟨rfl,avd⟩:=ha (by omega)
  have w9:=g.ob 0
  have hp0:hp [Ob.row 1 (l.map EM) true] 0=Ob.row 1 (l.map EM) true:=rfl
  rw [hp0] at w9
  obtain ⟨C,T,fz,hLs,hh,hf,hCs,hlim,hw,hz,hcell⟩:=w9 L hL
  simp only [List.length_map,Nat.mul_one] at hlim
  have hblk:L.blk < w.heap.size:=by
   rcases Nat.lt_or_ge L.blk w.heap.size with k | k
   ·exact k
   ·simp [Array.getElem?_eq_none k] at hh
  have hholds:Holds enc w L.blk (L.base+0*1) l.toArray:=by
   intro j hj
   have hj':j < l.length:=by simpa using hj
   obtain ⟨u,hu,hd⟩:=hcell j (EM l[j]) 0 (EM l[j]) (by simp [hj']) (by rw [E.cells];rfl)
   simp only [Nat.mul_one,Nat.add_zero] at hu
   have hu':=E.inv _ _ _ hd
   subst hu'
   refine ⟨?_,?_⟩
   ·simp only [World.cell?,hh,Nat.zero_mul,Nat.add_zero,hu]
    simp [hj']
   ·simp only [World.frozen?,hh]
    have:=hf.2 (L.base+j) (by omega)
    simp only [Nat.zero_mul,Nat.add_zero,Bool.and_eq_false_iff,decide_eq_false_iff_not]
    by_cases q:fz.1≤L.base+j
    ·exact .inr fun q2=>this ⟨q,q2⟩
    ·exact .inl q
  refine (h L.blk (L.base+0*1) c w e hholds hblk hlc).mono ?_
  rintro e' w' ⟨rfl,n,os,rfl⟩
  obtain ⟨k1,k2⟩:=Yk enc w n L.blk (L.base+0*1) m os C T fz hh
  have hsize:(putCells enc (L.base+0*1) m.toArray C).size=C.size:=by simp [putCells]
  obtain ⟨G,E'⟩:=g.ag0 (n:=0) (o:=.row 1 (m.map EM) true) (L:=L) rfl hL k2 (by simp [grow,putRow,mapBlock,Go.Sort.ahead]) rfl rfl rfl (by
   intro L' hL'
   rw [hL] at hL';cases hL'
   refine ⟨_,T,fz,hLs,k1,by rw [hsize];exact hf,by rw [hsize];exact hCs,by simpa [hlen] using hlim,(fun e=>Bool.noConfusion e),fun i x hx=>?_,fun i x j d hx hj=>?_⟩
   ·simp only [List.getElem?_map,Option.map_eq_some_iff] at hx
    obtain ⟨s,_,rfl⟩:=hx
    exact ⟨by rw [E.cells];rfl,fun c hc=>by rw [E.cells] at hc;simp at hc;subst hc;exact E.one s⟩
   ·simp only [List.getElem?_map,Option.map_eq_some_iff] at hx
    obtain ⟨s,hs,rfl⟩:=hx
    have hj0:j=0∧d=EM s:=by
     rw [E.cells] at hj
     cases j with
     | zero=>simp at hj;exact ⟨rfl,hj.symm⟩
     | succ j=>simp at hj
    obtain ⟨rfl,rfl⟩:=hj0
    have hi:i < m.length:=cK hs
    refine ⟨enc s,?_,E.dr _ _⟩
    have hi2:L.base+i < C.size:=by omega
    simp only [putCells,Array.getElem?_mapIdx,Nat.mul_one,Nat.add_zero,Nat.zero_mul,Array.getElem?_eq_getElem hi2,Option.map_some]
    rw [if_pos ⟨by omega,by simp;omega⟩]
    have e2:m[i]=s:=by rw [List.getElem?_eq_getElem hi] at hs;exact Option.some.inj hs
    simp [hi,e2])
  rw [← oW (by simp)] at G E'
  exact ⟨_,ro,μ,rfl,hR _ _ _ _ hv,G,E'.Ri,hdom,fun _ _=>rfl⟩
theorem UU {l z:List Int}:Lv.og [.row 1 ((l++z).map eI) true] (.slc 0 1 0 l.length none)=some (eL 1 eI l,[.row 1 ((l++z).map eI) false]):=by
 have h1:0+l.length≤((l++z).map eI).length:=by simp
 simp only [Lv.og,List.getElem?_cons_zero,h1,and_self,if_true,List.drop_zero,List.set_cons_zero]
 rw [List.map_append,List.take_append_of_le_length (by simp),List.take_of_length_le (by simp)]
end Lv
/- Values of interface types: made, asserted; their methods called. -/
namespace Lv
open Go
set_option maxRecDepth 100000
variable [bJ]
def UE (P:Program) (t:TypeId):Bool:=match P.underlying t with
 | some (.interface _)=>false
 | some _=>true
 | none=>false
theorem aaQ {P:Program} {t:TypeId} (h:UE P t=true):∃d,P.underlying t=some d∧∀ms,d≠.interface ms:=by
 unfold UE at h
 split at h
 ·cases h
 ·rename_i d hd hu
  exact ⟨d,hu,fun ms e=>hd ms e⟩
 ·cases h
section
variable {P:Program} {m n:Nat} {e:En} {σ σ':List Ob} {t:TypeId} {x y z:Operand} {ops:Array Oper} {o:Oper} {l:List Oper}
theorem mki {v:AV} (hx:lq n e x=some v) (hn:UE P t=true):Yl P n e σ (.makeInterface t x) (.iface t v) σ:=by
 obtain ⟨d,hu,hd⟩:=aaQ hn
 refine .of fun o ho call=>?_
 simp only [kQ,ho,eG (fE hx),hu]
 all_goals (cases d <;> first | rfl | exact absurd rfl (hd _))
theorem tya {v:AV} {xt:TypeId} (hx:lq n e x=some (.iface t v)) (hn:UE P t=true):Yl P n e σ (.typeAssert x xt t false) v σ:=by
 obtain ⟨d,hu,hd⟩:=aaQ hn
 refine .of fun o ho call=>?_
 simp only [kQ,ho,eG (fE hx),hu]
 all_goals (cases d <;> first | simp | exact absurd rfl (hd _))
def IY (P:Program) (σ:List Ob) (t:TypeId) (v:AV) (ptr:Bool):Option AV:=
 match P.underlying t with
 | some (.pointer el)=>if ptr=true then some v else mQ P σ el v
 | _=>none
theorem Uq {v rv:AV} {ptr:Bool} {ro:Ro} {μ:Mu} {w:World} {u:Value} (g:Good ro μ w (hp σ)) (hv:VR ro μ v u) (h:IY P σ t v ptr=some rv):∃ru,VR ro μ rv ru∧∀wr,(receiverAt t (.val u) ptr wr).run P w=.ok ru w:=by
 unfold IY at h
 split at h
 ·rename_i el hu
  split at h
  ·rename_i hp
   subst hp
   obtain rfl:=Option.some.inj h
   exact ⟨u,hv,fun wr=>by simp only [receiverAt,Sem.run_bind,run_underlying hu,Result.andThen_ok,Place.get,Sem.run_pure]⟩
  ·rename_i hp
   have hp:ptr=false:=by simpa using hp
   subst hp
   obtain ⟨r,p,rfl,h1,h2⟩:=uM g hv h
   refine ⟨r,h2,fun wr=>?_⟩
   cases wr with
   | none=>simp only [receiverAt,Sem.run_bind,run_underlying hu,Result.andThen_ok,Place.get,Sem.run_pure,asAddr,h1]
   | some nm=>
    have hk:(Builtin.ssaWrapNilChk_ #[t] t #[.pointer (some p),strVal "",strVal nm]).run P w=.ok (.pointer (some p)) w:=rfl
    simp only [receiverAt,Sem.run_bind,run_underlying hu,Result.andThen_ok,Place.get,Sem.run_pure,hk,asAddr,h1]
 ·cases h
theorem SO.invoke {d:Nat} {Q:St→Prop} {c:Call} {xo:Operand} {name:String} {g:FuncId} {v rv:AV} {ptr:Bool} {args args':List AV} {ι:List Nat} {lF σ2 os:List Ob} {r r':AV} (hw:Wanted ops n e o true) (hd:o.dst=some d) (ho:o.op=.call c) (hargs:los n e c.args.toList=some args) (iP:c.callee=.invoke xo name)
  (hxo:lo n e xo=some (.iface t v)) (hm:yM P t name=some (g,ptr)) (hrv:IY P σ t v ptr=some rv) (hcb:callable P g=true) (hcan:canon σ (kN (rv::args))=some (ι,lF)) (hre:AY (fD ι) (rv::args)=some args')
  (hc:aT P g args' lF r' σ2) (hr:r'.re (jv ι σ.length σ2.length)=some r) (hos:mK (jv ι σ.length σ2.length) σ2=some os) (hle:ι.length≤os.length) (hσ:jO σ ι (os.take ι.length)++os.drop ι.length=σ')
  (k:SO P m ops l ⟨mk n ((d,r)::e),σ'⟩ Q):SO P m ops (o::l) ⟨mk n e,σ⟩ Q:=by
 intro dZ dW w0 H0 ro μ w a j Z hl hrel hQ
 have h0:ops[j]?=some o:=by have:=hl 0;simpa using this.symm
 have hl':∀i,l[i]?=ops[j+1+i]?:=fun i=>by have:=hl (i+1);simp at this;rw [this];congr 1;omega
 simp only [List.length_cons,List.range'_succ]
 rw [wpOps_cons]
 unfold wpOp
 simp only [h0]
 rw [qo hrel.env hw]
 simp only [if_true]
 refine .inl ?_
 have hs:single g args' lF r' σ2 g args' lF=some (r',σ2):=by unfold single;rw [if_pos ⟨rfl,rfl,rfl⟩]
 have hin:oh (single g args' lF r' σ2) g (rv::args) σ=some (r,σ'):=by
  simp only [oh,hcan,hre,hs,hr,hos,hle,if_true,hσ]
 have hxv:=bS hrel.env (eG hxo)
 obtain ⟨u,hu,hvu⟩:∃u,a.eval xo=.iface t u∧VR ro μ v u:=by
  generalize a.eval xo=q at hxv
  cases hxv with
  | iface _ _ u h=>exact ⟨u,rfl,h⟩
 obtain ⟨ru,hru,hrun⟩:=Uq hrel.good hvu hrv
 have hsa:=jr hrel.env (kU hargs)
 have e0:(c.args.toList.map a.eval).toArray=c.args.map a.eval:=Array.ext' (by simp)
 rw [e0] at hsa
 have hall:oo ro μ (rv::args) (#[ru]++c.args.map a.eval):=jW (xs:=[rv]) ⟨rfl,fun i y q hy hq=>by
  match i with
  | 0=>simp at hy hq;subst hy;subst hq;exact hru
  | i+1=>simp at hy⟩ hsa
 obtain ⟨hlen,EA⟩:=vJ (vM hc) hin hrel.good (fun id hid _=>by
  cases hm:μ id with
  | none=>rfl
  | some L=>have h9:id < σ.length:=hrel.dom id L hm;omega) hall
 have als:(execOp a.eval o).run P w=.ok (.enter g (#[ru]++c.args.map a.eval)) w:=by
  unfold callable at hcb
  split at hcb
  ·rename_i fn hfn
   simp only [Bool.and_eq_true,bne_iff_ne,ne_eq] at hcb
   have hbody:fn.body.isNone=false:=by simpa using hcb.2
   obtain ⟨q,hq⟩:∃q,P.types.size+Made.depth=q+1:=⟨P.types.size+Made.depth - 1,by
    have:0 < Made.depth:=by decide
    omega⟩
   have hmr:=Lp (P:=P) hm q u ru w hrun
   have ex:(#[Value.iface t u]++c.args.map a.eval).extract 1 (#[Value.iface t u]++c.args.map a.eval).size=c.args.map a.eval:=by
    apply Array.ext'
    simp
    rw [List.take_of_length_le (by simp)]
   have e1:(#[Value.iface t u]++c.args.map a.eval)[0]?=some (.iface t u):=by
    rw [Array.getElem?_append_left (by show 0 < 1;omega)];rfl
   simp only [execOp,ho,resolve,iP,hu,pure_bind,Go.invoke,e1,ex,callMethod,Sem.run_bind,run_program,Result.andThen_ok,hq,hmr,callFunc,hfn,beq_iff_eq,hcb.1,if_false,hbody,Bool.false_eq_true,Sem.run_pure]
  ·cases hcb
 unfold Oper.wp
 rw [als]
 simp only [Oper.upon]
 refine EA.mono ?_
 rintro e' w' ⟨v',ro',μ',rfl,k1,k2,k3,k4⟩
 have hop:=hrel.op k1 k2 k3 k4 hlen o.dst
 rw [hd] at hop ⊢
 exact k dZ dW w0 H0 ro' μ' w' _ (j+1) Z hl' (by rw [← qc];exact hop) hQ
theorem afs {el:TypeId} {v:AV} (un:P.underlying t=some (.pointer el)):IY P σ t v true=some v:=by unfold IY;rw [un];rfl
theorem IX {el:TypeId} {v rv:AV} (un:P.underlying t=some (.pointer el)) (h:mQ P σ el v=some rv):IY P σ t v false=some rv:=by unfold IY;rw [un];exact h
variable {dd:Nat} {ty:TypeId} {pos:String} {af:Array Edge} {gd:Option (Nat×Bool)}
theorem iq {Q:St→Prop} {c:Call} {xo:Operand} {name:String} {f:FuncId} {v rv:AV} {ptr:Bool} {args args':List AV} (ι ν:List Nat) {κ:List Nat} {lF σ2 os:List Ob} {r r':AV} (hc:aT P f args' lF r' σ2) (hw:Wanted ops n e ⟨some dd,.call c,ty,pos,af,gd⟩ true) (hargs:Sk n e c.args.toList=some args) (iP:c.callee=.invoke xo name)
  (hxo:lq n e xo=some (.iface t v)) (hm:yM P t name=some (f,ptr)) (hrv:IY P σ t v ptr=some rv) (hcb:callable P f=true) (hcan:canon σ (kN (rv::args))=some (ι,lF)) (hre:AY (fD ι) (rv::args)=some args')
  (hν:List.range' σ.length (σ2.length - ι.length)=ν) (hl:Nat.ble ι.length σ2.length=true) (hκ:ι++ν=κ) (hr:r'.re (Xd κ)=some r) (hos:mK (Xd κ) σ2=some os) (hσ:mgq σ ι os=some σ')
  (k:SO P m ops l ⟨mk n ((dd,r)::e),σ'⟩ Q):SO P m ops (⟨some dd,.call c,ty,pos,af,gd⟩::l) ⟨mk n e,σ⟩ Q:=by
 subst hκ
 rw [← Iq hν hl] at hr hos
 obtain ⟨h1,h2⟩:=Et hσ
 exact SO.invoke hw rfl rfl (lX hargs) iP (fE hxo) hm hrv hcb hcan hre hc hr hos h2 h1 k
theorem nki {v:AV} (hx:lq n e x=some (.iface t v)):Yl P n e σ (.nilCheck x) (.iface t v) σ:=.of fun o ho call=>by simp only [kQ,ho,eG (fE hx)]
theorem ST.invoke {d:Nat} {acc:List (List Nat×Bool)} {Q:St→List (List Nat×Bool)→Prop} {mk':List Nat×Bool} {c:Call} {xo:Operand} {name:String} {g:FuncId} {v:AV} {args args':List AV} {ι:List Nat} {lF σ2 os:List Ob} {r r':AV} (hw:Wanted ops n e o true) (hd:o.dst=some d) (ho:o.op=.call c) (hargs:los n e c.args.toList=some args) (iP:c.callee=.invoke xo name)
  (hxo:lo n e xo=some (.iface t v)) (hmt:yM P t name=some (g,true)) (hp:Ol P t=true) (hcb:callable P g=true) (hcan:canon σ (kN (v::args))=some (ι,lF)) (hre:AY (fD ι) (v::args)=some args')
  (hc:aT P g args' lF r' σ2) (hr:r'.re (jv ι σ.length σ2.length)=some r) (hos:mK (jv ι σ.length σ2.length) σ2=some os) (hle:ι.length≤os.length) (hσ:jO σ ι (os.take ι.length)++os.drop ι.length=σ') (hm:marked (mk n e) σ σ' o=mk')
  (k:ST P ops l ⟨mk n ((d,r)::e),σ'⟩ (mk'::acc) Q):ST P ops (o::l) ⟨mk n e,σ⟩ acc Q:=by
 obtain ⟨s',t',h1,h2⟩:=k
 refine ⟨s',_,.cons (mk:=marked (mk n e) σ σ' o) (v:=r) (s1:=⟨mk n ((d,r)::e),σ'⟩) ⟨by rw [hd,qc],.inl ⟨single g args' lF r' σ2,r,vM hc,AW.refl r,hw,?_,rfl,.inl rfl⟩⟩ h1,?_⟩
 ·have hs:single g args' lF r' σ2 g args' lF=some (r',σ2):=by unfold single;rw [if_pos ⟨rfl,rfl,rfl⟩]
  simp only [kQ,ho,kU hargs,iP,pJ,eG hxo,hmt,hcb,hp,and_self,if_true,oh,hcan,hre,hs,hr,hos,hle,hσ]
 ·simp only [hm]
  simpa using h2
theorem tiq {acc:List (List Nat×Bool)} {R:St→List (List Nat×Bool)→Prop} {c:Call} {xo:Operand} {name:String} {f:FuncId} {v:AV} {args args':List AV} (ι ν:List Nat) (mk':List Nat×Bool) {κ:List Nat} {lF σ2 os:List Ob} {r r':AV} (hc:aT P f args' lF r' σ2) (hw:Wanted ops n e ⟨some dd,.call c,ty,pos,af,gd⟩ true) (hargs:Sk n e c.args.toList=some args) (iP:c.callee=.invoke xo name)
  (hxo:lq n e xo=some (.iface t v)) (hmt:yM P t name=some (f,true)) (hp:Ol P t=true) (hcb:callable P f=true) (hcan:canon σ (kN (v::args))=some (ι,lF)) (hre:AY (fD ι) (v::args)=some args')
  (hν:List.range' σ.length (σ2.length - ι.length)=ν) (hl:Nat.ble ι.length σ2.length=true) (hκ:ι++ν=κ) (hr:r'.re (Xd κ)=some r) (hos:mK (Xd κ) σ2=some os) (hσ:mgq σ ι os=some σ') (hm:marked (mk n e) σ σ' ⟨some dd,.call c,ty,pos,af,gd⟩=mk')
  (k:ST P ops l ⟨mk n ((dd,r)::e),σ'⟩ (mk'::acc) R):ST P ops (⟨some dd,.call c,ty,pos,af,gd⟩::l) ⟨mk n e,σ⟩ acc R:=by
 subst hκ
 rw [← Iq hν hl] at hr hos
 obtain ⟨h1,h2⟩:=Et hσ
 exact ST.invoke hw rfl rfl (lX hargs) iP (fE hxo) hmt hp hcb hcan hre hc hr hos h2 h1 hm k
theorem SO.step {d:Nat} {v:AV} {Q:St→Prop} (hw:Wanted ops n e o true) (hd:o.dst=some d)
  (h:∀(a:Act) (ro:Ro) (μ:Mu) (w:World),oo ro μ (Lv.mk n e) a.tmps→Good ro μ w (hp σ)→(∀id L,μ id=some L→id < σ.length)→∃s,execOp a.eval o=(do pure (.value (← s)))∧Step P s ro μ w σ v σ')
  (k:SO P m ops l ⟨mk n ((d,v)::e),σ'⟩ Q):SO P m ops (o::l) ⟨mk n e,σ⟩ Q:=by
 intro dZ dW w0 H0 ro μ w a j Z hl hrel hQ
 have h0:ops[j]?=some o:=by have:=hl 0;simpa using this.symm
 have hl':∀i,l[i]?=ops[j+1+i]?:=fun i=>by have:=hl (i+1);simp at this;rw [this];congr 1;omega
 simp only [List.length_cons,List.range'_succ]
 rw [wpOps_cons]
 unfold wpOp
 simp only [h0]
 rw [qo hrel.env hw]
 simp only [if_true]
 refine .inl ?_
 obtain ⟨s,he,hs⟩:=h a ro μ w hrel.env hrel.good (fun id L hL=>hrel.dom id L hL)
 refine kI he hs fun v' ro' μ' w' k1 k2 k3 k4 k5=>?_
 have hop:=hrel.op k1 k2 k3 k4 k5 o.dst
 rw [hd] at hop ⊢
 exact k dZ dW w0 H0 ro' μ' w' _ (j+1) Z hl' (by rw [← qc];exact hop) hQ
end
end Lv
/- Blocks that lie apart from all objects: only calls and loads that are told by name meet them. -/
namespace Lv
open Go
variable [bJ]
abbrev Pool:=List (Nat×List D)
structure Pl (ro:Ro) (μ:Mu) (w:World) (H:Hp) (π:Pool):Prop where
 nd:(π.map Prod.fst).Nodup
 cell:∀q∈π,∃C T fz,w.heap[q.1]?=some (.cells C T fz)∧vW fz C.size∧C.size=q.2.length∧∀(j:Nat) (c:D) (v:Value),q.2[j]?=some c→C[j]?=some v→DR ro c v
 far:∀q∈π,¬LB H μ q.1
 dark:∀q∈π,∀a:Addr,a.block=q.1→ro a=none
section
variable {ro ro' qK Rx:Ro} {μ μ' y9 MK:Mu} {w w' w1 w2:World} {H H' H1 H2:Hp} {π Ct:Pool} {B B':Nat→Prop}
theorem Pl.lt (h:Pl ro μ w H π) {q:Nat×List D} (hq:q∈π):q.1 < w.heap.size:=by
 obtain ⟨C,T,fz,e,_⟩:=h.cell q hq
 rcases Nat.lt_or_ge q.1 w.heap.size with h | h
 ·exact h
 ·simp [Array.getElem?_eq_none h] at e
theorem Pl.step (h:Pl ro μ w H π) (x:yx ro μ w H ro' μ' w' H'):Pl ro' μ' w' H' π where
 nd:=h.nd
 cell q hq:=by
  obtain ⟨C,T,fz,e,h1,h2,h3⟩:=h.cell q hq
  exact ⟨C,T,fz,(x.frame q.1 (h.lt hq) (fun hw=>h.far q hq hw.lb)).trans e,h1,h2,fun j c v hc hv=>(h3 j c v hc hv).mono x.jC⟩
 far q hq hl:=(x.lJ q.1 hl).elim (fun k=>by have:=h.lt hq;omega) (h.far q hq)
 dark q hq a ha:=by
  cases e:ro' a with
  | none=>rfl
  | some v=>
   have hl:=h.lt hq
   rcases x.kr a v e with k | k | k
   ·rw [h.dark q hq a ha] at k;cases k
   ·rw [ha] at k;omega
   ·exact absurd (ha▸k.lb) (h.far q hq)
structure JY (B:Nat→Prop) (ro:Ro) (μ:Mu) (w:World) (H:Hp) (ro':Ro) (μ':Mu) (w':World) (H':Hp):Prop where
 jC:∀a v,ro a=some v→ro' a=some v
 kr:∀a v,ro' a=some v→ro a=some v∨w.heap.size≤a.block∨WB H μ a.block
 jE:∀b,WB H' μ' b→w.heap.size≤b∨WB H μ b
 lJ:∀b,LB H' μ' b→w.heap.size≤b∨LB H μ b
 frame:∀b,b < w.heap.size→¬WB H μ b→¬B b→w'.heap[b]?=w.heap[b]?
 size:w.heap.size≤w'.heap.size
 os:w'.os=w.os
 tape:w'.tape=w.tape
 output:w'.output=w.output
theorem JY.of (x:yx ro μ w H ro' μ' w' H'):JY B ro μ w H ro' μ' w' H':=
 ⟨x.jC,x.kr,x.jE,x.lJ,fun b h1 h2 _=>x.frame b h1 h2,x.size,x.os,x.tape,x.output⟩
theorem JY.to (x:JY (fun _=>False) ro μ w H ro' μ' w' H'):yx ro μ w H ro' μ' w' H':=
 ⟨x.jC,x.kr,x.jE,x.lJ,fun b h1 h2=>x.frame b h1 h2 id,x.size,x.os,x.tape,x.output⟩
theorem JY.trans (h:JY B ro μ w H qK y9 w1 H1) (k:JY B' qK y9 w1 H1 Rx MK w2 H2) (hB:∀b,B' b→w.heap.size≤b∨B b):JY B ro μ w H Rx MK w2 H2 where
 jC a v hi:=k.jC _ _ (h.jC _ _ hi)
 kr a v hi:=by
  rcases k.kr a v hi with h1 | h1 | h1
  ·exact h.kr a v h1
  ·exact .inr (.inl (Nat.le_trans h.size h1))
  ·exact .inr (h.jE _ h1)
 jE b hb:=by
  rcases k.jE b hb with h1 | h1
  ·exact .inl (Nat.le_trans h.size h1)
  ·exact h.jE _ h1
 lJ b hb:=by
  rcases k.lJ b hb with h1 | h1
  ·exact .inl (Nat.le_trans h.size h1)
  ·exact h.lJ _ h1
 frame b hb hn hB':=by
  rw [k.frame b (Nat.lt_of_lt_of_le hb h.size) (fun hw=>(h.jE b hw).elim (fun x=>by omega) hn) (fun q=>(hB b q).elim (fun x=>by omega) hB')]
  exact h.frame b hb hn hB'
 size:=Nat.le_trans h.size k.size
 os:=k.os.trans h.os
 tape:=k.tape.trans h.tape
 output:=k.output.trans h.output
end
structure Vq where
 wr:Nat→Prop
 ro:Prop
structure uZ (B:Vq) (m:Nat) (dZ:Ro) (dW:Mu) (w0:World) (H0:Hp) (ro:Ro) (μ:Mu) (w:World) (s:St×Pool) (a:Act):Prop where
 good:Good ro μ w (hp s.1.σ)
 env:oo ro μ s.1.env a.tmps
 dom:∀id L,μ id=some L→id < s.1.σ.length
 defers:a.defers=[]
 ext:JY B.wr dZ dW w0 H0 ro μ w (hp s.1.σ)
 keep:∀id,id < m→μ id=dW id
 hm:m≤s.1.σ.length
 pl:Pl ro μ w (hp s.1.σ) s.2
 own:∀q∈s.2,B.ro∨w0.heap.size≤q.1∨B.wr q.1
 bare:∀b,¬WB H0 dW b
section
variable {ro ro' qK Rx:Ro} {μ μ' y9 MK:Mu} {w w' w1 w2:World} {H H' H1 H2:Hp} {π Ct:Pool} {B:Vq}
variable {m:Nat} {dZ:Ro} {dW:Mu} {w0:World} {H0:Hp} {s s':St} {a a':Act}
theorem uZ.rel {sp:St×Pool} (h:uZ B m dZ dW w0 H0 ro μ w sp a):Rel m ro μ w (hp sp.1.σ) ro μ w sp.1 a:=⟨h.good,h.env,h.dom,h.defers,(Ext.refl _ _ _ _).Ri,fun _ _=>rfl,h.hm⟩
theorem uZ.after (h:uZ B m dZ dW w0 H0 ro μ w (s,π) a) (k:Rel m ro μ w (hp s.σ) ro' μ' w' s' a'):uZ B m dZ dW w0 H0 ro' μ' w' (s',π) a':=
 ⟨k.good,k.env,k.dom,k.defers,h.ext.trans (B':=fun _=>False) (.of k.ext) (fun _ h=>h.elim),fun id hi=>(k.keep id hi).trans (h.keep id hi),k.hm,h.pl.step k.ext,h.own,h.bare⟩
end
def OM (B:Vq) (m:Nat) (dZ:Ro) (dW:Mu) (w0:World) (H0:Hp) (s:St×Pool) (a:Act) (w:World):Prop:=∃ro μ,uZ B m dZ dW w0 H0 ro μ w s a
section
variable {P:Program} {B:Vq} {m:Nat} {ops:Array Oper} {o:Oper} {l:List Oper} {s s1 s':St} {π Ct:Pool} {A C:Code}
def gW (P:Program) (B:Vq) (m:Nat) (c:Code) (s:St×Pool) (Q:Ex→St×Pool→Prop):Prop:=
 ∀(dZ:Ro) (dW:Mu) (w0:World) (H0:Hp) (ro:Ro) (μ:Mu) (w:World) (a:Act) (Z:Exit→Act→World→Prop),uZ B m dZ dW w0 H0 ro μ w s a→
  (∀e s' a' w',Q e s'→OM B m dZ dW w0 H0 s' a' w'→Z e.exit' a' w')→c.wp P Z a w
def SIp (P:Program) (B:Vq) (m:Nat) (c:Code) (s:St×Pool) (Q:Ex→St×Pool→Prop):Prop:=
 ∀(dZ:Ro) (dW:Mu) (w0:World) (H0:Hp) (ro:Ro) (μ:Mu) (w:World) (a:Act) (Z:Exit→Act→World→Prop),uZ B m dZ dW w0 H0 ro μ w s a→
  (∀e s' a' w',Q e s'→OM B m dZ dW w0 H0 s' a' w'→Z e.exit' a' w')→wpIn P c Z a w
def zU (B:Vq) (m:Nat) (s s1:St×Pool):Prop:=∀(dZ:Ro) (dW:Mu) (w0:World) (H0:Hp) (ro:Ro) (μ:Mu) (w:World) (a:Act),uZ B m dZ dW w0 H0 ro μ w s a→OM B m dZ dW w0 H0 s1 a w
def Jh (P:Program) (B:Vq) (m:Nat) (ops:Array Oper) (l:List Oper) (s:St×Pool) (Q:St×Pool→Prop):Prop:=
 ∀(dZ:Ro) (dW:Mu) (w0:World) (H0:Hp) (ro:Ro) (μ:Mu) (w:World) (a:Act) (Z:Exit→Act→World→Prop),uZ B m dZ dW w0 H0 ro μ w s a→
  (∀s' a' w',Q s'→OM B m dZ dW w0 H0 s' a' w'→Z .normal a' w')→wpList P ops Z l a w
theorem zU.of {sp sq:St×Pool} (h:Wk m sp.1 sq.1) (e:sp.2=sq.2):zU B m sp sq:=by
 obtain ⟨s,π⟩:=sp
 obtain ⟨s1,π1⟩:=sq
 simp only at h e
 subst e
 intro dZ dW w0 H0 ro μ w a hr
 obtain ⟨qK,y9,h1⟩:=h ro μ w (hp s.σ) ro μ w a hr.rel
 exact ⟨qK,y9,hr.after h1⟩
theorem zU.refl (s:St×Pool):zU B m s s:=fun _ _ _ _ ro μ _ _ h=>⟨ro,μ,h⟩
theorem zU.trans {s s1 s2:St×Pool} (h:zU B m s s1) (k:zU B m s1 s2):zU B m s s2:=fun dZ dW w0 H0 ro μ w a hr=>let ⟨qK,y9,h1⟩:=h dZ dW w0 H0 ro μ w a hr;k dZ dW w0 H0 qK y9 w a h1
theorem zU.ends {s s1:St×Pool} (h:zU B m s s1) {dZ:Ro} {dW:Mu} {w0:World} {H0:Hp} {a:Act} {w:World} (he:OM B m dZ dW w0 H0 s a w):OM B m dZ dW w0 H0 s1 a w:=let ⟨ro,μ,hr⟩:=he;h dZ dW w0 H0 ro μ w a hr
variable {sp sq:St×Pool} {Q Q':Ex→St×Pool→Prop}
theorem gW.wk (h:zU B m sp sq) (k:gW P B m A sq Q):gW P B m A sp Q:=by
 intro dZ dW w0 H0 ro μ w a Z hr hQ
 obtain ⟨qK,y9,h1⟩:=h dZ dW w0 H0 ro μ w a hr
 exact k dZ dW w0 H0 qK y9 w a Z h1 hQ
theorem gW.post (h:gW P B m A sp Q') (hq:∀e s,Q' e s→∃s1,zU B m s s1∧Q e s1):gW P B m A sp Q:=by
 intro dZ dW w0 H0 ro μ w a Z hr hQ
 refine h dZ dW w0 H0 ro μ w a Z hr fun e s' a' w' h1 h2=>?_
 obtain ⟨s1,k1,k2⟩:=hq e s' h1
 exact hQ e s1 a' w' k2 (k1.ends h2)
theorem gW.mono (h:gW P B m A sp Q') (hq:∀e s,Q' e s→Q e s):gW P B m A sp Q:=h.post fun e s q=>⟨s,zU.refl s,hq e s q⟩
theorem gW.frame {Q0:Ex→St→Prop} (h:SC P m A s Q0) (hq:∀e s',Q0 e s'→Q e (s',π)):gW P B m A (s,π) Q:=by
 intro dZ dW w0 H0 ro μ w a Z hr hQ
 refine h ro μ w (hp s.σ) ro μ w a Z hr.rel fun e s' a' w' h1 h2=>?_
 obtain ⟨ro',μ',k⟩:=h2
 exact hQ e _ a' w' (hq e s' h1) ⟨ro',μ',hr.after k⟩
theorem gW.seq (h:gW P B m A sp (fun e s1=>match e with | .normal=>gW P B m C s1 Q | e=>Q e s1)):gW P B m (.seq A C) sp Q:=by
 intro dZ dW w0 H0 ro μ w act Z hr hQ
 refine wp_seq ?_
 refine h dZ dW w0 H0 ro μ w act _ hr fun e s' a' w' h1 h2=>?_
 cases e with
 | normal=>
  obtain ⟨ro',μ',hr'⟩:=h2
  exact h1 dZ dW w0 H0 ro' μ' w' a' Z hr' hQ
 | ret=>exact hQ .ret s' a' w' h1 h2
 | exit i=>exact hQ (.exit i) s' a' w' h1 h2
theorem gW.cond {c:Operand} {t:Bool} (hc:oM sp.1.env c=some (.d (.bool t))) (h1:t=true→gW P B m A sp Q) (h2:t=false→gW P B m C sp Q):gW P B m (.cond c A C) sp Q:=by
 intro dZ dW w0 H0 ro μ w act Z hr hQ
 have ec:act.eval c=.bool t:=gP (bS hr.env hc) rfl
 refine wp_cond ec ?_
 cases t with
 | true=>exact h1 rfl dZ dW w0 H0 ro μ w act Z hr hQ
 | false=>exact h2 rfl dZ dW w0 H0 ro μ w act Z hr hQ
theorem gW.skip (h:Q .normal sp):gW P B m .skip sp Q:=fun dZ dW w0 H0 ro μ w a Z hr hQ=>wp_skip (hQ .normal sp a w h ⟨ro,μ,hr⟩)
theorem gW.label {i:Nat} (h:Q .normal sp):gW P B m (.label i) sp Q:=fun dZ dW w0 H0 ro μ w a Z hr hQ=>wp_label (hQ .normal sp a w h ⟨ro,μ,hr⟩)
theorem gW.ret (h:Q .ret sp):gW P B m .ret sp Q:=fun dZ dW w0 H0 ro μ w a Z hr hQ=>wp_ret (hQ .ret sp a w h ⟨ro,μ,hr⟩)
theorem gW.exit {i:Nat} (h:Q (.exit i) sp):gW P B m (.exit i) sp Q:=fun dZ dW w0 H0 ro μ w a Z hr hQ=>wp_exit (hQ (.exit i) sp a w h ⟨ro,μ,hr⟩)
theorem gW.block {i:Nat} (h:gW P B m A sp (fun e s1=>match e with | .exit j=>if j=i then Q .normal s1 else Q (.exit j) s1 | e=>Q e s1)):gW P B m (.block i A) sp Q:=by
 intro dZ dW w0 H0 ro μ w act Z hr hQ
 refine wp_block ?_
 refine h dZ dW w0 H0 ro μ w act _ hr fun e s' a' w' h1 h2=>?_
 cases e with
 | normal=>exact hQ .normal s' a' w' h1 h2
 | ret=>exact hQ .ret s' a' w' h1 h2
 | exit j=>
  simp only at h1
  simp only [Ex.exit',Exit.inBlock]
  split at h1
  ·rename_i e;rw [if_pos e];exact hQ .normal s' a' w' h1 h2
  ·rename_i e;rw [if_neg e];exact hQ (.exit j) s' a' w' h1 h2
theorem gW.blk {i:Nat} (h:gW P B m A sp (fun e s1=>match e with | .exit j=>_root_.cond (Nat.beq j i) (Q .normal s1) (Q (.exit j) s1) | e=>Q e s1)):gW P B m (.block i A) sp Q:=by
 refine gW.block (h.mono fun e s1 hq=>?_)
 cases e with
 | normal=>exact hq
 | ret=>exact hq
 | exit j=>
  simp only at hq ⊢
  cases hb:Nat.beq j i with
  | true=>rw [hb] at hq;rw [if_pos (Nat.eq_of_beq_eq_true hb)];exact hq
  | false=>
   rw [hb] at hq
   rw [if_neg (fun e=>by subst e;simp at hb)]
   exact hq
theorem SIp.round {s s1:St×Pool} (hk:zU B m s s1) (h:gW P B m A s1 (fun e s'=>match e with | .normal=>SIp P B m A s' Q | e=>Q e s')):SIp P B m A s Q:=by
 intro dZ dW w0 H0 ro μ w a Z hr hQ
 obtain ⟨qK,y9,hr1⟩:=hk dZ dW w0 H0 ro μ w a hr
 refine Kv (h dZ dW w0 H0 qK y9 w a _ hr1 fun e s' a' w' h1 h2=>?_)
 cases e with
 | normal=>
  obtain ⟨ro',μ',hr'⟩:=h2
  exact h1 dZ dW w0 H0 ro' μ' w' a' Z hr' hQ
 | ret=>exact hQ .ret s' a' w' h1 h2
 | exit i=>exact hQ (.exit i) s' a' w' h1 h2
theorem gW.WE {Y:Type} (S:Y→St×Pool) (J:Nat→Y→Prop) {s:St×Pool} (n:Nat) (y:Y) (h0:zU B m s (S y)) (h1:J n y)
  (k:∀n y,J n y→gW P B m A (S y) (fun e s'=>match e with | .normal=>∃y' n',n' < n∧zU B m s' (S y')∧J n' y' | e=>Q e s')):gW P B m (.loop A) s Q:=by
 have key:∀n y s,zU B m s (S y)→J n y→SIp P B m A s Q:=by
  intro n
  induction n using Nat.strongRecOn with
  | ind n ih=>
   intro y s hw hj
   refine SIp.round hw ((k n y hj).mono fun e s' h2=>?_)
   cases e with
   | normal=>obtain ⟨y',n',h3,h4,h5⟩:=h2;exact ih n' h3 y' s' h4 h5
   | ret=>exact h2
   | exit i=>exact h2
 intro dZ dW w0 H0 ro μ w a Z hr hQ
 exact Kt (key n y s h0 h1 dZ dW w0 H0 ro μ w a Z hr hQ)
theorem gW.dw {Y R:Type} {p:Option Y} {k:Y→Option R} {r:R} (h:p.bind k=some r) (S:Y→St×Pool) (ha:∀y,p=some y→gW P B m A sp (fun e s'=>match e with | .normal=>zU B m s' (S y) | e=>Q e s')) (hb:∀y,k y=some r→gW P B m C (S y) Q):gW P B m (.seq A C) sp Q:=by
 obtain ⟨y,h1,h2⟩:=ob h
 refine gW.seq ((ha y h1).mono fun e s' hq=>?_)
 cases e with
 | normal=>exact gW.wk hq (hb y h2)
 | ret=>exact hq
 | exit i=>exact hq
theorem gW.seqB {Y E R:Type} {p:Option (Y⊕E)} {k:Y→Option R} {esc:E→Option R} {r:R} (h:fP p k esc=some r) (S:Y→St×Pool)
  (ha:∀u,p=some u→Sum.elim k esc u=some r→gW P B m A sp (fun e s'=>match e with | .normal=>∃y,u=.inl y∧zU B m s' (S y) | e=>Q e s')) (hb:∀y,k y=some r→gW P B m C (S y) Q):gW P B m (.seq A C) sp Q:=by
 obtain ⟨u,h1,h2⟩:=ob h
 refine gW.seq ((ha u h1 h2).mono fun e s' hq=>?_)
 cases e with
 | normal=>
  obtain ⟨y,rfl,hw⟩:=hq
  exact gW.wk hw (hb y h2)
 | ret=>exact hq
 | exit i=>exact hq
theorem gW.eH {Y W:Type} {G:Y→Option (Y⊕W)} {y0:Y} {w:W} (h:Lv.loop G y0=some w) (S:Y→St×Pool) (h0:zU B m sp (S y0))
  (k:∀n y v,G y=some v→Sum.elim (fun y'=>mM G n y'=some w) (fun w'=>w'=w) v→gW P B m A (S y) (fun e s'=>match e with | .normal=>∃y',v=.inl y'∧zU B m s' (S y') | e=>Q e s')):gW P B m (.loop A) sp Q:=by
 obtain ⟨n,hn⟩:=CK h
 refine gW.WE S (fun n y=>mM G n y=some w) n y0 h0 hn fun n y hj=>?_
 cases n with
 | zero=>cases hj
 | succ n=>
  simp only [mM] at hj
  cases hB:G y with
  | none=>rw [hB] at hj;cases hj
  | some v=>
   rw [hB] at hj
   have hv:Sum.elim (fun y'=>mM G n y'=some w) (fun w'=>w'=w) v:=by
    cases v with
    | inl y'=>exact hj
    | inr w'=>exact Option.some.inj hj
   refine (k n y v hB hv).mono fun e s' hq=>?_
   cases e with
   | normal=>
    obtain ⟨y',rfl,hw⟩:=hq
    exact ⟨y',n,by omega,hw,hv⟩
   | ret=>exact hq
   | exit i=>exact hq
end
section
variable {P:Program} {B:Vq} {m:Nat} {ops JL:Array Oper} {o:Oper} {l l1 l2:List Oper} {s s1 s':St} {π Ct:Pool} {A C:Code} {sp sq:St×Pool} {Q:Ex→St×Pool→Prop} {R:St×Pool→Prop}
def Qv (P:Program) (ops:Array Oper) (Z:Exit→Act→World→Prop) (l:List Oper):Exit→Act→World→Prop
 | .normal,a,w=>wpList P ops Z l a w
 | e,a,w=>Z e a w
theorem Tf {Z:Exit→Act→World→Prop} (h:LetsOut (Qv P ops Z l)):LetsOut Z:=h
theorem wp_cut {Z:Exit→Act→World→Prop} {a:Act} {w:World} {K K':Act→World→Prop} (hK:∀a w,K a w→K' a w) (h:o.wp P a w K (Qv P ops Z l)):o.wp P a w K' Z:=by
 unfold Oper.wp at *
 generalize (execOp a.eval o).run P w=r at *
 cases r with
 | ok n w'=>
  cases n <;> simp only [Oper.upon] at h ⊢ <;>
   first
    | exact hK _ _ h
    | exact Calls.mono h (fun e w'' he=>by cases e <;> first | exact hK _ _ he | exact he)
    | exact Rows.mono h (fun _ _ he=>hK _ _ he)
 | halt x w'=>cases x <;> simp only [Oper.upon] at h ⊢ <;> exact h
theorem ML {a:Array Value} {j:Nat} (h:(JL[j]?).bind (·.dst)=(ops[j]?).bind (·.dst)):yielded JL a j=yielded ops a j:=by unfold yielded;rw [h]
def gOk (JL ops:Array Oper) (o:Oper):Prop:=∀j w,o.guard=some (j,w)→(JL[j]?).bind (·.dst)=(ops[j]?).bind (·.dst)
theorem Fb (h:gOk JL ops o) (t:Array Value):Region.wanted o (yielded JL t)=Region.wanted o (yielded ops t):=by
 unfold Region.wanted
 split
 ·rfl
 ·rename_i j want hg
  rw [ML (h j want hg)]
theorem Ku {Z:Exit→Act→World→Prop}:∀{l1:List Oper} {a:Act} {w:World},(∀o∈l1,gOk JL ops o)→wpList P JL (Qv P ops Z l2) l1 a w→wpList P ops Z (l1++l2) a w
 | [],a,w,_,h=>h
 | o::r,a,w,hg,h=>by
  have hr:∀a w,wpList P JL (Qv P ops Z l2) r a w→wpList P ops Z (r++l2) a w:=fun a w=>Ku fun o ho=>hg o (List.mem_cons_of_mem _ ho)
  simp only [List.cons_append,wpList] at h ⊢
  rw [Fb (hg o List.mem_cons_self)] at h
  split
  ·rename_i hw
   rw [if_pos hw] at h
   rcases h with h | h
   ·exact .inl (wp_cut hr h)
   ·exact .inr ⟨h.1,Tf h.2⟩
  ·rename_i hw
   rw [if_neg hw] at h
   exact hr _ _ h
theorem Jh.seg (k:Nat) (hl:∀j,l1[j]?=JL[k+j]?) (hg:∀o∈l1,gOk JL ops o) (h:SO P m JL l1 s (fun s1=>Jh P B m ops l2 (s1,π) R)):Jh P B m ops (l1++l2) (s,π) R:=by
 intro dZ dW w0 H0 ro μ w a Z hr hQ
 refine Ku hg ?_
 have:=h ro μ w (hp s.σ) ro μ w a k (Qv P ops Z l2) hl hr.rel fun s' a' w' h1 h2=>by
  obtain ⟨ro',μ',h2⟩:=h2
  exact h1 dZ dW w0 H0 ro' μ' w' a' Z (hr.after h2) hQ
 rw [wpOps_eq_wpList l1 k hl] at this
 exact this
theorem XR (k:Nat) (hd:ops.toList.drop k=o::l) (hg:∀j w,o.guard=some (j,w)→j < k) (h:SO P m (ops.toList.take (k+1)).toArray [o] s (fun s1=>Jh P B m ops l (s1,π) R)):Jh P B m ops (o::l) (s,π) R:=by
 have hk:ops.toList[k]?=some o:=by have:=congrArg (fun l=>l[0]?) hd;simpa using this
 refine Jh.seg (l1:=[o]) k (fun j=>?_) (fun o' ho' j w hj=>?_) h
 ·cases j with
  | zero=>simp [List.getElem?_take,hk]
  | succ j=>simp [List.getElem?_take]
 ·simp only [List.mem_singleton] at ho'
  subst ho'
  have:=hg j w hj
  simp [List.getElem?_take,show j < k+1 by omega]
theorem fnQ (k:Nat) (hd:ops.toList.drop k=l) (h:SO P m ops l s (fun s1=>R (s1,π))):Jh P B m ops l (s,π) R:=by
 intro dZ dW w0 H0 ro μ w a Z hr hQ
 have hl:∀j,l[j]?=ops[k+j]?:=fun j=>by rw [← hd,List.getElem?_drop];simp
 have:=h ro μ w (hp s.σ) ro μ w a k Z hl hr.rel fun s' a' w' h1 h2=>by
  obtain ⟨ro',μ',h2⟩:=h2
  exact hQ _ a' w' h1 ⟨ro',μ',hr.after h2⟩
 rw [wpOps_eq_wpList l k hl] at this
 exact this
theorem Jh.nil (h:R sp):Jh P B m ops [] sp R:=fun dZ dW w0 H0 ro μ w a Z hr hQ=>hQ sp a w h ⟨ro,μ,hr⟩
theorem gW.Pk {id:Nat} (h:Jh P B m ops ops.toList sp (fun s'=>Q .normal s')):gW P B m (.region id ops false) sp Q:=
 fun dZ dW w0 H0 ro μ w a Z hr hQ=>wp_region_list (h dZ dW w0 H0 ro μ w a Z hr fun s' a' w' h2 he=>hQ .normal s' a' w' h2 he)
theorem gW.region {id:Nat} (h:SO P m ops ops.toList s (fun s'=>Q .normal (s',π))):gW P B m (.region id ops false) (s,π) Q:=gW.Pk (fnQ 0 rfl h)
theorem gW.draws {id:Nat} (hok:pW P ops=true) (h:ST P ops ops.toList s [] (fun s' t=>eD ops t=true∧Q .normal (s',π))):gW P B m (.region id ops true) (s,π) Q:=by
 refine gW.frame (Q0:=fun e s'=>e=.normal∧Q .normal (s',π)) (SC.draws hok ?_) (fun e s' h=>?_)
 ·obtain ⟨s',t,h1,h2,h3⟩:=h
  exact ⟨s',t,h1,h2,rfl,h3⟩
 ·obtain ⟨rfl,h⟩:=h;exact h
def acO (P:Program) (s:St) (π:Pool) (o:Oper) (v:AV):Prop:=
 ∀(ro:Ro) (μ:Mu) (w:World) (a:Act),Good ro μ w (hp s.σ)→oo ro μ s.env a.tmps→Pl ro μ w (hp s.σ) π→∃u,(execOp a.eval o).run P w=.ok (.value u) w∧VR ro μ v u
inductive Stl (P:Program) (π:Pool):List Oper→St→St→Prop
 | nil (s:St):Stl P π [] s s
 | cons {o:Oper} {l:List Oper} {s s':St} {v:AV} (hg:o.guard=none) (h:acO P s π o v) (k:Stl P π l ⟨qY s.env o.dst v,s.σ⟩ s'):Stl P π (o::l) s s'
theorem uZ.put {dZ:Ro} {dW:Mu} {w0:World} {H0:Hp} {ro:Ro} {μ:Mu} {w:World} {a:Act} {v:AV} {u:Value} (h:uZ B m dZ dW w0 H0 ro μ w (s,π) a) (hv:VR ro μ v u) (d:Option Tmp):uZ B m dZ dW w0 H0 ro μ w (⟨qY s.env d v,s.σ⟩,π) (a.put d u):=
 ⟨h.good,xL h.env hv d,h.dom,by rw [qB];exact h.defers,h.ext,h.keep,h.hm,h.pl,h.own,h.bare⟩
theorem Stl.run {dZ:Ro} {dW:Mu} {w0:World} {H0:Hp} {ro:Ro} {μ:Mu} {w:World} {K:Act→Prop} (h:Stl P π l s s'):∀{a:Act},uZ B m dZ dW w0 H0 ro μ w (s,π) a→(∀a',uZ B m dZ dW w0 H0 ro μ w (s',π) a'→K a')→wpStill P ops w K l a:=by
 induction h with
 | nil s=>intro a hr hK;exact hK a hr
 | cons hg h k ih=>
  intro a hr hK
  obtain ⟨u,h1,h2⟩:=h ro μ w a hr.good hr.env hr.pl
  unfold wpStill
  rw [if_pos (by simp [Region.wanted,hg])]
  unfold Oper.still
  rw [h1,Oper.stillUpon_value]
  exact ih (hr.put h2 _) hK
theorem uZ.drawn {dZ:Ro} {dW:Mu} {w0:World} {H0:Hp} {ro:Ro} {μ:Mu} {w:World} {a:Act} (k:Nat) (h:uZ B m dZ dW w0 H0 ro μ w sp a):uZ B m dZ dW w0 H0 ro μ { w with drawn:=k } sp a:=
 ⟨⟨h.good.qJ,h.good.ob,h.good.apart,h.good.gu,h.good.base⟩,h.env,h.dom,h.defers,⟨h.ext.jC,h.ext.kr,h.ext.jE,h.ext.lJ,h.ext.frame,h.ext.size,h.ext.os,h.ext.tape,h.ext.output⟩,h.keep,h.hm,⟨h.pl.nd,h.pl.cell,h.pl.far,h.pl.dark⟩,h.own,h.bare⟩
end
section
variable {P:Program} {B:Vq} {m:Nat} {ops:Array Oper} {o:Oper} {l:List Oper} {n:Nat} {e:En} {σ:List Ob} {π Ct:Pool} {A C:Code} {Q:Ex→St×Pool→Prop} {R:St×Pool→Prop} {s s1:St} {v:AV}
def stK:Op→Bool
 | .move _=>true
 | .load _ _=>true
 | .nilCheck _=>true
 | .fieldAddr _ _ _=>true
 | .indexAddr _ _ _=>true
 | _=>false
theorem Zf {call:Callee} {a:Act} {env:List AV} {σ':List Ob} {x:AV} {ro:Ro} {μ:Mu} {w:World} (hk:stK o.op=true) (h:kQ P call env σ o=some (x,σ')) (g:Good ro μ w (hp σ)) (he:oo ro μ env a.tmps):
  ∃u,(execOp a.eval o).run P w=.ok (.value u) w∧VR ro μ x u:=by
 have still:∀(s:Sem Value),execOp a.eval o=(do pure (.value (← s)))→(∃v,s.run P w=.ok v w∧VR ro μ x v)→∃u,(execOp a.eval o).run P w=.ok (.value u) w∧VR ro μ x u:=by
  rintro s hs ⟨v,h1,h2⟩
  exact ⟨v,by rw [hs];simp only [Sem.run_bind,h1,Result.andThen_ok,Sem.run_pure],h2⟩
 cases ho:o.op with
 | move y=>
  simp only [kQ,ho] at h
  split at h
  ·rename_i v hv
   simp only [Option.some.injEq,Prod.mk.injEq] at h
   obtain ⟨rfl,rfl⟩:=h
   exact still (pure (a.eval y)) (by simp [execOp,ho]) ⟨_,rfl,bS he hv⟩
  ·cases h
 | load t y=>
  simp only [kQ,ho] at h
  split at h
  ·rename_i v hv
   split at h
   ·rename_i z hz
    simp only [Option.some.injEq,Prod.mk.injEq] at h
    obtain ⟨rfl,rfl⟩:=h
    obtain ⟨u,p,e,k1,k2⟩:=uM g (bS he hv) hz
    exact still (Instr.loadAt t (a.eval y)) (by simp [execOp,ho]) ⟨u,by rw [e];simp only [Instr.loadAt,Instr.sureAddr,Sem.run_bind,Sem.run_pure,Result.andThen_ok,k1],k2⟩
   ·cases h
  ·cases h
 | nilCheck y=>
  simp only [kQ,ho] at h
  split at h
  ·rename_i id idx off hv
   simp only [Option.some.injEq,Prod.mk.injEq] at h
   obtain ⟨rfl,rfl⟩:=h
   have hv':=bS he hv
   obtain ⟨L,hL,e⟩:=zV hv'
   refine still (pure (a.eval y)) ?_ ⟨_,rfl,hv'⟩
   simp [execOp,ho,e]
  ·rename_i cs hv
   simp only [Option.some.injEq,Prod.mk.injEq] at h
   obtain ⟨rfl,rfl⟩:=h
   have hv':=bS he hv
   obtain ⟨b,o',g',e,_⟩:=Mt hv'
   refine still (pure (a.eval y)) ?_ ⟨_,rfl,hv'⟩
   simp [execOp,ho,e]
  ·rename_i t v hv
   simp only [Option.some.injEq,Prod.mk.injEq] at h
   obtain ⟨rfl,rfl⟩:=h
   have hv':=bS he hv
   obtain ⟨u,hu⟩:∃u,a.eval y=.iface t u:=by
    generalize a.eval y=q at hv'
    cases hv' with
    | iface _ _ u h=>exact ⟨_,rfl⟩
   refine still (pure (a.eval y)) ?_ ⟨_,rfl,hv'⟩
   simp [execOp,ho,hu]
  ·cases h
 | fieldAddr t y f=>
  simp only [kQ,ho] at h
  split at h
  ·rename_i u hu
   split at h
   ·rename_i r hr
    simp only [Option.some.injEq,Prod.mk.injEq] at h
    obtain ⟨rfl,rfl⟩:=h
    exact still (Instr.fieldAt t (a.eval y) f) (by simp [execOp,ho]) (y5 (bS he hu) hr w)
   ·cases h
  ·cases h
 | indexAddr t y z=>
  simp only [kQ,ho] at h
  split at h
  ·rename_i u v hu hv
   split at h
   ·rename_i r hr
    simp only [Option.some.injEq,Prod.mk.injEq] at h
    obtain ⟨rfl,rfl⟩:=h
    exact still (Instr.indexAt t (a.eval y) (a.eval z)) (by simp [execOp,ho]) (yZ (bS he hu) (bS he hv) hr w)
   ·cases h
  ·cases h
 | _=>rw [ho] at hk;cases hk
variable {d:Option Tmp} {dd:Tmp} {op:Op} {ty:TypeId} {x:Operand} {t:TypeId} {f b:Nat}
theorem acO.of {pos af} (hk:stK op=true) (h:Yl P n e σ op v σ):acO P ⟨mk n e,σ⟩ π ⟨d,op,ty,pos,af,none⟩ v:=by
 intro ro μ w a g he _
 obtain ⟨v0,h1,h2⟩:=h
 obtain ⟨u,k1,k2⟩:=Zf (o:=⟨d,op,ty,pos,af,none⟩) (call:=fun _ _ _=>none) hk (h1 _ rfl _) g he
 exact ⟨u,k1,h2 _ _ _ k2⟩
theorem abZ {ro:Ro} {μ:Mu} {a:Act} (he:oo ro μ (mk n e) a.tmps) (hx:lq n e x=some (.d (.y7 b))):a.eval x=.pointer (some (cellAt b 0)):=by
 have h:=bS he (eG (fE hx))
 generalize a.eval x=v at h
 cases h with
 | d _ _ h=>cases h;rfl
theorem acO.nil {pos af} (hx:lq n e x=some (.d (.y7 b))):acO P ⟨mk n e,σ⟩ π ⟨d,.nilCheck x,ty,pos,af,none⟩ (.d (.y7 b)):=by
 intro ro μ w a g he _
 have h:=abZ he hx
 exact ⟨_,by simp only [execOp,h];rfl,.d _ _ (.y7 b)⟩
end
abbrev JM:Mu:=fun _=>none
def MJ (P:Program) (f:FuncId) (args:List AV) (π:Pool) (r:AV) (Ct:Pool):Prop:=
 ∀(ro:Ro) (w:World) (fG:Array Value),Good ro JM w (hp [])→oo ro JM args fG→Pl ro JM w (hp []) π→
  Calls P f fG w (fun e w'=>∃v ro',e=.returned v∧VR ro' JM r v∧Good ro' JM w' (hp [])∧JY (fun b=>b∈π.map Prod.fst) ro JM w (hp []) ro' JM w' (hp [])∧Pl ro' JM w' (hp []) Ct∧(∀q∈Ct,w.heap.size≤q.1∨q.1∈π.map Prod.fst))
def Jc:AV→Bool
 | .d _=>true
 | .tuple []=>true
 | _=>false
theorem Gq {ro:Ro} {μ μ':Mu} {x:AV} {v:Value} (h:Jc x=true) (k:VR ro μ x v):VR ro μ' x v:=by
 cases k with
 | d x v k=>exact .d x v k
 | tuple cs vs hs hh=>
  cases cs with
  | nil=>exact .tuple [] vs hs (fun i x v hx=>by simp at hx)
  | cons c cs=>simp [Jc] at h
 | _=>simp [Jc] at h
def U7 (l:List AV):Bool:=l.all Jc
theorem YE {ro:Ro} {μ μ':Mu} {xs:List AV} {vs:Array Value} (h:U7 xs=true) (k:oo ro μ xs vs):oo ro μ' xs vs:=
 ⟨k.size,fun i x v hx hv=>Gq (List.all_eq_true.1 h x (List.mem_of_getElem? hx)) (k.get i x v hx hv)⟩
theorem Good.bare {ro:Ro} {μ:Mu} {w:World} {H:Hp} (g:Good ro μ w H):Good ro JM w (hp []) where
 qJ:=g.qJ
 ob id:=by simp [hp];trivial
 apart id id' L L' h:=by simp [hp,Ob.wr] at h
 gu b h:=by obtain ⟨id,L,h1,_⟩:=h;simp [hp,Ob.wr] at h1
 base:=g.base
theorem R7 {μ:Mu} {b:Nat} (h:WB (hp []) μ b):False:=by obtain ⟨id,L,h1,_⟩:=h;simp [hp,Ob.wr] at h1
theorem ahB {μ:Mu} {b:Nat} (h:LB (hp []) μ b):False:=by obtain ⟨id,L,h1,_⟩:=h;simp [hp,Ob.live] at h1
theorem Pl.bare {ro:Ro} {μ:Mu} {w:World} {H:Hp} {π:Pool} (h:Pl ro μ w H π):Pl ro JM w (hp []) π:=⟨h.nd,h.cell,fun q hq hl=>ahB hl,h.dark⟩
section
variable {P:Program} {B:Vq} {m:Nat} {ops:Array Oper} {o:Oper} {l:List Oper} {n:Nat} {e:En} {σ:List Ob} {π Ct:Pool} {A C:Code} {Q:Ex→St×Pool→Prop} {R:St×Pool→Prop} {s s1:St} {v:AV} {d:Option Tmp} {dd:Tmp} {ty:TypeId}
theorem uZ.called (hB:¬B.ro) {dZ:Ro} {dW:Mu} {w0:World} {H0:Hp} {ro ro':Ro} {μ:Mu} {w w':World} {a:Act} {r:AV} {v:Value} (h:uZ B m dZ dW w0 H0 ro μ w (s,π) a) (hf:Jc r=true)
  (hv:VR ro' JM r v) (g:Good ro' JM w' (hp [])) (x:JY (fun b=>b∈π.map Prod.fst) ro JM w (hp []) ro' JM w' (hp [])) (p:Pl ro' JM w' (hp []) Ct) (ho:∀q∈Ct,w.heap.size≤q.1∨q.1∈π.map Prod.fst) (d:Option Tmp):
  uZ B m dZ dW w0 H0 ro' μ w' (⟨qY s.env d r,s.σ⟩,Ct) (a.put d v):=by
 have far:∀b,LB (hp s.σ) μ b→b∉π.map Prod.fst:=by
  intro b hb hm
  obtain ⟨q,hq,rfl⟩:=List.mem_map.1 hm
  exact h.pl.far q hq hb
 have hsame:∀b,LB (hp s.σ) μ b→w'.heap[b]?=w.heap[b]?:=fun b hb=>x.frame b (h.good.lt hb) R7 (far b hb)
 have own':∀q∈Ct,w.heap.size≤q.1∨∃q0∈π,q0.1=q.1:=fun q hq=>(ho q hq).imp id fun k=>by simpa using k
 refine ⟨⟨g.qJ,fun id=>?_,h.good.apart,fun b hb a ha=>?_,fun a v k=>x.jC a v (h.good.base a v k)⟩,xL (h.env.mono x.jC (fun _ _ k=>k)) (Gq hf hv) d,h.dom,by rw [qB];exact h.defers,?_,h.keep,h.hm,⟨p.nd,p.cell,fun q hq hl=>?_,p.dark⟩,fun q hq=>?_,h.bare⟩
 ·by_cases hl:(hp s.σ id).live=true
  ·exact (h.good.ob id).keep x.jC (fun _ _ k=>k) rfl (fun L hL=>hsame _ ⟨id,L,hl,hL,rfl⟩)
  ·have:hp s.σ id=.dead:=by cases e:hp s.σ id <;> simp [e,Ob.live] at hl ⊢
   simp only [this];trivial
 ·cases k:ro' a with
  | none=>rfl
  | some v=>
   rcases x.kr a v k with q | q | q
   ·rw [h.good.gu b hb a ha] at q;cases q
   ·have:=h.good.lt hb.lb;rw [ha] at q;omega
   ·exact (R7 q).elim
 ·exact h.ext.trans (B':=fun b=>b∈π.map Prod.fst) ⟨x.jC,fun a v k=>(x.kr a v k).imp id fun k=>k.imp id fun q=>(R7 q).elim,fun _ k=>.inr k,fun _ k=>.inr k,fun b h1 _ h3=>x.frame b h1 R7 h3,x.size,x.os,x.tape,x.output⟩
   (fun b hb=>by obtain ⟨q,hq,rfl⟩:=List.mem_map.1 hb;exact (h.own q hq).resolve_left hB)
 ·rcases own' q hq with k | ⟨q0,k1,k2⟩
  ·have:=h.good.lt hl;omega
  ·exact h.pl.far q0 k1 (k2▸hl)
 ·rcases own' q hq with k | ⟨q0,k1,k2⟩
  ·exact .inr (.inl (Nat.le_trans h.ext.size k))
  ·exact k2▸h.own q0 k1
theorem pcQ {c:Call} {fo:Operand} {f:FuncId} {args:List AV} {r:AV} {g af pos} (hc:MJ P f args π r Ct) (hw:Wanted ops n e ⟨some dd,.call c,ty,pos,af,g⟩ true) (hargs:Sk n e c.args.toList=some args) (iP:c.callee=.value fo)
  (hfo:lq n e fo=some (.fn (.func f) [] [])) (hcb:callable P f=true) (hfl:U7 args=true) (hfr:Jc r=true) (hB:¬B.ro) (k:Jh P B m ops l (⟨mk n ((dd,r)::e),σ⟩,Ct) R):Jh P B m ops (⟨some dd,.call c,ty,pos,af,g⟩::l) (⟨mk n e,σ⟩,π) R:=by
 intro dZ dW w0 H0 ro μ w a Z hr hQ
 unfold wpList
 rw [qo hr.env hw,if_pos rfl]
 refine .inl ?_
 have hf:=bS hr.env (eG (fE hfo))
 obtain ⟨vs,us,ef,h1,h2⟩:=OJ hf
 have ev:vs=#[]:=by have:=h1.size;simpa using this
 have eu:us=#[]:=by have:=h2.size;simpa using this
 subst ev;subst eu
 have hs:=jr hr.env (kU (lX hargs))
 have e0:(c.args.toList.map a.eval).toArray=c.args.map a.eval:=Array.ext' (by simp)
 rw [e0] at hs
 have hrun:(execOp a.eval ⟨some dd,.call c,ty,pos,af,g⟩).run P w=.ok (.enter f (c.args.map a.eval)) w:=by
  unfold callable at hcb
  split at hcb
  ·rename_i fn hfn
   simp only [Bool.and_eq_true,bne_iff_ne,ne_eq] at hcb
   have hbody:fn.body.isNone=false:=by simpa using hcb.2
   simp only [execOp,resolve,iP,ef,Deferred.ofValue,pure_bind,invoke,callFunc,Sem.run_bind,run_program,Result.andThen_ok,hfn,beq_iff_eq,hcb.1,if_false,hbody,Bool.false_eq_true,Sem.run_pure,Array.append_empty,Array.empty_append]
  ·cases hcb
 unfold Oper.wp
 rw [hrun]
 simp only [Oper.upon]
 refine (hc ro w _ hr.good.bare (YE hfl hs) hr.pl.bare).mono ?_
 rintro e w' ⟨v,ro',rfl,k1,k2,k3,k4,k5⟩
 have:=hr.called hB hfr k1 k2 k3 k4 k5 (some dd)
 simp only [qc] at this
 exact k dZ dW w0 H0 ro' μ w' _ Z this hQ
def aeK (P:Program) (fn:Func) (r:AV) (Ct:Pool) (e:Ex) (s:St×Pool):Prop:=(e=.normal∨e=.ret)∧(∃rs,jK P s.1 fn.results.toList=some rs∧F6 rs=r∧s.1.σ=[])∧s.2=Ct
theorem MJ.of {f:FuncId} {args:List AV} {r:AV} {fn:Func} {c:Code} (hfn:P.funcs[f]?=some fn) (hbody:fn.body=some c) (hfr:Jc r=true)
  (h:gW P ⟨fun b=>b∈π.map Prod.fst,False⟩ 0 c (⟨args++List.replicate (fn.ntmps - args.length) (.tuple []),[]⟩,π) (aeK P fn r Ct)):MJ P f args π r Ct:=by
 intro ro w fG g ha ate
 let a0:Act:={ tmps:=fG++Array.replicate (fn.ntmps - fG.size) undef,defers:=[] }
 have hrel:uZ ⟨fun b=>b∈π.map Prod.fst,False⟩ 0 ro JM w (hp []) ro JM w (⟨args++List.replicate (fn.ntmps - args.length) (.tuple []),[]⟩,π) a0:=by
  refine ⟨g,?_,fun id L h=>(by cases h),rfl,.of (Ext.refl _ _ _ _).Ri,fun _ _=>rfl,Nat.le_refl _,ate,fun q hq=>.inr (.inr (List.mem_map.2 ⟨q,hq,rfl⟩)),fun b h=>R7 h⟩
  have e:fn.ntmps - args.length=fn.ntmps - fG.size:=by rw [ha.size]
  refine jW ha ⟨by simp [e],fun i x v hx hv=>?_⟩
  rw [List.getElem?_replicate] at hx
  rw [Array.getElem?_replicate] at hv
  split at hx
  ·split at hv
   ·simp only [Option.some.injEq] at hx hv
    subst hx;subst hv
    exact .tuple [] #[] rfl (fun i x v hx=>by simp at hx)
   ·cases hv
  ·cases hx
 refine calls_of_wp hfn hbody (h ro JM w (hp []) ro JM w a0 _ hrel fun e s' a' w' hq he=>?_)
 obtain ⟨he1,⟨rs,h1,rfl,h3⟩,rfl⟩:=hq
 obtain ⟨ro',μ',hr⟩:=he
 obtain ⟨v,k1,k2⟩:=Bp hr.good hr.env h1
 have hμ:μ'=JM:=by
  funext i
  cases hm:μ' i with
  | none=>rfl
  | some L=>have:=hr.dom i L hm;rw [h3] at this;simp at this
 have fin:a'.defers=[]∧∃v,(results fn a'.tmps).run P w'=.ok v w'∧(∃u ro',Ending.returned v=.returned u∧VR ro' JM (F6 rs) u∧Good ro' JM w' (hp [])∧JY (fun b=>b∈π.map Prod.fst) ro JM w (hp []) ro' JM w' (hp [])∧Pl ro' JM w' (hp []) s'.2∧(∀q∈s'.2,w.heap.size≤q.1∨q.1∈π.map Prod.fst)):=by
  have hg:=hr.good
  have hx:=hr.ext
  have hpl:=hr.pl
  rw [h3,hμ] at hg hx hpl
  exact ⟨hr.defers,v,k1,v,ro',rfl,hμ▸k2,hg,hx,hpl,fun q hq=>(hr.own q hq).resolve_left id⟩
 rcases he1 with rfl | rfl
 ·exact fin
 ·exact fin
end
section
variable {P:Program} {B:Vq} {m:Nat} {ops:Array Oper} {o:Oper} {l:List Oper} {n:Nat} {e:En} {σ:List Ob} {π Ct:Pool} {A C:Code} {Q:Ex→St×Pool→Prop} {R:St×Pool→Prop} {s s1 s':St} {v:AV} {d:Option Tmp} {dd:Tmp} {ty:TypeId} {sp:St×Pool}
theorem MJ.inj {f b:Nat} {args:List AV} {r x x':AV} {cs cs':List D} {rest:List Ob} (hc:aT P f (.ref 0 0 0::args) [.box x] r (.box x'::rest)) (hx:x.cells=cs.map .d) (hx':x'.cells=cs'.map .d) (hm:(b,cs)∈π) (hfl:U7 args=true) (hfr:Jc r=true)
  (hπ:π.map (fun q=>if q.1=b then (b,cs') else q)=Ct):MJ P f (.d (.y7 b)::args) π r Ct:=by
 subst hπ
 intro ro w fG g ha hp
 let L:Loc:=⟨b,0,0,0⟩
 let y9:Mu:=fun id=>if id=0 then some L else none
 have m1:∀id L',y9 id=some L'→id=0∧L'=L:=by
  intro id L' h
  simp only [y9] at h
  split at h
  ·rename_i e;exact ⟨e,(Option.some.inj h).symm⟩
  ·cases h
 obtain ⟨C0,T0,fz0,e0,u0,z0,c0⟩:=hp.cell _ hm
 simp only at e0 z0 c0
 have b1:∀(y:AV) b',WB (Lv.hp [Ob.box y]) y9 b'→b'=b:=by
  rintro y b' ⟨id,L',h1,h2,h3⟩
  obtain ⟨rfl,rfl⟩:=m1 _ _ h2
  exact h3.symm
 have l1:∀(y:AV) b',LB (Lv.hp [Ob.box y]) y9 b'→b'=b:=by
  rintro y b' ⟨id,L',h1,h2,h3⟩
  obtain ⟨rfl,rfl⟩:=m1 _ _ h2
  exact h3.symm
 have g1:Good ro y9 w (Lv.hp [Ob.box x]):=by
  refine ⟨g.qJ,fun id=>?_,fun id id' L1 L2 h1 h2 h3 h4 h5=>?_,fun b' hb a ha=>?_,g.base⟩
  ·cases id with
   | zero=>
    rw [dR (σ:=[Ob.box x]) (id:=0) rfl]
    intro L' hL'
    obtain ⟨_,rfl⟩:=m1 _ _ hL'
    refine ⟨C0,T0,fz0,rfl,e0,u0,⟨by rw [hx,z0];simp,fun i y v hy hv=>?_⟩⟩
    rw [hx,List.getElem?_map,Option.map_eq_some_iff] at hy
    obtain ⟨c,hc,rfl⟩:=hy
    exact .d c v (c0 i c v hc hv)
   | succ k=>rw [qg (by simp)];trivial
  ·rw [(m1 _ _ h3).1,(m1 _ _ h4).1]
  ·rw [b1 x b' hb] at ha
   exact hp.dark _ hm a ha
 have hV:oo ro y9 (.ref 0 0 0::args) fG:=by
  refine ⟨ha.size,fun i y v hy hv=>?_⟩
  cases i with
  | zero=>
   simp only [List.getElem?_cons_zero,Option.some.injEq] at hy
   subst hy
   have:=ha.get 0 _ v rfl hv
   cases this with
   | d _ _ h=>cases h;exact .ref 0 0 0 L rfl
  | succ i=>exact Gq (List.all_eq_true.1 hfl y (List.mem_of_getElem? (by simpa using hy))) (ha.get (i+1) y v (by simpa using hy) hv)
 refine (hc ro y9 w fG g1 (fun id L' h=>by rw [(m1 _ _ h).1];simp) hV).mono ?_
 rintro e w' ⟨v,ro',μ',rfl,k1,k2,k3,k4,k5⟩
 have ak6:μ' 0=some L:=(k5 0 (by simp)).trans rfl
 have wb':WB (Lv.hp (Ob.box x'::rest)) μ' b:=⟨0,L,by rw [dR (σ:=Ob.box x'::rest) (id:=0) rfl];rfl,ak6,rfl⟩
 have w9:=k2.ob 0
 rw [dR (σ:=Ob.box x'::rest) (id:=0) rfl] at w9
 obtain ⟨C1,T1,fz1,_,e1,u1,c1⟩:=w9 L ak6
 have hw0:WB (Lv.hp [Ob.box x]) y9 b:=⟨0,L,by rw [dR (σ:=[Ob.box x]) (id:=0) rfl];rfl,rfl,rfl⟩
 have roN:∀a v,ro' a=some v→ro a=some v∨w.heap.size≤a.block:=by
  intro a v h
  rcases k3.kr a v h with q | q | q
  ·exact .inl q
  ·exact .inr q
  ·rw [k2.gu b wb' a (b1 x _ q)] at h;cases h
 refine ⟨v,ro',rfl,Gq hfr k1,k2.bare,⟨k3.jC,fun a v h=>(roN a v h).imp id .inl,fun b' h=>(R7 h).elim,fun b' h=>(ahB h).elim,fun b' h1 _ h3=>k3.frame b' h1 fun q=>h3 (b1 x _ q▸List.mem_map.2 ⟨_,hm,rfl⟩),k3.size,k3.os,k3.tape,k3.output⟩,⟨?_,fun q hq=>?_,fun q hq hl=>(ahB hl).elim,fun q hq a hq'=>?_⟩,fun q hq=>?_⟩
 ·have:(π.map (fun q=>if q.1=b then (b,cs') else q)).map Prod.fst=π.map Prod.fst:=by
   rw [List.map_map]
   refine List.map_congr_left fun q _=>?_
   simp only [Function.comp_apply]
   split
   ·rename_i h;exact h.symm
   ·rfl
  rw [this];exact hp.nd
 ·obtain ⟨q0,h0,rfl⟩:=List.mem_map.1 hq
  by_cases hb:q0.1=b
  ·rw [if_pos hb]
   refine ⟨C1,T1,fz1,e1,u1,by rw [c1.size,hx'];simp,fun j c v hc hv=>?_⟩
   have:=c1.get j (.d c) v (by rw [hx',List.getElem?_map];simp only at hc;rw [hc];rfl) hv
   cases this;assumption
  ·rw [if_neg hb]
   obtain ⟨C,T,fz,q1,q2,q3,q4⟩:=hp.cell q0 h0
   exact ⟨C,T,fz,(k3.frame _ (hp.lt h0) (fun q=>hb (b1 x _ q))).trans q1,q2,q3,fun j c v hc hv=>(q4 j c v hc hv).mono k3.jC⟩
 ·obtain ⟨q0,h0,rfl⟩:=List.mem_map.1 hq
  by_cases hb:q0.1=b
  ·rw [if_pos hb] at hq'
   exact k2.gu b wb' a hq'
  ·rw [if_neg hb] at hq'
   cases h:ro' a with
   | none=>rfl
   | some v=>
    rcases roN a v h with q | q
    ·rw [hp.dark q0 h0 a hq'] at q;cases q
    ·have:=hp.lt h0;rw [hq'] at q;omega
 ·obtain ⟨q0,h0,rfl⟩:=List.mem_map.1 hq
  right
  refine List.mem_map.2 ⟨q0,h0,?_⟩
  split
  ·rename_i h;exact h
  ·rfl
theorem aT.anp {f:FuncId} {args:List AV} {o0:Ob} {σt σ1 σ2:List Ob} {r x:AV} {y:D} (h:aT P f (.ref 0 0 0::args) (o0::σt) r σ1) (hb:σ1[0]?=some (.box (.agg [x]))) (k:Lv.og σ1 x=some (y,σ2)) (hb2:σ2[0]?=some (.box (.agg [x]))):
  aT P f (.ref 0 0 0::args) (o0::σt) r (σ2.set 0 (.box (.d (.agg [y])))):=by
 intro ro μ w fG g hdom hV
 refine (h ro μ w fG g hdom hV).mono ?_
 rintro e w' ⟨v,ro',μ',he,hv,g',e',d',q'⟩
 have hc:fG.size=args.length+1:=by simpa using hV.size
 obtain ⟨L,hL,_⟩:=zV (hV.get 0 _ (fG[0]'(by omega)) rfl (Array.getElem?_eq_getElem (by omega)))
 have hL':μ' 0=some L:=(q' 0 (by simp)).trans hL
 have w9:=g'.ob 0
 rw [dR hb] at w9
 obtain ⟨C,T,fz,h0,h1,h2,h3⟩:=w9 L hL'
 have hsz:C.size=1:=h3.size
 have hx:=h3.get 0 x (C[0]'(by omega)) rfl (Array.getElem?_eq_getElem (by omega))
 obtain ⟨Rx,g2,e2,hd,_,hl⟩:=sQ g' hx k
 have hlt:0 < σ2.length:=cK hb2
 have heq:Lv.hp (σ2.set 0 (.box (.d (.agg [y]))))=upd (Lv.hp σ2) 0 (.box (.d (.agg [y]))):=oW hlt
 have hwr:∀i,(upd (Lv.hp σ2) 0 (.box (.d (.agg [y]))) i).wr=(Lv.hp σ2 i).wr:=by
  intro i;unfold upd;split
  ·rename_i q;subst q;rw [dR hb2];rfl
  ·rfl
 have hlv:∀i,(upd (Lv.hp σ2) 0 (.box (.d (.agg [y]))) i).live=(Lv.hp σ2 i).live:=by
  intro i;unfold upd;split
  ·rename_i q;subst q;rw [dR hb2];rfl
  ·rfl
 have hWB:∀b,WB (upd (Lv.hp σ2) 0 (.box (.d (.agg [y])))) μ' b→WB (Lv.hp σ2) μ' b:=by
  rintro b ⟨i,L,h1,h2,h3⟩;exact ⟨i,L,by rw [← hwr];exact h1,h2,h3⟩
 have hLB:∀b,LB (upd (Lv.hp σ2) 0 (.box (.d (.agg [y])))) μ' b→LB (Lv.hp σ2) μ' b:=by
  rintro b ⟨i,L,h1,h2,h3⟩;exact ⟨i,L,by rw [← hlv];exact h1,h2,h3⟩
 refine ⟨v,Rx,μ',he,hv.mono e2.jC (fun _ _ h=>h),?_,?_,fun id L hL=>by rw [List.length_set,hl];exact d' id L hL,q'⟩
 ·rw [heq]
  refine ⟨g2.qJ,fun i=>?_,fun i i' L L' h1 h2 h3 h4 h5=>g2.apart i i' L L' (by rw [← hwr];exact h1) (by rw [← hlv];exact h2) h3 h4 h5,fun b hb=>g2.gu b (hWB b hb),g2.base⟩
  unfold upd
  split
  ·rename_i q;subst q
   intro L1 hL1
   rw [hL'] at hL1
   cases hL1
   refine ⟨C,T,fz,h0,h1,h2,⟨by rw [hsz];rfl,fun j z u hz hu=>?_⟩⟩
   cases j with
   | zero=>
    have hz':AV.d y=z:=by simpa [AV.cells] using hz
    have hu':C[0]'(by omega)=u:=by rw [Array.getElem?_eq_getElem (by omega)] at hu;exact Option.some.inj hu
    subst hz';subst hu'
    exact .d _ _ hd
   | succ j=>simp [AV.cells] at hz
  ·exact g2.ob i
 ·have x3:=e'.trans e2.Ri
  rw [heq]
  exact ⟨x3.jC,x3.kr,fun b hb=>x3.jE b (hWB b hb),fun b hb=>x3.lJ b (hLB b hb),x3.frame,x3.size,x3.os,x3.tape,x3.output⟩
def Sqp (P:Program) (B:Vq) (m:Nat) (C:Code) (Q:Ex→St×Pool→Prop) (e:Ex) (s:St×Pool):Prop:=match e with
 | .normal=>gW P B m C s Q
 | e=>Q e s
theorem sqp (h:gW P B m A sp (Sqp P B m C Q)):gW P B m (.seq A C) sp Q:=gW.seq (h.mono fun e s q=>by cases e <;> exact q)
theorem skp (h:gW P B m C sp Q):gW P B m .skip sp (Sqp P B m C Q):=gW.skip h
theorem srp {id:Nat} (h:SO P m ops ops.toList s (fun s'=>gW P B m C (s',π) Q)):gW P B m (.seq (.region id ops false) C) (s,π) Q:=gW.seq (gW.region h)
theorem snp (h:gW P B m C (s,π) Q):SO P m ops [] s (fun s'=>gW P B m C (s',π) Q):=SO.nil h
theorem sdp {id:Nat} (hok:pW P ops=true) (h:ST P ops ops.toList s [] (fun s' t=>eD ops t=true∧gW P B m C (s',π) Q)):gW P B m (.seq (.region id ops true) C) (s,π) Q:=sqp (gW.draws hok h)
theorem tnp {acc:List (List Nat×Bool)} (h1:eD ops acc.reverse=true) (h:gW P B m C (s,π) Q):ST P ops [] s acc (fun s' t=>eD ops t=true∧gW P B m C (s',π) Q):=ST.nil ⟨h1,h⟩
theorem srQ {id:Nat} (h:Jh P B m ops ops.toList sp (fun s'=>gW P B m C s' Q)):gW P B m (.seq (.region id ops false) C) sp Q:=gW.seq (gW.Pk h)
def StC (P:Program) (π:Pool) (l:List Oper) (s:St) (K:St→Prop):Prop:=∃s',Stl P π l s s'∧K s'
theorem StC.nil {K:St→Prop} (h:K s):StC P π [] s K:=⟨s,.nil s,h⟩
theorem cBp {β:Type} {w1 w2 z:β} {b:Bool} {c:Operand} (h:(bif b then w1 else w2)=z) (hc:lq n e c=some (.d (.bool b))) (h1:w1=z→gW P B m A (⟨mk n e,σ⟩,π) Q) (h2:w2=z→gW P B m C (⟨mk n e,σ⟩,π) Q):gW P B m (.cond c A C) (⟨mk n e,σ⟩,π) Q:=
 gW.cond (eG (fE hc)) (fun hb=>h1 (ct hb h)) (fun hb=>h2 (cf hb h))
theorem lfp {Y E:Type} {S:Y→St×Pool} {y:Y} (h:Wk m s (S y).1) (hp:π=(S y).2):∃y',(Sum.inl y:Y⊕E)=.inl y'∧zU B m (s,π) (S y'):=⟨y,rfl,zU.of h hp⟩
def Lf (k i:Nat):Option Nat:=if i=k then none else some i
theorem toPool {dZ:Ro} {dW:Mu} {w0:World} {H0:Hp} {ro:Ro} {μ:Mu} {w:World} {a:Act} {k:Nat} {v:AV} {cs:List D} (hk:σ.length=k) (hos:mK (Lf k) σ=some σ) (he:eRe (Lf k) e=some e) (hv:jX v.cells (cs.map .d)) (hm:m≤k)
  (h:uZ B m dZ dW w0 H0 ro μ w (⟨mk n ((dd,.ref k 0 0)::e),σ++[.box v]⟩,π) a) (hdd:dd < n):∃b μ',b∉π.map Prod.fst∧uZ B m dZ dW w0 H0 ro μ' w (⟨mk n ((dd,.d (.y7 b))::e),σ⟩,π++[(b,cs)]) a:=by
 have ek:(σ++[Ob.box v])[k]?=some (.box v):=by rw [← hk];simp
 have hpk:Lv.hp (σ++[Ob.box v]) k=.box v:=dR ek
 have hpo:∀i,i≠k→Lv.hp (σ++[Ob.box v]) i=Lv.hp σ i:=by
  intro i hi
  rcases Nat.lt_or_ge i σ.length with q | q
  ·simp only [Lv.hp,List.getElem?_append_left q]
  ·rw [qg q,qg (by simp;omega)]
 have hlen:a.tmps.size=n:=by rw [h.env.size,iI]
 have hd':@LT.lt Nat instLTNat dd n:=hdd
 have hda:@LT.lt Nat instLTNat dd a.tmps.size:=by rw [hlen];exact hd'
 have hv0:=h.env.get dd (.ref k 0 0) (a.tmps[dd]'hda) (by show (mk n ((dd,.ref k 0 0)::e))[dd]?=_;rw [uV hdd];simp [lk]) (Array.getElem?_eq_getElem hda)
 obtain ⟨L,hL,ev⟩:=zV hv0
 have w9:=h.good.ob k
 simp only [hpk] at w9
 obtain ⟨C,T,fz,hb0,hh,hu,hc⟩:=w9 L hL
 have ev':a.tmps[dd]'hda=.pointer (some (cellAt L.blk 0)):=by rw [ev,hb0];simp
 have hwb:WB (Lv.hp (σ++[Ob.box v])) μ L.blk:=⟨k,L,by rw [hpk];rfl,hL,rfl⟩
 have hnew:L.blk∉π.map Prod.fst:=by
  intro hq
  obtain ⟨q,h1,h2⟩:=List.mem_map.1 hq
  exact h.pl.far q h1 (h2▸hwb.lb)
 let μ':Mu:=fun i=>if i=k then none else μ i
 have hg:∀i j,Lf k i=some j→μ' j=μ i:=by
  intro i j h
  unfold Lf at h
  split at h
  ·cases h
  ·rename_i q;cases h;simp only [μ',if_neg q]
 have hK:∀j,(Lv.hp σ j).live=true→∃i,Lf k i=some j∧(Lv.hp (σ++[Ob.box v]) i).re (Lf k)=some (Lv.hp σ j):=by
  intro j hl
  have hj:j < σ.length:=by
   rcases Nat.lt_or_ge j σ.length with q | q
   ·exact q
   ·rw [qg q] at hl;simp [Ob.live] at hl
  obtain ⟨x,k1,k2⟩:=yL hos j _ (List.getElem?_eq_getElem hj)
  have:σ[j]=x:=by rw [List.getElem?_eq_getElem hj] at k1;exact Option.some.inj k1
  subst this
  refine ⟨j,by unfold Lf;rw [if_neg (by omega)],?_⟩
  rw [hpo j (by omega),dR (List.getElem?_eq_getElem hj)]
  exact k2
 have g':Good ro μ' w (Lv.hp σ):=h.good.re hg hK
 have lb':∀b,LB (Lv.hp σ) μ' b→LB (Lv.hp (σ++[Ob.box v])) μ b∧b≠L.blk:=by
  rintro b ⟨i,L1,h1,h2,rfl⟩
  have hik:i≠k:=by
   rintro rfl
   simp [μ'] at h2
  simp only [μ',if_neg hik] at h2
  have h1':(Lv.hp (σ++[Ob.box v]) i).live=true:=by rw [hpo i hik];exact h1
  refine ⟨⟨i,L1,h1',h2,rfl⟩,fun q=>hik (h.good.apart k i L L1 (by rw [hpk];rfl) h1' hL h2 q.symm).symm⟩
 have wb':∀b,WB (Lv.hp σ) μ' b→WB (Lv.hp (σ++[Ob.box v])) μ b:=by
  rintro b ⟨i,L1,h1,h2,rfl⟩
  have hik:i≠k:=by
   rintro rfl
   simp [μ'] at h2
  simp only [μ',if_neg hik] at h2
  exact ⟨i,L1,by rw [hpo i hik];exact h1,h2,rfl⟩
 refine ⟨L.blk,μ',hnew,g',⟨by rw [hlen,iI],fun j y u hy hu=>?_⟩,fun id L1 h1=>?_,h.defers,⟨h.ext.jC,h.ext.kr,fun b hb=>h.ext.jE b (wb' b hb),fun b hb=>h.ext.lJ b (lb' b hb).1,h.ext.frame,h.ext.size,h.ext.os,h.ext.tape,h.ext.output⟩,fun id hid=>?_,by simp only;omega,⟨?_,fun q hq=>?_,fun q hq hl=>?_,fun q hq=>?_⟩,fun q hq=>?_,h.bare⟩
 ·obtain ⟨hj,rfl⟩:=CJ hy
  by_cases hjd:dd=j
  ·subst hjd
   have hu':a.tmps[dd]'hda=u:=by rw [Array.getElem?_eq_getElem hda] at hu;exact Option.some.inj hu
   have:lk ((dd,AV.d (.y7 L.blk))::e) dd=.d (.y7 L.blk):=by simp [lk]
   rw [this,← hu',ev']
   exact .d _ _ (.y7 _)
  ·have e1:∀x,lk ((dd,x)::e) j=lk e j:=by intro x;simp only [lk];cases hb:Nat.beq dd j with
    | true=>exact absurd (Nat.eq_of_beq_eq_true hb) hjd
    | false=>rfl
   have hy1:=h.env.get j (lk e j) u (by show (mk n ((dd,.ref k 0 0)::e))[j]?=_;rw [uV hj,e1]) hu
   rw [e1]
   exact OI hg hy1 _ (Qq he j)
 ·simp only [μ'] at h1
  split at h1
  ·cases h1
  ·rename_i q
   have:=h.dom id L1 h1
   simp at this ⊢;omega
 ·simp only [μ']
  rw [if_neg (by omega)]
  exact h.keep id hid
 ·simp only [List.map_append,List.map_cons,List.map_nil]
  exact List.nodup_append.2 ⟨h.pl.nd,by simp,fun x hx y hy hxy=>by simp at hy;subst hy;exact hnew (hxy▸hx)⟩
 ·rcases List.mem_append.1 hq with q1 | q1
  ·exact h.pl.cell q q1
  ·simp only [List.mem_singleton] at q1
   subst q1
   have hc':=hv.vrs hc
   refine ⟨C,T,fz,hh,hu,by rw [hc'.size];simp,fun j c u hc1 hu1=>?_⟩
   have:=hc'.get j (.d c) u (by simp only at hc1;rw [List.getElem?_map,hc1];rfl) hu1
   cases this;assumption
 ·obtain ⟨q1,q2⟩:=lb' _ hl
  rcases List.mem_append.1 hq with q3 | q3
  ·exact h.pl.far q q3 q1
  ·simp only [List.mem_singleton] at q3
   subst q3;exact q2 rfl
 ·rcases List.mem_append.1 hq with q3 | q3
  ·exact h.pl.dark q q3
  ·simp only [List.mem_singleton] at q3
   subst q3
   exact h.good.gu _ hwb
 ·rcases List.mem_append.1 hq with q3 | q3
  ·exact h.own q q3
  ·simp only [List.mem_singleton] at q3
   subst q3
   exact .inr (.inl ((h.ext.jE _ hwb).resolve_right (h.bare _)))
theorem plQ {k:Nat} {v:AV} {cs:List D} (hk:σ.length=k) (hos:mK (Lf k) σ=some σ) (he:eRe (Lf k) e=some e) (hv:jX v.cells (cs.map .d)) (hm:Nat.ble m k=true) (hdd:Nat.blt dd n=true)
  (kk:∀b,b∉π.map Prod.fst→Jh P B m ops l (⟨mk n ((dd,.d (.y7 b))::e),σ⟩,π++[(b,cs)]) R):Jh P B m ops l (⟨mk n ((dd,.ref k 0 0)::e),σ++[.box v]⟩,π) R:=by
 intro dZ dW w0 H0 ro μ w a Z hr hQ
 obtain ⟨b,μ',hb,hr'⟩:=toPool hk hos he hv (Nat.le_of_ble_eq_true hm) hr (Nat.le_of_ble_eq_true hdd)
 exact kk b hb dZ dW w0 H0 ro μ' w a Z hr' hQ
open Classical in
noncomputable def dem {α R:Type} (π:List (Nat×α)) (k:Nat→Option R):Option R:=if h:∃r,∀b,b∉π.map Prod.fst→k b=some r then some h.choose else none
theorem ab6 {α R:Type} {π:List (Nat×α)} {k:Nat→Option R} {r:R} (h:dem π k=some r):∀b,b∉π.map Prod.fst→k b=some r:=by
 unfold dem at h
 split at h
 ·rename_i hex
  rw [← Option.some.inj h]
  exact hex.choose_spec
 ·cases h
theorem abU (l:List Nat):∃b,b∉l:=by
 refine ⟨l.foldl max 0+1,fun h=>?_⟩
 have key:∀(l:List Nat) (a:Nat),a≤l.foldl max a∧∀x∈l,x≤l.foldl max a:=by
  intro l
  induction l with
  | nil=>intro a;exact ⟨Nat.le_refl _,fun x h=>by cases h⟩
  | cons y l ih=>
   intro a
   obtain ⟨h1,h2⟩:=ih (max a y)
   refine ⟨by simp only [List.foldl_cons];omega,fun x hx=>?_⟩
   simp only [List.foldl_cons]
   rcases List.mem_cons.1 hx with rfl | hx
   ·omega
   ·exact h2 x hx
 have:=(key l 0).2 _ h
 omega
theorem ab7 {α R:Type} {π:List (Nat×α)} {k:Nat→Option R} {r:R} (h:∀b,b∉π.map Prod.fst→k b=some r):dem π k=some r:=by
 have hex:∃r,∀b,b∉π.map Prod.fst→k b=some r:=⟨r,h⟩
 obtain ⟨b,hb⟩:=abU (π.map Prod.fst)
 unfold dem
 rw [dif_pos hex]
 exact (hex.choose_spec b hb).symm.trans (h b hb)
def cps {Y R:Type} (f:(Y→Option R)→Option R) (k:Y→Option R):Option R:=f k
theorem gW.akz {Y Z:Type} {f:(Y→Option Z)→Option Z} {k:Y→Option Z} {r:Z} (h:cps f k=some r) (S:Y→St×Pool) (ha:∀κ:Y→Option Z,f κ=some r→gW P B m A sp (fun e s'=>match e with | .normal=>∃y,zU B m s' (S y)∧κ y=some r | e=>Q e s')) (hb:∀y,k y=some r→gW P B m C (S y) Q):gW P B m (.seq A C) sp Q:=by
 refine gW.seq ((ha k h).mono fun e s' hq=>?_)
 cases e with
 | normal=>obtain ⟨y,h1,h2⟩:=hq;exact gW.wk h1 (hb y h2)
 | ret=>exact hq
 | exit i=>exact hq
def LC {Y Z:Type} (G:(Y→Option Z)→Y→Option Z):Nat→Y→Option Z
 | 0,_=>none
 | n+1,y=>G (LC G n) y
theorem gW.ak2 {Y Z:Type} {G:(Y→Option Z)→Y→Option Z} {N:Nat} {y0:Y} {r:Z} (h:LC G N y0=some r) (S:Y→St×Pool) (h0:zU B m sp (S y0))
  (k:∀(ρ:Y→Option Z) y,G ρ y=some r→gW P B m A (S y) (fun e s'=>match e with | .normal=>∃y',zU B m s' (S y')∧ρ y'=some r | e=>Q e s')):gW P B m (.loop A) sp Q:=by
 refine gW.WE S (fun n y=>LC G n y=some r) N y0 h0 h fun n y hj=>?_
 cases n with
 | zero=>cases hj
 | succ n=>
  refine (k _ y hj).mono fun e s' hq=>?_
  cases e with
  | normal=>obtain ⟨y',h1,h2⟩:=hq;exact ⟨y',n,by omega,h1,h2⟩
  | ret=>exact hq
  | exit i=>exact hq
theorem lfc {Y Z:Type} {S:Y→St×Pool} {y:Y} {k:Y→Option Z} {r:Z} (hk:k y=some r) (h:Wk m s (S y).1) (hp:π=(S y).2):∃y,zU B m (s,π) (S y)∧k y=some r:=⟨y,zU.of h hp,hk⟩
def FZ {α:Type} (π:List (Nat×α)) (b:Nat):Option α:=(π.find? (fun q=>q.1==b)).map (·.2)
def JE {α:Type} (π:List (Nat×α)) (b:Nat) (x:α):List (Nat×α):=π.map fun q=>if q.1=b then (b,x) else q
def QO {α:Type} (f:α→D) (π:List (Nat×α)):Pool:=π.map fun q=>(q.1,[f q.2])
theorem RV {α:Type} {π:List (Nat×α)} {b:Nat} {x:α} (h:FZ π b=some x):(b,x)∈π:=by
 unfold FZ at h
 rw [Option.map_eq_some_iff] at h
 obtain ⟨q,h1,rfl⟩:=h
 have:=List.find?_some h1
 simp only [beq_iff_eq] at this
 subst this
 exact List.mem_of_find?_eq_some h1
theorem Wu {α:Type} {f:α→D} {π:List (Nat×α)} {b:Nat} {x:α} (h:FZ π b=some x):(b,[f x])∈QO f π:=List.mem_map.2 ⟨_,RV h,rfl⟩
theorem Wt {α:Type} {f:α→D} {π:List (Nat×α)} {b:Nat} {x:α}:(QO f π).map (fun q=>if q.1=b then (b,[f x]) else q)=QO f (JE π b x):=by
 simp only [QO,JE,List.map_map]
 refine List.map_congr_left fun q _=>?_
 simp only [Function.comp_apply]
 split <;> rfl
theorem aea {α:Type} {f:α→D} {π:List (Nat×α)} {b:Nat} {x:α}:QO f (π++[(b,x)])=QO f π++[(b,[f x])]:=by simp [QO]
theorem plR {α Z:Type} {f:α→D} {pp:List (Nat×α)} {z:α} {ak4:Nat→Option Z} {r:Z} {k:Nat} {v:AV} (h:dem pp ak4=some r) (hk:σ.length=k) (hos:mK (Lf k) σ=some σ) (he:eRe (Lf k) e=some e) (hv:jX v.cells [.d (f z)]) (hm:Nat.ble m k=true) (hdd:Nat.blt dd n=true)
  (kk:∀b,ak4 b=some r→Jh P B m ops l (⟨mk n ((dd,.d (.y7 b))::e),σ⟩,QO f (pp++[(b,z)])) R):Jh P B m ops l (⟨mk n ((dd,.ref k 0 0)::e),σ++[.box v]⟩,QO f pp) R:=
 plQ (cs:=[f z]) hk hos he hv hm hdd fun b hb=>by
  rw [← aea]
  refine kk b (ab6 h b fun hq=>hb ?_)
  obtain ⟨q,h1,h2⟩:=List.mem_map.1 hq
  exact List.mem_map.2 ⟨(q.1,[f q.2]),List.mem_map.2 ⟨q,h1,rfl⟩,h2⟩
theorem Jh.wk (h:Wk m s s1) (k:Jh P B m ops l (s1,π) R):Jh P B m ops l (s,π) R:=by
 intro dZ dW w0 H0 ro μ w a Z hr hQ
 obtain ⟨qK,y9,h1⟩:=h ro μ w (Lv.hp s.σ) ro μ w a hr.rel
 exact k dZ dW w0 H0 qK y9 w a Z (hr.after h1) hQ
end
end Lv
