/- Part of the proof of a law. -/
import Derived.Test.YtfjogpadeelnkaaGreatDoorA1
import Derived.Test.YtfjogpadeelnkaaGreatDoorProg
import Derived.KernelRfl
import Derived.ChangeArms
import Derived.WideShapes
import Derived.Below
import Derived.Shelf.Unicode.ValidAny
import Derived.Shelf.Strings.Builder1
import Derived.Shelf.Strings.Builder2
import Derived.Shelf.Small.Bits
import Derived.Shelf.Small.Strs
import Derived.Shelf.Small.Wraps
import Derived.Shelf.Utf8.RuneCount
import Derived.Shelf.Strconv.Itoa0
import Derived.Shelf.Strings.Search1
import Derived.Shelf.Strings.Search2
import Derived.Shelf.Strings.Search3
import Derived.Shelf.Strings.Count
import Derived.Shelf.LaysM
import Derived.Shelf.Strings.Shaped
import Derived.Shelf.Sort.Plain
import Derived.Shelf.Strings.Split
import Derived.Shelf.Strings.Replace
import Derived.Shelf.Strings.SplitShaped
import Derived.Shelf.Unicode.Decode
import Derived.Shelf.Strings.RuneCount
import Derived.Shelf.Unicode.DecodeSlow
import Derived.Shelf.Unicode.DecodeAny
import Derived.Shelf.Slices.Turned
import Derived.Ground.Names2Prog
import Derived.Shelf.Slices.CompactI
import Derived.Shelf.Slices.SearchI
import Derived.Shelf.Slices.Cells
import Derived.Shelf.Slices.In.SortNone
set_option linter.unnecessarySimpa false
set_option linter.unusedVariables false
set_option linter.unusedSimpArgs false
set_option linter.unusedSectionVars false
/- Regions in drawn order in which one read looks at a cell of an object that one other operation writes, but not there. -/
namespace Lv
open Go
variable [bJ]
def V9 (ops:Array Oper) (r t:Nat):Bool:=(ops.toList.drop r).all fun o=>o.dst != some t
def Ww (l:List (List Nat×Bool)) (id:Nat):Bool:=decide (((List.range l.length).filter fun j=>(l.getD j ([],false)).2&&(l.getD j ([],false)).1.contains id).length≤1)
theorem Xk {H:Nat→Hp} {M:Nat→List Nat×Bool} {L:Nat→Bool} {id:Nat}:∀n,∃j,j≤n∧HL H M L n id=H j id
 | 0=>⟨0,Nat.le_refl _,rfl⟩
 | n+1=>by
  simp only [HL]
  split
  ·exact ⟨n+1,Nat.le_refl _,rfl⟩
  ·obtain ⟨j,h1,h2⟩:=Xk (H:=H) (M:=M) (L:=L) (id:=id) n
   exact ⟨j,by omega,h2⟩
section
variable {P:Program} {ops:Array Oper} {S:Nat→St} {V:Nat→AV} {M:Nat→List Nat×Bool} {m:Nat} {dZ ro:Ro} {dW μ:Mu} {w0 w:World} {H0:Hp} {a:Act} {L:Nat→Bool}
theorem aku (T:Tr P ops S V M) {r id off t:Nat} {ty:TypeId} {o:Oper} {v0:AV} (ho:ops[r]?=some o) (hop:o.op=.load ty (.tmp t)) (hg:o.guard=none) (hM:M r=([],false))
  (YA:(S r).env[t]?=some (.ref id 0 off)) (haw:AW v0 (V r)) (hall:∀j,j≤ops.size→∃y,(S j).σ[id]?=some (.box y)∧mQ P (S j).σ ty (.ref id 0 off)=some v0):
  Vp P ops S V M m dZ dW w0 H0 r o:=by
 intro L ro μ w a Q K hL TT yc hr hK
 have air:=T.names hL ho TT yc t (by unfold vG J4;rw [hop];simp [Op.operands])
 obtain ⟨j,hj,hv⟩:=Xk (H:=fun j=>hp (S j).σ) (M:=M) (L:=L) (id:=id) ops.size
 obtain ⟨y,hb,hld⟩:=hall j hj
 have hlt:id < (S j).σ.length:=(List.getElem?_eq_some_iff.1 hb).1
 have hm:(mask [id] (S j).σ)[id]?=some (.box y):=by rw [WA (by simp),hb]
 have atf:mQ P (mask [id] (S j).σ) ty (.ref id 0 off)=some v0:=by
  unfold mQ at hld ⊢
  simp only [hb,hm] at hld ⊢
  exact hld
 have hgood:Good ro μ w (hp (mask [id] (S j).σ)):=hr.good.less fun i=>by
  rw [J9]
  split
  ·rename_i hi
   have:i=id:=by simpa using hi
   subst this
   exact .inl hv.symm
  ·exact .inr rfl
 have hx:VR ro μ (.ref id 0 off) (a.eval (.tmp t)):=bS (x:=.tmp t) hr.env (by show (EL _ _ _ _ _)[t]?=_;rw [air,YA])
 obtain ⟨u,p,e,k1,k2⟩:=uM hgood hx atf
 unfold wpOp
 simp only [ho]
 rw [if_pos (by unfold Region.wanted;rw [hg])]
 refine .inl ?_
 unfold Oper.wp
 have hrun:(execOp a.eval o).run P w=.ok (.value u) w:=by
  simp only [execOp,hop,e,Instr.loadAt,Instr.sureAddr,Sem.run_bind,Sem.run_pure,Result.andThen_ok,k1]
 rw [hrun]
 simp only [Oper.upon]
 have hn:r < ops.size:=(Array.getElem?_eq_some_iff.1 ho).1
 have hfin:HL (fun j=>hp (S j).σ) M (fun k=>k==r || L k) ops.size=HL (fun j=>hp (S j).σ) M L ops.size:=by
  funext i
  rw [acT (H:=fun j=>hp (S j).σ) hn TT (fun k i k1 k2 k3 k4=>by rw [hM] at k4;cases k4) i,hM,if_neg (by simp)]
 refine hK ro μ w _ ⟨by rw [hfin];exact hr.good,?_,fun i X hX=>?_,by rw [qB];exact hr.defers,by rw [hfin];exact hr.ext,hr.keep,hr.hm⟩
 ·rw [T.put hL ho TT yc]
  exact xL hr.env (haw _ _ _ k2) o.dst
 ·rcases hr.dom i X hX with k | ⟨j,k1,k2,k3⟩
  ·exact .inl k
  ·exact .inr ⟨j,k1,by simp [k2],k3⟩
end
theorem Rl {ops:Array Oper} {S:Nat→St} {V:Nat→AV} {r t:Nat} (he:∀j,j < ops.size→(S (j+1)).env=qY (S j).env ((ops[j]?).bind (·.dst)) (V j)) (h:V9 ops r t=true):∀d,r+d≤ops.size→(S (r+d)).env[t]?=(S r).env[t]?
 | 0,_=>rfl
 | d+1,hd=>by
  rw [← Nat.add_assoc,he (r+d) (by omega),← Rl he h d (by omega)]
  have hk:=Array.getElem?_eq_getElem (xs:=ops) (i:=r+d) (by omega)
  refine nS ?_
  rw [hk]
  have:=List.all_eq_true.1 h ops[r+d] (List.mem_iff_getElem?.2 ⟨d,by rw [List.getElem?_drop];simpa using hk⟩)
  simpa using this
theorem anx {P:Program} (m:Nat) (dZ:Ro) (dW:Mu) (w0:World) (H0:Hp) (Q:Exit→Act→World→Prop) (ops:Array Oper) (id0:Nat) (s s':St) (l:List (List Nat×Bool)) (ro:Ro) (μ:Mu) (w:World) (a:Act)
 {r id off t sz:Nat} {ty:TypeId} {o:Oper} {y0 y1:AV} (hT:RunT P ops ops.toList s s' l) (hok:(eD ops (l.set r ([],false))&&pW P ops)=true) (hrel:Rel m dZ dW w0 H0 ro μ w s a)
  (hQ:∀a' w',Ends m dZ dW w0 H0 s' a' w'→Q .normal a' w')
  (ho:ops[r]?=some o) (hop:o.op=.load ty (.tmp t)) (hg:o.guard=none) (hst:V9 ops r t=true) (hon:Ww l id=true) (hx:s'.env[t]?=some (.ref id 0 off))
  (hb0:s.σ[id]?=some (.box y0)) (hb1:s'.σ[id]?=some (.box y1)) (hsz:dF P ty=some sz) (hcs:(y0.cells.drop off).take sz=(y1.cells.drop off).take sz):(Code.region id0 ops true).wp P Q a w:=by
 rw [Bool.and_eq_true] at hok
 obtain ⟨hun,htx⟩:=hok
 unfold pW at htx
 rw [Bool.and_eq_true] at htx
 obtain ⟨ais,htx⟩:=htx
 rw [List.all_eq_true] at htx
 obtain ⟨S,V,M,k0,k1,k2,k3⟩:=trace ops.toList s s' l hT
 simp only [Array.length_toList,Array.getElem?_toList] at k1 k2 k3
 have hrn:r < ops.size:=(Array.getElem?_eq_some_iff.1 ho).1
 have tx:∀(j:Nat) (o:Oper),ops[j]?=some o→(∀e,e∈o.after.toList→Region.binds .any e=true→e.on < j)∧∀(i:Nat) (p:Oper),i < j→ops[i]?=some p→ahead ops i j=true∨Iu ops p o=true:=by
  intro j o ho
  have:=htx j (List.mem_range.2 (Array.getElem?_eq_some_iff.1 ho).1)
  rw [ho] at this
  simp only [Bool.and_eq_true,List.all_eq_true,Bool.or_eq_true,Bool.not_eq_true',decide_eq_true_eq] at this
  refine ⟨fun e he hb=>?_,fun i p hij hi=>?_⟩
  ·rcases this.1 e he with q | q
   ·rw [hb] at q;cases q
   ·exact q
  ·have:=this.2 i (List.mem_range.2 hij)
   rw [hi] at this
   simpa using this
 have hgrow:∀j,j < ops.size→(S j).σ.length≤(S (j+1)).σ.length:=fun j hj=>(k3 j _ (Array.getElem?_eq_getElem hj)).2.grow
 have agy:∀j,j < ops.size→(S (j+1)).env=qY (S j).env ((ops[j]?).bind (·.dst)) (V j):=fun j hj=>by rw [(k3 j _ (Array.getElem?_eq_getElem hj)).2.env,Array.getElem?_eq_getElem hj];rfl
 -- the read
 have hxr:(S r).env[t]?=some (.ref id 0 off):=by
  have:=Rl agy hst (ops.size - r) (by omega)
  rw [show r+(ops.size - r)=ops.size by omega,k1,hx] at this
  exact this.symm
 obtain ⟨hMr,hSr,v0,haw,hld⟩:(M r).2=(M r).2∧(S (r+1)).σ=(S r).σ∧∃v0,AW v0 (V r)∧mQ P (S r).σ ty (.ref id 0 off)=some v0:=by
  rcases (k3 r o ho).2.or with ⟨call,v0,hc,hAW,hwant,hao,_,_⟩ | ⟨hwant,_,_,_⟩
  ·simp only [kQ,hop,oM,hxr] at hao
   split at hao
   ·rename_i z hz
    simp only [Option.some.injEq,Prod.mk.injEq] at hao
    obtain ⟨rfl,e2⟩:=hao
    exact ⟨rfl,e2.symm,z,hAW,hz⟩
   ·cases hao
  ·simp only [wants,hg] at hwant;cases hwant
 have hall:∀j,j≤ops.size→∃y,(S j).σ[id]?=some (.box y)∧(y.cells.drop off).take sz=(y0.cells.drop off).take sz:=by
  have hlen:l.length=ops.size:=k2
  have hget:∀j,j < ops.size→l.getD j ([],false)=M j:=fun j hj=>by
   rw [List.getD_eq_getElem?_getD,(k3 j _ (Array.getElem?_eq_getElem hj)).1];rfl
  have wr:∀i j,i < ops.size→j < ops.size→(M i).2=true→id∈(M i).1→(M j).2=true→id∈(M j).1→i=j:=by
   intro i j hi hj h1 h2 h3 h4
   have amA:((List.range l.length).filter fun j=>(l.getD j ([],false)).2&&(l.getD j ([],false)).1.contains id).length≤1:=by simpa [Ww] using hon
   have mem:∀k,k < ops.size→(M k).2=true→id∈(M k).1→k∈(List.range l.length).filter fun j=>(l.getD j ([],false)).2&&(l.getD j ([],false)).1.contains id:=fun k hk q1 q2=>by
    rw [List.mem_filter]
    refine ⟨List.mem_range.2 (by omega),?_⟩
    rw [hget k hk];simp [q1,q2]
   have a1:=mem i hi h1 h2
   have a2:=mem j hj h3 h4
   generalize (List.range l.length).filter (fun j=>(l.getD j ([],false)).2&&(l.getD j ([],false)).1.contains id)=z at amA a1 a2
   match z,amA,a1,a2 with
   | [],_,a1,_=>cases a1
   | [x],_,a1,a2=>rw [List.mem_singleton.1 a1,List.mem_singleton.1 a2]
   | x::y::z,h,_,_=>simp at h
  have hps:∀j,j < ops.size→¬((M j).2=true∧id∈(M j).1)→hp (S (j+1)).σ id=hp (S j).σ id:=fun j hj h=>by
   refine (k3 j _ (Array.getElem?_eq_getElem hj)).2.old ?_
   by_cases q:id∈(M j).1
   ·right
    cases e:(M j).2 with
    | false=>rfl
    | true=>exact absurd ⟨e,q⟩ h
   ·exact .inl q
  have up:∀j,j≤ops.size→(∀k,k < j→¬((M k).2=true∧id∈(M k).1))→hp (S j).σ id=hp (S 0).σ id:=by
   intro j
   induction j with
   | zero=>exact fun _ _=>rfl
   | succ j ih=>exact fun hj h=>(hps j (by omega) (h j (by omega))).trans (ih (by omega) fun k hk=>h k (by omega))
  have dn:∀d j,j+d=ops.size→(∀k,j≤k→k < ops.size→¬((M k).2=true∧id∈(M k).1))→hp (S j).σ id=hp (S ops.size).σ id:=by
   intro d
   induction d with
   | zero=>intro j hj _;rw [← hj];rfl
   | succ d ih=>exact fun j hj h=>(hps j (by omega) (h j (by omega) (by omega))).symm.trans (ih (j+1) (by omega) fun k q1 q2=>h k (by omega) q2)
  have akZ:∀{σ:List Ob} {y:AV},hp σ id=.box y→σ[id]?=some (.box y):=by
   intro σ y h
   unfold hp at h
   split at h
   ·rename_i o ho;rw [ho,h]
   ·cases h
  intro j hj
  by_cases h:∀k,k < j→¬((M k).2=true∧id∈(M k).1)
  ·refine ⟨y0,akZ ?_,rfl⟩
   rw [up j hj h,k0];exact dR hb0
  ·obtain ⟨k,h1⟩:=Classical.not_forall.1 h
   obtain ⟨hk,h2⟩:=Classical.not_imp.1 h1
   have h2:=Classical.not_not.1 h2
   refine ⟨y1,akZ ?_,hcs.symm⟩
   rw [dn (ops.size - j) j (by omega) fun k' q1 q2 q3=>?_,k1]
   ·exact dR hb1
   ·have:=wr k k' (by omega) q2 h2.1 h2.2 q3.1 q3.2;omega
 obtain ⟨yr,asN,asM⟩:=hall r (by omega)
 have ano:∀j,j≤ops.size→∃y,(S j).σ[id]?=some (.box y)∧mQ P (S j).σ ty (.ref id 0 off)=some v0:=by
  intro j hj
  obtain ⟨y,h1,h2⟩:=hall j hj
  refine ⟨y,h1,?_⟩
  have h3:=h2.trans asM.symm
  unfold mQ at hld ⊢
  simp only [asN,h1,hsz] at hld ⊢
  cases htg:jB P ty with
  | none=>rw [htg] at hld;cases hld
  | some g=>
   rw [htg] at hld
   simp only [if_true] at hld ⊢
   rw [h3]
   exact hld
 let M':Nat→List Nat×Bool:=fun j=>if j=r then ([],false) else M j
 have hmk:∀j,j < ops.size→(l.set r ([],false)).getD j ([],true)=M' j:=by
  intro j hj
  rw [List.getD_eq_getElem?_getD,List.getElem?_set]
  simp only [M']
  by_cases e:r=j
  ·subst e;simp [k2,hrn]
  ·rw [if_neg e,if_neg (fun h=>e h.symm),(k3 j _ (Array.getElem?_eq_getElem hj)).1];rfl
 have T:Tr P ops S V M':={
  grow:=hgrow
  aes:=agy
  hps:=fun j i hj h=>by
   simp only [M'] at h
   split at h
   ·rename_i e;subst e;rw [hSr]
   ·exact (k3 j _ (Array.getElem?_eq_getElem hj)).2.old h
  mark:=fun i j hij hj=>by
   unfold eD at hun
   simp only [List.all_eq_true,List.mem_range,List.length_set] at hun
   have:=hun j (by omega) i hij
   rw [hmk i (by omega),hmk j hj,Bool.or_eq_true] at this
   exact this
  text:=fun i j p o hij hi hj=>(tx j o hj).2 i p hij hi
  back:=fun j o ho=>(tx j o ho).1 }
 have hsteps:∀(i:Nat) (o:Oper),ops[i]?=some o→Vp P ops S V M' m dZ dW w0 H0 i o:=by
  intro i o' ho'
  by_cases e:i=r
  ·subst e
   have:o'=o:=Option.some.inj (ho'.symm.trans ho)
   subst this
   exact aku T ho hop hg (by simp [M']) hxr haw ano
  ·intro L ro μ w a Q K h1 h2 h3 h4 h5
   exact QJ.step T h1 ho' (by have:=(k3 i o' ho').2;simp only [M',if_neg e];exact this) h2 h3 h4 h5
 obtain ⟨g,x⟩:=Rel.drawn (w.drawn+1) hrel.good hrel.ext
 refine wp_region_any ais (OG T hsteps (m:=m) (dZ:=dZ) (dW:=dW) (w0:=w0) (H0:=H0) (Q:=Q) (by rw [k1];exact hQ) ops.size _ ro μ _ a (by simp) ?_ ?_ ?_)
 ·unfold vV
  exact Nat.le_trans (List.length_filter_le _ _) (by simp)
 ·intro j o hj
  exfalso
  simp [Array.getD] at hj
 ·have e1:∀n,EL (S 0).env (fun j=>(ops[j]?).bind (·.dst)) V (fun k=>(Array.replicate ops.size false).getD k false) n=(S 0).env:=by
   intro n
   induction n with
   | zero=>rfl
   | succ n ih=>
    have:(Array.replicate ops.size false).getD n false=false:=by simp [Array.getD]
    simp only [EL,this,Bool.false_eq_true,if_false]
    exact ih
  have e2:∀n,HL (fun j=>hp (S j).σ) M' (fun k=>(Array.replicate ops.size false).getD k false) n=hp (S 0).σ:=by
   intro n
   induction n with
   | zero=>rfl
   | succ n ih=>
    have:(Array.replicate ops.size false).getD n false=false:=by simp [Array.getD]
    simp only [HL,this,Bool.false_eq_true,false_and,if_false]
    exact ih
  refine ⟨by rw [e2,k0];exact g,by rw [e1,k0];exact hrel.env,fun id X hX=>.inl (by rw [k0];exact hrel.dom id X hX),hrel.defers,by rw [e2,k0];exact x,hrel.keep,by rw [k0];exact hrel.hm⟩
section
variable {P:Program} {m n:Nat} {ops:Array Oper} {C:Code} {Q:Ex→St→Prop} {s:St}
structure acN (P:Program) (ops:Array Oper) (r:Nat) (s s':St) (l:List (List Nat×Bool)):Prop where
 un:eD ops (l.set r ([],false))=true
 ex:∃(t id off sz:Nat) (ty:TypeId) (o:Oper) (y0 y1:AV),ops[r]?=some o∧o.op=.load ty (.tmp t)∧o.guard=none∧V9 ops r t=true∧Ww l id=true∧s'.env[t]?=some (.ref id 0 off)∧s.σ[id]?=some (.box y0)∧s'.σ[id]?=some (.box y1)∧dF P ty=some sz∧(y0.cells.drop off).take sz=(y1.cells.drop off).take sz
theorem SC.ai2 {id0:Nat} (r:Nat) (hok:pW P ops=true) (h:ST P ops ops.toList s [] (fun s' l=>acN P ops r s s' l∧Q .normal s')):SC P m (.region id0 ops true) s Q:=by
 intro dZ dW w0 H0 ro μ w a Z hr hQ
 obtain ⟨s',l,h1,h2,h3⟩:=h
 simp only [List.reverse_nil,List.nil_append] at h2
 obtain ⟨t,id,off,sz,ty,o,y0,y1,q1,q2,q3,q4,q5,q6,q7,q8,q9,q10⟩:=h2.ex
 exact anx m dZ dW w0 H0 Z ops id0 s s' l ro μ w a h1 (by rw [h2.un,hok];rfl) hr (fun a' w' he=>hQ .normal s' a' w' h3 he) q1 q2 q3 q4 q5 q6 q7 q8 q9 q10
theorem sdS {id0:Nat} (r:Nat) (hok:pW P ops=true) (h:ST P ops ops.toList s [] (fun s' l=>acN P ops r s s' l∧SC P m C s' Q)):SC P m (.seq (.region id0 ops true) C) s Q:=SC.seq (SC.ai2 r hok h)
theorem tnS {K:St→Prop} {acc:List (List Nat×Bool)} {r t id off sz:Nat} {ty:TypeId} {o:Oper} {y0 y1:AV} {e:En} {σ:List Ob} (h1:eD ops (acc.reverse.set r ([],false))=true) (ho:ops[r]?=some o) (hop:o.op=.load ty (.tmp t)) (hg:o.guard=none) (hst:V9 ops r t=true) (hon:Ww acc.reverse id=true) (hx:lq n e (.tmp t)=some (.ref id 0 off)) (hb0:s.σ[id]?=some (.box y0)) (hb1:σ[id]?=some (.box y1)) (hsz:dF P ty=some sz) (hcs:(y0.cells.drop off).take sz=(y1.cells.drop off).take sz) (h:K ⟨mk n e,σ⟩):
  ST P ops [] ⟨mk n e,σ⟩ acc (fun s' l=>acN P ops r s s' l∧K s'):=ST.nil ⟨⟨h1,t,id,off,sz,ty,o,y0,y1,ho,hop,hg,hst,hon,eG (fE hx),hb0,hb1,hsz,hcs⟩,h⟩
end
end Lv
/- Pointers into read-only memory as data; calls of methods behind reads in any order; blocks apart are given away for reading. -/
namespace Lv
open Go
variable [bJ]
abbrev eP {α:Type} (f:α→D) (x:α):D:=.ptr (f x).cells
theorem ajr {cs:List D}:AW (.d (.ptr cs)) (.rop cs):=by
 intro ro μ v h
 cases h with
 | d _ _ h=>cases h with
  | ptr _ b o g h1 h2=>exact .rop cs b o g h1 h2
section
variable {P:Program} {m n:Nat} {ops:Array Oper} {o:Oper} {l:List Oper} {e:En} {σ σ':List Ob} {π:Pool} {A C:Code} {Q:Ex→St→Prop} {s s1 s':St} {v:AV} {op:Op}
theorem Yl.ptr {cs:List D} (h:Yl P n e σ op (.d (.ptr cs)) σ'):Yl P n e σ op (.rop cs) σ':=let ⟨v0,h1,h2⟩:=h;⟨v0,h1,fun ro μ v h=>ajr ro μ v (h2 ro μ v h)⟩
variable {dZ ro:Ro} {dW μ:Mu} {w0 w:World} {H0:Hp}
theorem Pl.none {H:Hp}:Pl ro μ w H []:=⟨.nil,fun q h=>(by cases h),fun q h=>(by cases h),fun q h=>(by cases h)⟩
theorem Good.same {H H':Hp} (g:Good ro μ w H) (hw:∀id,(H' id).wr=(H id).wr) (hl:∀id,(H' id).live=(H id).live) (ho:∀id,OR ro μ w id (H' id)):Good ro μ w H' where
 qJ:=g.qJ
 ob:=ho
 apart id id' L L' h1 h2:=g.apart id id' L L' ((hw id).symm.trans h1) ((hl id').symm.trans h2)
 gu b:=fun ⟨id,L,h1,h2,h3⟩=>g.gu b ⟨id,L,(hw id).symm.trans h1,h2,h3⟩
 base:=g.base
theorem mkz {Q:St→Prop} {x y:Operand} {t ty el:TypeId} {pos af gd} {dd sz GD k:Nat} {z:D} {n':Int} (hw:Wanted ops n e ⟨some dd,.makeSlice t x y,ty,pos,af,gd⟩ true) (hx:lq n e x=some (.d (eI 0))) (hy:lq n e y=some (.d (eI n'))) (un:P.underlying t=some (.slice el)) (E:EI P el sz GD z)
  (hn:0≤n'∧n'*GD≤70368744177664∧n'≤70368744177664) (hσ:XM σ (.row sz [] true) k=some σ') (kn:SO P m ops l ⟨mk n ((dd,.slc k sz 0 0 none)::e),σ'⟩ Q):SO P m ops (⟨some dd,.makeSlice t x y,ty,pos,af,gd⟩::l) ⟨mk n e,σ⟩ Q:=by
 obtain ⟨q1,q2⟩:=rY hσ
 subst q2
 subst q1
 refine SO.step (d:=dd) (v:=.slc σ.length sz 0 0 none) hw rfl (fun a ro μ w he g hdom=>?_) kn
 refine ⟨Instr.makeSlice t (a.eval x) (a.eval y),by simp [execOp],?_⟩
 obtain ⟨i,hi,hsz,hby⟩:=E.get
 have hnone:μ σ.length=none:=by
  cases hm:μ σ.length with
  | none=>rfl
  | some L=>have:=hdom _ L hm;omega
 have hm:mo P σ t (.d (eI 0)) (.d (eI n'))=some (.slc σ.length i.size 0 (0:Int).toNat (some n'.toNat),σ++[.row i.size (List.replicate n'.toNat z) true]):=by
  have h1:z.cells.length=i.size:=by rw [hsz];exact E.len
  have h2:z.cells.all (fun c=> !c.isAgg)=true:=E.flat
  have h3:i.size≠0:=by rw [hsz];exact E.pos
  have h4:n'*(i.bytes:Int)≤70368744177664:=by rw [hby];exact hn.2.1
  simp only [mo,un,hi,E.zero]
  rw [if_pos ⟨Int.le_refl _,hn.1,h4,hn.2.2,h1,h2,h3⟩]
 obtain ⟨v,ro',μ',w',k1,k2,k3,k4,k5,k6⟩:=yY g hnone (bS he (eG (fE hx))) (bS he (eG (fE hy))) hm
 have hwr:∀id,(hp (σ++[Ob.row sz [] true]) id).wr=(hp (σ++[Ob.row i.size (List.replicate n'.toNat z) true]) id).wr:=fun id=>by
  rw [rF,rF];unfold upd;split <;> rfl
 have hli:∀id,(hp (σ++[Ob.row sz [] true]) id).live=(hp (σ++[Ob.row i.size (List.replicate n'.toNat z) true]) id).live:=fun id=>by
  rw [rF,rF];unfold upd;split <;> rfl
 refine ⟨v,ro',μ',w',k1,?_,k3.same hwr hli fun id=>?_,⟨k4.Ll,k4.jC,k4.kr,fun b hb=>?_,fun b hb=>?_,k4.frame,k4.size,k4.os,k4.tape,k4.output⟩,fun id hid=>by have:=k5 id hid;simpa using this,by simp⟩
 ·rw [hsz] at k2
  cases k2 with
  | slc _ _ _ _ _ L c a h1 h2 h3 h4 h5=>exact .slc _ _ _ _ _ L c a h1 h2 (Nat.zero_le _) (fun k hk=>by cases hk) h5
 ·have:=k3.ob id
  rw [rF] at this ⊢
  unfold upd at this ⊢
  split
  ·rename_i h9
   rw [if_pos h9] at this
   intro L hL
   obtain ⟨C,T,fz,h1,h2,h3,h4,h5⟩:=this L hL
   exact ⟨C,T,fz,hsz▸h1,h2,h3,h4,by simp,⟨fun h=>(by cases h),fun i x h=>(by simp at h),fun i x j c h=>(by simp at h)⟩⟩
  ·rename_i h9;rw [if_neg h9] at this;exact this
 ·obtain ⟨id,L,h1,h2,h3⟩:=hb;exact k4.jE b ⟨id,L,(hwr id).symm.trans h1,h2,h3⟩
 ·obtain ⟨id,L,h1,h2,h3⟩:=hb;exact k4.lJ b ⟨id,L,(hli id).symm.trans h1,h2,h3⟩
end
def Rdz (π:Pool) (ro:Ro):Prop:=∀q∈π,∀(j:Nat) (c:D),q.2[j]?=some c→∃u,ro (cellAt q.1 j)=some u∧DR ro c u
def Vu (π:Pool) (x y:AV):Prop:=∀(ro ro':Ro) (μ:Mu) (v:Value),(∀a u,ro a=some u→ro' a=some u)→Rdz π ro'→VR ro μ x v→VR ro' μ y v
section
variable {π:Pool}
theorem Vu.refl (x:AV):Vu π x x:=fun ro ro' μ v h _ k=>k.mono h (fun _ _ h=>h)
theorem Vu.asb {x y x' y':AV} (h:Vu π x x') (k:Vu π y y'):Vu π (.tuple [x,y]) (.tuple [x',y']):=by
 intro ro ro' μ v h1 h2 hv
 cases hv with
 | tuple _ vs hs hg=>
  refine .tuple _ vs hs fun i z u hz hu=>?_
  match i with
  | 0=>simp at hz;subst hz;exact h ro ro' μ u h1 h2 (hg 0 x u rfl hu)
  | 1=>simp at hz;subst hz;exact k ro ro' μ u h1 h2 (hg 1 y u rfl hu)
  | i+2=>simp at hz
theorem Si {α β:Type} {f:α→Option β}:∀{xs:List α} {ys:List β},xs.mapM f=some ys→ys.length=xs.length∧∀(i:Nat) (x:α),xs[i]?=some x→∃y,ys[i]?=some y∧f x=some y
 | [],ys,h=>by simp at h;subst h;exact ⟨rfl,fun i x h=>by simp at h⟩
 | x::xs,ys,h=>by
  rw [List.mapM_cons] at h
  obtain ⟨y,h1,h⟩:=ob h
  obtain ⟨zs,h2,h3⟩:=ob h
  have:=Option.some.inj h3
  subst this
  obtain ⟨k1,k2⟩:=Si h2
  refine ⟨by simp [k1],fun i z hz=>?_⟩
  match i with
  | 0=>simp at hz;subst hz;exact ⟨y,rfl,h1⟩
  | i+1=>simp at hz;simpa using k2 i z hz
theorem Vu.aus {α β:Type} {g:α→D} {F:β→D} {T:α→β} (hF:∀x,(F (T x)).cells=[g x]) {pp:List (Nat×α)} {bs:List Nat} {zs:List α} (h:bs.mapM (FZ pp)=some zs):Vu (QO g pp) (.d (eL 1 D.y7 bs)) (.d (eL 1 (eP F) (zs.map T))):=by
 intro ro ro' μ v h1 h2 hv
 obtain ⟨k1,k2⟩:=Si h
 have key:∀(i:Nat) (y:D),((zs.map T).map (eP F))[i]?=some y→∃b z,bs[i]?=some b∧(b,z)∈pp∧y=.ptr [g z]:=by
  intro i y hy
  rw [List.getElem?_map,List.getElem?_map] at hy
  have hi:i < bs.length:=by
   rcases Nat.lt_or_ge i zs.length with q | q
   ·omega
   ·rw [List.getElem?_eq_none q] at hy;simp at hy
  obtain ⟨z,hz1,hz2⟩:=k2 i bs[i] (List.getElem?_eq_getElem hi)
  rw [hz1] at hy
  simp only [Option.map_some,Option.some.injEq] at hy
  exact ⟨bs[i],z,List.getElem?_eq_getElem hi,RV hz2,by rw [← hy];unfold eP;rw [hF]⟩
 have aa2:((zs.map T).map (eP F)).length=(bs.map D.y7).length:=by simp [k1]
 have hcell:∀(i:Nat) (y:D) (j:Nat) (c:D),((zs.map T).map (eP F))[i]?=some y→y.cells[j]?=some c→j=0∧∃b z,(bs.map D.y7)[i]?=some (.y7 b)∧(b,z)∈pp∧c=.ptr [g z]:=by
  intro i y j c hy hc
  obtain ⟨b,z,hb,hm,rfl⟩:=key i y hy
  match j with
  | 0=>simp [D.cells] at hc;exact ⟨rfl,b,z,by simp [hb],hm,hc.symm⟩
  | j+1=>simp [D.cells] at hc
 cases hv with
 | d _ _ hd=>
  refine .d _ _ ?_
  unfold eL at hd ⊢
  generalize hz:(zs.map T).map (eP F)=ys at aa2 hcell key
  generalize hb:bs.map D.y7=xs at aa2 hcell hd
  cases hd with
  | nl=>
   have:ys=[]:=List.eq_nil_of_length_eq_zero (by simpa using aa2)
   subst this
   exact .nl 1
  | y8 _ _ a cap gg hc ha hzz g1 g2=>
   rw [← aa2]
   refine .y8 1 ys a cap gg (by omega) (fun hne=>ha (fun e=>hne (List.eq_nil_of_length_eq_zero (by rw [aa2,e];rfl)))) (fun i y hy=>?_) (fun i y j c hy hc2=>?_) (fun i y j c hy hc2=>?_)
   ·obtain ⟨b,z,_,_,rfl⟩:=key i y hy
    exact ⟨rfl,fun c hc=>by simp [D.cells] at hc;subst hc;rfl⟩
   ·obtain ⟨rfl,b,z,q1,_,_⟩:=hcell i y j c hy hc2
    exact h1 _ _ (g1 i (.y7 b) 0 (.y7 b) q1 rfl)
   ·obtain ⟨rfl,b,z,q1,q2,rfl⟩:=hcell i y j c hy hc2
    have q3:=g2 i (.y7 b) 0 (.y7 b) q1 rfl
    generalize hgg:gg (i*1+0)=u at q3
    cases q3 with
    | y7=>
     obtain ⟨u,u1,u2⟩:=h2 (b,[g z]) (List.mem_map.2 ⟨(b,z),q2,rfl⟩) 0 (g z) rfl
     exact .ptr [g z] b 0 (fun _=>u) (fun j c hj=>by
      match j with
      | 0=>exact u1
      | j+1=>simp at hj) (fun j c hj=>by
      match j with
      | 0=>simp at hj;subst hj;exact u2
      | j+1=>simp at hj)
end
section
variable {P:Program} {m n:Nat} {B:Vq} {e:En} {π Ct:Pool} {s:St}
theorem anq {fn:Func} {r r0:AV} {rs:List AV} (hk:Wk m s ⟨mk n e,[]⟩) (hr:ES P n e [] fn.results.toList rs) (ho:F6 rs=r0) (hw:Vu π r0 r):∃s1 Ct r0,zU B m (s,π) s1∧aeK P fn r0 Ct .ret s1∧Vu Ct r0 r:=⟨(⟨mk n e,[]⟩,π),π,r0,zU.of hk rfl,⟨.inr rfl,⟨rs,hr.res,ho,rfl⟩,rfl⟩,hw⟩
theorem fnz {f:FuncId} {args:List AV} {r:AV} {fn:Func} {c:Code} (ι:List Nat) (hfn:P.funcs[f]?=some fn) (hbody:fn.body=some c) (hn:fn.ntmps=n) (hz:agU ι args=some e) (he:enum 0 args=e) (hl:Nat.ble args.length n=true)
  (h:gW P ⟨fun _=>False,False⟩ 0 c (⟨mk n e,[]⟩,[]) (fun e s=>∃s1 Ct r0,zU ⟨fun _=>False,False⟩ 0 s s1∧aeK P fn r0 Ct e s1∧Vu Ct r0 r)):aT P f args [] r []:=by
 subst hn
 subst he
 have h':gW P ⟨fun _=>False,False⟩ 0 c (⟨args++List.replicate (fn.ntmps - args.length) (.tuple []),[]⟩,[]) (fun e s=>∃Ct r0,aeK P fn r0 Ct e s∧Vu Ct r0 r):=
  gW.post (gW.wk (sq:=(⟨mk fn.ntmps (enum 0 args),[]⟩,[])) (zU.of (Wk.begin (Nat.le_of_ble_eq_true hl)) rfl) h) (fun _ _ ⟨s1,Ct,r0,h1,h2,h3⟩=>⟨s1,h1,Ct,r0,h2,h3⟩)
 intro ro μ w fG g hdom ha
 let a0:Act:={ tmps:=fG++Array.replicate (fn.ntmps - fG.size) undef,defers:=[] }
 have hrel:uZ ⟨fun _=>False,False⟩ 0 ro μ w (Lv.hp []) ro μ w (⟨args++List.replicate (fn.ntmps - args.length) (.tuple []),[]⟩,[]) a0:=by
  refine ⟨g,?_,hdom,rfl,.of (Ext.refl _ _ _ _).Ri,fun _ _=>rfl,Nat.le_refl _,.none,fun q hq=>(by cases hq),fun b h=>R7 h⟩
  have e:fn.ntmps - args.length=fn.ntmps - fG.size:=by rw [ha.size]
  refine jW ha ⟨by simp [e],fun i x v hx hv=>?_⟩
  rw [List.getElem?_replicate] at hx
  rw [Array.getElem?_replicate] at hv
  split at hx
  ·split at hv
   ·simp only [Option.some.injEq] at hx hv
    subst hx;subst hv
    exact .tuple [] #[] rfl (fun i x v hx=>by simp at hx)
   ·cases hv
  ·cases hx
 refine calls_of_wp hfn hbody (h' ro μ w (Lv.hp []) ro μ w a0 _ hrel fun e s' a' w' hq he=>?_)
 obtain ⟨Ct,r0,⟨he1,⟨rs,h1,rfl,h3⟩,rfl⟩,hw⟩:=hq
 obtain ⟨ro',μ',hr⟩:=he
 obtain ⟨v,k1,k2⟩:=Bp hr.good hr.env h1
 have hg:=hr.good
 have hx:=hr.ext
 have hd:=hr.dom
 rw [h3] at hg hx hd
 let roz:Ro:=fun a=>if ∃q∈s'.2,q.1=a.block then w'.cell? a else ro' a
 have up:∀a u,ro' a=some u→roz a=some u:=fun a u hu=>by
  simp only [roz]
  split
  ·rename_i hq
   obtain ⟨q,hq1,hq2⟩:=hq
   rw [hr.pl.dark q hq1 a hq2.symm] at hu;cases hu
  ·exact hu
 have rd:Rdz s'.2 roz:=fun q hq j c hc=>by
  obtain ⟨C,T,fz,c1,c2,c3,c4⟩:=hr.pl.cell q hq
  have hj:j < C.size:=by rw [c3];exact (List.getElem?_eq_some_iff.1 hc).1
  refine ⟨C[j],?_,(c4 j c C[j] hc (Array.getElem?_eq_getElem hj)).mono up⟩
  simp only [roz]
  rw [if_pos ⟨q,hq,rfl⟩]
  rw [rR c1]
  exact Array.getElem?_eq_getElem hj
 have gz:Good roz μ' w' (Lv.hp []):=⟨fun a u hu=>by
  simp only [roz] at hu
  split at hu
  ·exact hu
  ·exact hg.qJ a u hu,fun id=>trivial,fun id id' L L' h=>by simp [hp,Ob.wr] at h,fun b hb=>(R7 hb).elim,fun a u hu=>up a u (hg.base a u hu)⟩
 have xz:yx ro μ w (Lv.hp []) roz μ' w' (Lv.hp []):=by
  have hx0:=hx.to
  refine ⟨fun a u hu=>up a u (hx0.jC a u hu),fun a u hu=>?_,hx0.jE,hx0.lJ,hx0.frame,hx0.size,hx0.os,hx0.tape,hx0.output⟩
  simp only [roz] at hu
  split at hu
  ·rename_i hq
   obtain ⟨q,hq1,hq2⟩:=hq
   rcases hr.own q hq1 with hh | hh | hh
   ·exact hh.elim
   ·exact .inr (.inl (hq2▸hh))
   ·exact hh.elim
  ·exact hx0.kr a u hu
 have fin:a'.defers=[]∧∃v,(results fn a'.tmps).run P w'=.ok v w'∧(∃u ro' μ',Ending.returned v=.returned u∧VR ro' μ' r u∧Good ro' μ' w' (Lv.hp [])∧yx ro μ w (Lv.hp []) ro' μ' w' (Lv.hp [])∧(∀id L,μ' id=some L→id < ([]:List Ob).length)∧(∀id,id < ([]:List Ob).length→μ' id=μ id)):=
  ⟨hr.defers,v,k1,v,roz,μ',rfl,hw ro' roz μ' v up rd k2,gz,xz,hd,fun id hid=>by simp at hid⟩
 rcases he1 with rfl | rfl
 ·exact fin
 ·exact fin
end
end Lv
/- Regions in drawn order whose last operation waits for all the others: the others in any order, then the last one. -/
namespace Lv
open Go
variable [bJ]
def lastB (ops:Array Oper) (n:Nat):Bool:=
 decide (ops.size=n+1)&&Region.sinkB .any ops n&&(List.range (n+1)).all fun j=>match ops[j]? with
  | some o=>o.after.all (fun e=> !Region.binds .any e || decide (e.on < j))&&(match o.guard with | none=>true | some (g,_)=>decide (g < j))
  | none=>true
section
variable {P:Program} {ops:Array Oper} {n:Nat} {o:Oper} {Z:Exit→Act→World→Prop}
theorem LH (h:lastB ops n=true):ops.size=n+1∧Region.sinkB .any ops n=true∧∀(j:Nat) (o:Oper),ops[j]?=some o→(∀e∈o.after,Region.binds .any e=true→e.on < j)∧∀g w,o.guard=some (g,w)→g < j:=by
 unfold lastB at h
 simp only [Bool.and_eq_true,decide_eq_true_eq,List.all_eq_true,List.mem_range] at h
 obtain ⟨⟨h1,h2⟩,h3⟩:=h
 refine ⟨h1,h2,fun j o ho=>?_⟩
 have hj:j < n+1:=by rw [← h1];exact (Array.getElem?_eq_some_iff.1 ho).1
 have:=h3 j hj
 rw [ho] at this
 simp only [Bool.and_eq_true] at this
 refine ⟨fun e he hb=>?_,fun g w hg=>?_⟩
 ·have:=Array.all_eq_true'.1 this.1 e he
  rw [hb] at this
  simpa using this
 ·have:=this.2
  rw [hg] at this
  simpa using this
theorem J5 (j:Nat) (hj:j < n):(ops.toList.take n).toArray[j]?=ops[j]?:=by simp [List.getElem?_take,hj]
theorem acK (hl:lastB ops n=true) (hd:ops[n]?=some o):∀(fuel:Nat) (listed listed':Array Bool) (a:Act) (w:World),HeadInv .any ops n listed→listed'.size=n→(∀i,i < n→listed.getD i false=listed'.getD i false)→
  wpAny P .any (ops.toList.take n).toArray (Qv P ops Z [o]) fuel listed' a w→wpAny P .any ops Z (fuel+1) listed a w:=by
 obtain ⟨hsz,alq,hops⟩:=LH hl
 have hchain:Region.chainB .any ops n=true:=by
  unfold Region.chainB
  rw [List.all_eq_true]
  intro t ht
  have:=List.mem_range.1 ht
  simp only [Bool.or_eq_true,decide_eq_true_eq]
  left;omega
 have hps:(ops.toList.take n).toArray.size=n:=by simp;omega
 have hin:∀{listed listed':Array Bool},listed'.size=n→HeadInv .any ops n listed→(∀i,i < n→listed.getD i false=listed'.getD i false)→∀i,i < n→(i∈Region.ready .any ops listed↔i∈Region.ready .any (ops.toList.take n).toArray listed'):=by
  intro listed listed' hs inv he i hi
  rw [Go.mem_ready,Go.mem_ready,J5 i hi]
  have h1:listed.getD i true=listed'.getD i true:=by
   have:=he i hi
   simp only [Array.getD,inv.size,hs,hsz,show i < n+1 by omega,hi,dite_true] at this ⊢
   exact this
  rw [h1]
  refine and_congr Iff.rfl ⟨fun ⟨p,hp,h⟩=>⟨p,hp,fun e hm hb=>?_⟩,fun ⟨p,hp,h⟩=>⟨p,hp,fun e hm hb=>?_⟩⟩
  ·have hlt:=(hops i p hp).1 e hm hb
   rw [← he e.on (by omega)];exact h e hm hb
  ·have hlt:=(hops i p hp).1 e hm hb
   rw [he e.on (by omega)];exact h e hm hb
 have hall:∀{listed':Array Bool},Region.ready .any (ops.toList.take n).toArray listed'=[]→listed'.size=n→∀i,i < n→listed'.getD i false=true:=by
  intro listed' hr hs i
  induction i using Nat.strongRecOn with
  | ind i ih=>
   intro hi
   cases hc:listed'.getD i false with
   | true=>rfl
   | false=>
    exfalso
    have hm:i∈Region.ready .any (ops.toList.take n).toArray listed':=by
     rw [Go.mem_ready,J5 i hi]
     refine ⟨getD_in (by omega) hc,ops[i],Array.getElem?_eq_getElem (by omega),fun e he hb=>?_⟩
     have hlt:=(hops i ops[i] (Array.getElem?_eq_getElem (by omega))).1 e he hb
     exact ih e.on hlt (by omega)
    rw [hr] at hm;cases hm
 have hend:∀{listed:Array Bool} {fuel:Nat} {a:Act} {w:World},(∀i,i < n+1→listed.getD i false=true)→listed.size=n+1→Z .normal a w→wpAny P .any ops Z fuel listed a w:=by
  intro listed fuel a w hal hs hz
  have hr:Region.ready .any ops listed=[]:=by
   rw [List.eq_nil_iff_forall_not_mem]
   intro i hi
   obtain ⟨h1,p,hp,_⟩:=Go.mem_ready.1 hi
   have hi2:i < n+1:=by rw [← hsz];exact (Array.getElem?_eq_some_iff.1 hp).1
   have h2:=hal i hi2
   rw [getD_both h1] at h2;cases h2
  cases fuel with
  | zero=>exact ⟨hr,hz⟩
  | succ f=>exact ⟨fun _=>hz,fun i hi=>by rw [hr] at hi;cases hi⟩
 have hlast:∀{listed listed':Array Bool} {fuel:Nat} {a:Act} {w:World},HeadInv .any ops n listed→listed'.size=n→(∀i,i < n→listed.getD i false=listed'.getD i false)→Region.ready .any (ops.toList.take n).toArray listed'=[]→Qv P ops Z [o] .normal a w→wpAny P .any ops Z (fuel+1) listed a w:=by
  intro listed listed' fuel a w inv hs he hr hz
  have hal:=hall hr hs
  have hn0:listed.getD n true=false:=inv.tail n (Nat.le_refl _) (by omega)
  have hnr:n∈Region.ready .any ops listed:=by
   rw [Go.mem_ready]
   refine ⟨hn0,o,hd,fun e hm hb=>?_⟩
   have hlt:=(hops n o hd).1 e hm hb
   rw [he e.on hlt];exact hal e.on hlt
  refine ⟨fun h=>(by rw [h] at hnr;cases hnr),fun i hi=>?_⟩
  have hi2:i=n:=by
   obtain ⟨h1,p,hp,_⟩:=Go.mem_ready.1 hi
   have hi2:i < n+1:=by rw [← hsz];exact (Array.getElem?_eq_some_iff.1 hp).1
   rcases Nat.lt_or_ge i n with h | h
   ·have h2:=hal i h
    rw [← he i h,getD_both h1] at h2;cases h2
   ·omega
  subst hi2
  have hz':wpOp P ops Z i (Z .normal) a w:=by
   unfold wpOp
   rw [hd]
   exact hz
  refine wpOp_mono (fun a' w' h=>hend (fun k hk=>?_) (by simp [inv.size,hsz]) h) hz'
  rw [Gj (n:=i+1) (by rw [inv.size,hsz]) (by omega)]
  rcases Nat.lt_or_ge k i with h9 | h9
  ·rw [he k h9,hal k h9,Bool.or_true]
  ·have:k=i:=by omega
   simp [this]
 intro fuel
 induction fuel with
 | zero=>
  intro listed listed' a w inv hs he h
  exact hlast inv hs he h.1 h.2
 | succ fuel ih=>
  intro listed listed' a w inv hs he h
  by_cases hr:Region.ready .any (ops.toList.take n).toArray listed'=[]
  ·exact hlast inv hs he hr (h.1 hr)
  ·obtain ⟨i0,hi0⟩:=List.exists_mem_of_ne_nil _ hr
   have amE:i0 < n:=by
    obtain ⟨_,p,hp,_⟩:=Go.mem_ready.1 hi0
    have:=(Array.getElem?_eq_some_iff.1 hp).1
    omega
   have aiu:=(hin hs inv he i0 amE).2 hi0
   have hun:listed.getD i0 true=false:=(Go.mem_ready.1 aiu).1
   refine ⟨fun h0=>(by rw [h0] at aiu;cases aiu),fun i hi=>?_⟩
   have hin2:i < n:=by
    rcases Nat.lt_or_ge i n with h9 | h9
    ·exact h9
    ·exact absurd hi (tail_waits alq hchain (by omega) inv _ i0 rfl amE hun i h9)
   have hi':=(hin hs inv he i hin2).1 hi
   have h1:=h.2 i hi'
   have hgi:ops[i]?=some ops[i]:=Array.getElem?_eq_getElem (by omega)
   have key:∀(a':Act) (w':World),wpAny P .any (ops.toList.take n).toArray (Qv P ops Z [o]) fuel (listed'.setIfInBounds i true) a' w'→wpAny P .any ops Z (fuel+1) (listed.setIfInBounds i true) a' w':=fun a' w' h9=>by
    refine ih _ _ a' w' (inv.set hi hin2) (by simp [hs]) (fun k hk=>?_) h9
    rw [Gj (n:=n+1) (by rw [inv.size,hsz]) (by omega),Gj (n:=n) hs hin2,he k hk]
   unfold wpOp at h1 ⊢
   rw [J5 i hin2,hgi] at h1
   rw [hgi]
   simp only at h1 ⊢
   have hw:gOk (ops.toList.take n).toArray ops ops[i]:=fun j w hj=>by
    have:=(hops i _ hgi).2 j w hj
    rw [J5 j (by omega)]
   rw [Fb hw] at h1
   split
   ·rename_i hwn
    rw [if_pos hwn] at h1
    rcases h1 with h1 | h1
    ·exact .inl (wp_cut key h1)
    ·exact .inr ⟨h1.1,Tf h1.2⟩
   ·rename_i hwn
    rw [if_neg hwn] at h1
    exact key _ _ h1
variable {m:Nat} {B:Vq} {s s1:St} {π:Pool} {Q:Ex→St×Pool→Prop} {C:Code}
theorem RA {id:Nat} {dZ:Ro} {dW:Mu} {w0:World} {H0:Hp} {ro:Ro} {μ:Mu} {w:World} {a:Act} (hl:lastB ops n=true) (hd:ops[n]?=some o) (hok:pW P (ops.toList.take n).toArray=true)
  (h:ST P (ops.toList.take n).toArray (ops.toList.take n) s [] (fun s' t=>eD (ops.toList.take n).toArray t=true∧s'=s1)) (hrel:Rel m dZ dW w0 H0 ro μ w s a)
  (hQ:∀a' w',Ends m dZ dW w0 H0 s1 a' w'→wpList P ops Z [o] a' w'):(Code.region id ops true).wp P Z a w:=by
 obtain ⟨s',t,h1,h2,h3⟩:=h
 subst h3
 simp only [List.reverse_nil,List.nil_append] at h2
 obtain ⟨k1,k2⟩:=WW m dZ dW w0 H0 (Qv P ops Z [o]) (ops.toList.take n).toArray s s' t ro μ w a (by simpa using h1) (by rw [h2,hok];rfl) hrel hQ
 have hsz:=(LH hl).1
 have hps:(ops.toList.take n).toArray.size=n:=by simp;omega
 rw [hps] at k2
 refine wp_region_any k1 ?_
 rw [hsz]
 refine acK hl hd n _ (Array.replicate n false) a _ ⟨by simp [hsz],fun j oj hj h9=>?_,fun t ht ht'=>?_⟩ (by simp) (fun i hi=>?_) k2
 ·rw [getD_replicate_false] at h9;cases h9
 ·exact getD_in (by simpa [hsz] using ht') (getD_replicate_false _ _)
 ·rw [getD_replicate_false,getD_replicate_false]
theorem gW.anz {id:Nat} (n:Nat) (hl:lastB ops n=true) (hd:ops[n]?=some o) (hok:pW P (ops.toList.take n).toArray=true) (h:ST P (ops.toList.take n).toArray (ops.toList.take n) s [] (fun s' t=>eD (ops.toList.take n).toArray t=true∧s'=s1)) (k:Jh P B m ops [o] (s1,π) (fun s'=>Q .normal s')):gW P B m (.region id ops true) (s,π) Q:=by
 intro dZ dW w0 H0 ro μ w a Z hr hQ
 refine RA (o:=o) hl hd hok h hr.rel fun a' w' he=>?_
 obtain ⟨ro',μ',hr'⟩:=he
 exact k dZ dW w0 H0 ro' μ' w' a' Z (hr.after hr') fun s' a' w' h2 he=>hQ .normal s' a' w' h2 he
theorem drL {id:Nat} (n:Nat) (hl:lastB ops n=true) (hd:ops[n]?=some o) (hok:pW P (ops.toList.take n).toArray=true) (h:ST P (ops.toList.take n).toArray (ops.toList.take n) s [] (fun s' t=>eD (ops.toList.take n).toArray t=true∧Jh P B m ops [o] (s',π) (fun s'=>Q .normal s'))):gW P B m (.region id ops true) (s,π) Q:=by
 obtain ⟨s',t,h1,h2,h3⟩:=h
 exact gW.anz (s1:=s') n hl hd hok ⟨s',t,h1,h2,rfl⟩ h3
theorem tnL {K:St→Prop} {acc:List (List Nat×Bool)} (h1:eD ops acc.reverse=true) (h:K s):ST P ops [] s acc (fun s' t=>eD ops t=true∧K s'):=ST.nil ⟨h1,h⟩
end
end Lv
/- Laws of loops over lists, of bounded numbers. -/
namespace Lv
open Go
theorem ady {n:Nat} (h:n < 9223372036854775808):bL (n:Int)=n:=by
 unfold bL IntKind.wrap
 have e1:(2:Int) ^ IntKind.i64.bits=18446744073709551616:=rfl
 have e2:(2:Int) ^ (IntKind.i64.bits - 1)=9223372036854775808:=rfl
 simp only [e1,e2,show IntKind.i64.signed=true from rfl,Bool.true_and,decide_eq_true_eq]
 split <;> omega
theorem gL {n:Int} (h:-9223372036854775808≤n) (h2:n < 9223372036854775808):bL n=n:=by
 unfold bL IntKind.wrap
 have e1:(2:Int) ^ IntKind.i64.bits=18446744073709551616:=rfl
 have e2:(2:Int) ^ (IntKind.i64.bits - 1)=9223372036854775808:=rfl
 simp only [e1,e2,show IntKind.i64.signed=true from rfl,Bool.true_and,decide_eq_true_eq]
 split <;> omega
theorem bX {n:Nat} (h:n < 9223372036854775807):bL ((n:Int)+1)=((n+1:Nat):Int):=by
 rw [gL (by omega) (by omega)];omega
theorem Ca {α:Type} (xs:List α) (i:Nat):bP xs (i:Int)=xs[i]?:=by simp [bP]
theorem cu {α:Type} {xs:List α} {i:Nat} (h:i < xs.length):bP xs (i:Int)=some (xs[i]'h):=by rw [Ca,List.getElem?_eq_getElem h]
theorem ltI {i n:Nat}:decide ((i:Int) < (n:Int))=decide (i < n):=by
 by_cases h:i < n
 ·rw [decide_eq_true h];exact decide_eq_true (by omega)
 ·rw [decide_eq_false h];exact decide_eq_false (by omega)
theorem dL:room=140737488355328:=rfl
theorem av {α β:Type} (a:α) (f:α→Option β):(some a).bind f=f a:=rfl
theorem GH {Y E R:Type} (y:Y) (k:Y→Option R) (e:E→Option R):fP (some (.inl y)) k e=k y:=rfl
theorem Xe {Y E R:Type} (x:E) (k:Y→Option R) (e:E→Option R):fP (some (.inr x)) k e=e x:=rfl
theorem aD {α:Type} {p:Prop} [Decidable p] (h:p) (x y:α):(bif decide p then x else y)=x:=by rw [decide_eq_true h];rfl
theorem aP {α:Type} {p:Prop} [Decidable p] (h:¬p) (x y:α):(bif decide p then x else y)=y:=by rw [decide_eq_false h];rfl
theorem BU {Y W:Type} {B:Y→Option (Y⊕W)} (st:Nat→Y) (n:Nat) {w:W} (h:∀i,i < n→B (st i)=some (.inl (st (i+1)))) (he:B (st n)=some (.inr w)):loop B (st 0)=some w:=by
  have:∀k i,i+k=n→loop B (st i)=some w:=by
    intro k
    induction k with
    | zero => intro i hi;have:i=n:=by omega
              subst this;exact fM he
    | succ k ih=>intro i hi;rw [gB (h i (by omega))];exact ih (i+1) (by omega)
  exact this n 0 (by omega)
def Cc {σ W α:Type} (step:σ→α→σ⊕W) (fin:σ→W):σ→List α→W
 | s,[]=>fin s
 | s,x::xs=>Sum.elim (fun s'=>Cc step fin s' xs) (fun w=>w) (step s x)
theorem Yv {Y W α σ:Type} {B:Y→Option (Y⊕W)} (l:List α) (st:Nat→σ→Y) (step:σ→α→σ⊕W) (fin:σ→W) (I:Nat→σ→Prop)
  (h:∀i s (hi:i < l.length),I i s→B (st i s)=some (Sum.elim (fun s'=>.inl (st (i+1) s')) .inr (step s (l[i]'hi)))∧(∀s',step s (l[i]'hi)=.inl s'→I (i+1) s'))
  (he:∀s,I l.length s→B (st l.length s)=some (.inr (fin s))) (s0:σ) (h0:I 0 s0):loop B (st 0 s0)=some (Cc step fin s0 l):=by
 have key:∀k i s,i+k=l.length→I i s→loop B (st i s)=some (Cc step fin s (l.drop i)):=by
  intro k
  induction k with
  | zero=>
   intro i s hi hs
   have:i=l.length:=by omega
   subst this
   rw [List.drop_length,fM (he s hs)]
   rfl
  | succ k ih=>
   intro i s hi hs
   have hi':i < l.length:=by omega
   obtain ⟨h1,h2⟩:=h i s hi' hs
   rw [List.drop_eq_getElem_cons hi']
   simp only [Cc]
   cases hst:step s (l[i]'hi') with
   | inl s'=>
    rw [hst] at h1
    rw [gB h1]
    exact ih (i+1) s' (by omega) (h2 s' hst)
   | inr w=>
    rw [hst] at h1
    exact fM h1
 exact key l.length 0 s0 (by omega) h0
theorem Sl {W α:Type} {B:Int→Option (Int⊕W)} (l:List α) (p:α→Bool) (e:Nat→W) (fin:W) (h:∀i (hi:i < l.length),B (i:Int)=some (if p (l[i]'hi)=true then .inr (e i) else .inl ((i+1:Nat):Int)))
  (he:B (l.length:Int)=some (.inr fin)):(l.any p=true∧∃i:Nat,∃hi:i < l.length,p (l[i]'hi)=true∧loop B 0=some (e i))∨(l.any p=false∧loop B 0=some fin):=by
 have key:∀k i,i+k=l.length→((l.drop i).any p=true∧∃i:Nat,∃hi:i < l.length,p (l[i]'hi)=true∧loop B 0=some (e i))∨((l.drop i).any p=false∧loop B (i:Int)=some fin)∨loop B (i:Int)≠loop B 0:=by
  intro k
  induction k with
  | zero=>
   intro i hi
   have:i=l.length:=by omega
   subst this
   right;left
   rw [List.drop_length]
   exact ⟨rfl,fM he⟩
  | succ k ih=>
   intro i hi
   have hi':i < l.length:=by omega
   by_cases hne:loop B (i:Int)=loop B 0
   rotate_left
   ·exact .inr (.inr hne)
   have hb:=h i hi'
   rw [List.drop_eq_getElem_cons hi',List.any_cons]
   cases hp:p (l[i]'hi') with
   | true=>
    left
    rw [hp,if_pos rfl] at hb
    exact ⟨rfl,i,hi',hp,hne▸fM hb⟩
   | false=>
    rw [hp,if_neg (by simp)] at hb
    have hs:=gB hb
    rcases ih (i+1) (by omega) with q | q | q
    ·exact .inl (by rw [Bool.false_or];exact q)
    ·exact .inr (.inl ⟨by rw [Bool.false_or];exact q.1,hs.trans q.2⟩)
    ·exact absurd (hs.symm.trans hne) q
 rcases key l.length 0 (by omega) with q | q | q
 ·exact .inl q
 ·exact .inr q
 ·exact absurd rfl q
def mapped {α:Type} (f:α→α) (b:List α) (i:Nat):List α:=(b.take i).map f++b.drop i
theorem Jb {α:Type} (f:α→α) (b:List α):mapped f b 0=b:=by simp [mapped]
theorem Lx {α:Type} (f:α→α) (b:List α):mapped f b b.length=b.map f:=by simp [mapped]
theorem Ls {α:Type} (f:α→α) (b:List α) (i:Nat):(mapped f b i).length=b.length:=by simp [mapped];omega
theorem Lu {α:Type} (f:α→α) (b:List α) {i:Nat} (h:i < b.length):(mapped f b i)[i]?=some (b[i]'h):=by
 unfold mapped
 rw [List.getElem?_append_right (by simp;omega)]
 simp [h,Nat.min_eq_left (Nat.le_of_lt h)]
theorem Lr {α:Type} (f:α→α) (b:List α) {i:Nat} (h:i < b.length):(mapped f b i).set i (f (b[i]'h))=mapped f b (i+1):=by
 unfold mapped
 rw [List.set_append_right _ _ (by simp;omega)]
 have:i - ((b.take i).map f).length=0:=by simp;omega
 rw [this,List.drop_eq_getElem_cons h,List.set_cons_zero,List.take_succ_eq_append_getElem h,List.map_append,List.append_assoc]
 rfl
end Lv
namespace Lv
open Go
set_option maxRecDepth 100000
variable [bJ]
structure aj where
 Kind:Int
 N:UInt64
 S:List UInt8
deriving DecidableEq,Inhabited
abbrev au (x:aj):D:=.agg [eI x.Kind,eX x.N,eS x.S]
structure aA where
 Name:List UInt8
 Kind:Int
 Max:Int
 Au:Bool
 Default:aj
deriving DecidableEq,Inhabited
abbrev aJ (x:aA):D:=.agg [eS x.Name,eI x.Kind,eI x.Max,eB x.Au,eI x.Default.Kind,eX x.Default.N,eS x.Default.S]
structure aX where
 Col:Int
 Down:Bool
deriving DecidableEq,Inhabited
abbrev aK (x:aX):D:=.agg [eI x.Col,eB x.Down]
structure bT where
 Name:List UInt8
 Parts:List aX
 Extra:List Int
 Unique:Bool
 Ready:Bool
 Tree:Int
deriving DecidableEq,Inhabited
abbrev bF (x:bT):D:=.agg [eS x.Name,(eL 2 aK) x.Parts,(eL 1 eI) x.Extra,eB x.Unique,eB x.Ready,eI x.Tree]
structure aL where
 Name:List UInt8
 aV:List aA
 aR:List Int
 bn:List bT
 Tree:Int
deriving DecidableEq,Inhabited
abbrev bE (x:aL):D:=.agg [eS x.Name,(eL 7 aJ) x.aV,(eL 1 eI) x.aR,(eL 6 bF) x.bn,eI x.Tree]
structure aY where
 Kind:Int
 Col:Int
 Op:Int
 Val:aj
deriving DecidableEq,Inhabited
abbrev bg (x:aY):D:=.agg [eI x.Kind,eI x.Col,eI x.Op,eI x.Val.Kind,eX x.Val.N,eS x.Val.S]
structure bG where
 Pred:List aY
 aV:List Int
 Order:List aX
 Limit:Int
deriving DecidableEq,Inhabited
abbrev dQ (x:bG):D:=.agg [(eL 6 bg) x.Pred,(eL 1 eI) x.aV,(eL 2 aK) x.Order,eI x.Limit]
structure aU where
 Key:List UInt8
 Has:Bool
 Val:List UInt8
 Ki:UInt64
 New:Bool
 kM:List UInt8
deriving DecidableEq,Inhabited
abbrev bC (x:aU):D:=.agg [eS x.Key,eB x.Has,eS x.Val,eX x.Ki,eB x.New,eS x.kM]
structure mD where
 Seq:UInt64
 Kind:Int
 Key:List UInt8
 Ki:UInt64
 Val:List UInt8
 Off:Int
 Num:UInt64
deriving DecidableEq,Inhabited
abbrev gU (x:mD):D:=.agg [eX x.Seq,eI x.Kind,eS x.Key,eX x.Ki,eS x.Val,eI x.Off,eX x.Num]
structure aQ where
 has:Bool
 s:List UInt8
deriving DecidableEq,Inhabited
abbrev aZ (x:aQ):D:=.agg [eB x.has,eS x.s]
structure dh where
 Key:List UInt8
 Val:List UInt8
deriving DecidableEq,Inhabited
abbrev dS (x:dh):D:=.agg [eS x.Key,eS x.Val]
structure dY where
 L:List aU
deriving DecidableEq,Inhabited
abbrev kG (x:dY):D:=.agg [(eL 6 bC) x.L]
structure ay where
 no:List Int
 trees:List dY
 calls:Int
 fail:Int
deriving DecidableEq,Inhabited
abbrev aI (x:ay):D:=.agg [(eL 1 eI) x.no,(eL 1 (eP kG)) x.trees,eI x.calls,eI x.fail]
structure dG where
 Lo:List UInt8
 Hi:List UInt8
 Open:Bool
deriving DecidableEq,Inhabited
abbrev iQ (x:dG):D:=.agg [eS x.Lo,eS x.Hi,eB x.Open]
structure bQ where
 Index:Int
 Span:dG
 Fixed:Int
 Bounded:Bool
 Covers:Bool
 iW:Int
deriving DecidableEq,Inhabited
abbrev mX (x:bQ):D:=.agg [eI x.Index,eS x.Span.Lo,eS x.Span.Hi,eB x.Span.Open,eI x.Fixed,eB x.Bounded,eB x.Covers,eI x.iW]
structure bO where
 Space:Int
 Span:dG
 Own:Bool
deriving DecidableEq,Inhabited
abbrev cZ (x:bO):D:=.agg [eI x.Space,eS x.Span.Lo,eS x.Span.Hi,eB x.Span.Open,eB x.Own]
def gq (x y:aj):Bool:=(x.Kind==y.Kind&&(x.N==y.N&&(x.S==y.S&&true)))
structure aG where
 row:List aj
 primary:List UInt8
deriving DecidableEq,Inhabited
abbrev bA (x:aG):D:=.agg [(eL 3 au) x.row,eS x.primary]
def qh (x y:aY):Bool:=(x.Kind==y.Kind&&(x.Col==y.Col&&(x.Op==y.Op&&(gq x.Val y.Val&&true))))
end Lv
/- Part of the proof of a law: facts of the program. -/
namespace Lv
open Go Go.Proofs
set_option maxRecDepth 100000
variable [bJ]
theorem Ve (a0:Int):iD Tryz.prog 83 [(0,.d (eI a0))]=some (.d (au (aj.mk a0 (0:UInt64) ([]:List UInt8)))):=by rfl
theorem Me (a0:List UInt8) (a1:Int) (a4:aj):iD Tryz.prog 94 [(0,.d (eS a0)),(1,.d (eI a1)),(4,.d (au a4))]=some (.d (aJ (aA.mk a0 a1 (0:Int) false a4))):=by rfl
theorem ng:Tryz.prog.underlying 22=some (.slice 94):=by kernel_rfl
theorem ai0:EI Tryz.prog 94 7 72 (aJ (aA.mk ([]:List UInt8) (0:Int) (0:Int) false (aj.mk (0:Int) (0:UInt64) ([]:List UInt8)))):=⟨by kernel_rfl,by kernel_rfl,rfl,by decide,rfl,by decide⟩
theorem iJ:Tryz.prog.underlying 23=some (.slice 3):=by kernel_rfl
theorem TV:EI Tryz.prog 3 1 8 (eI (0:Int)):=⟨by kernel_rfl,by kernel_rfl,rfl,by decide,rfl,by decide⟩
theorem Qy (a0:List UInt8) (a4:Int):iD Tryz.prog 26 [(0,.d (eS a0)),(1,.slc 0 7 0 ([(aA.mk ([105,100]:List UInt8) (1:Int) (0:Int) false (aj.mk (1:Int) (0:UInt64) ([]:List UInt8))),(aA.mk ([110]:List UInt8) (1:Int) (0:Int) false (aj.mk (1:Int) (0:UInt64) ([]:List UInt8)))].length) none),(2,.slc 1 1 0 ([(0:Int)].length) none),(4,.d (eI a4))]=some (.agg [.d (eS a0),.slc 0 7 0 ([(aA.mk ([105,100]:List UInt8) (1:Int) (0:Int) false (aj.mk (1:Int) (0:UInt64) ([]:List UInt8))),(aA.mk ([110]:List UInt8) (1:Int) (0:Int) false (aj.mk (1:Int) (0:UInt64) ([]:List UInt8)))].length) none,.slc 1 1 0 ([(0:Int)].length) none,.d .dB,.d (eI a4)]):=by rfl
theorem agT:zeroOf Tryz.prog 26=some (.agg [(eS ([]:List UInt8)),.dB,.dB,.dB,(eI (0:Int))]):=by kernel_rfl
theorem oU:dF Tryz.prog 26=some 5:=by kernel_rfl
theorem Cn (a0:Int) (a1:UInt64):iD Tryz.prog 83 [(0,.d (eI a0)),(1,.d (eX a1))]=some (.d (au (aj.mk a0 a1 ([]:List UInt8)))):=by rfl
theorem jJ:Tryz.prog.underlying 71=some (.slice 83):=by kernel_rfl
theorem EO:EI Tryz.prog 83 3 32 (au (aj.mk (0:Int) (0:UInt64) ([]:List UInt8))):=⟨by kernel_rfl,by kernel_rfl,rfl,by decide,rfl,by decide⟩
theorem mZ:Tryz.prog.underlying 31=some (.slice 71):=by kernel_rfl
theorem ab3:EI Tryz.prog 71 1 24 .dB:=⟨by kernel_rfl,by kernel_rfl,rfl,by decide,rfl,by decide⟩
theorem uQ:jB Tryz.prog 26=some true:=by kernel_rfl
theorem U6:FO Tryz.prog 26 4 3 4:=by unfold FO;kernel_rfl
theorem dH:dF Tryz.prog 3=some 1:=by kernel_rfl
theorem gV:jB Tryz.prog 3=some false:=by kernel_rfl
theorem acy:iD Tryz.prog 112 []=some (.d (.agg [.dB])):=by rfl
theorem aag:Tryz.prog.underlying 42=some (.slice 66):=by kernel_rfl
theorem ai1:EI Tryz.prog 66 1 8 .Ga:=⟨by kernel_rfl,by kernel_rfl,rfl,by decide,rfl,by decide⟩
theorem adJ:dF Tryz.prog 66=some 1:=by kernel_rfl
theorem akq:jB Tryz.prog 66=some false:=by kernel_rfl
theorem ni:dF Tryz.prog 71=some 1:=by kernel_rfl
theorem zk:jB Tryz.prog 71=some false:=by kernel_rfl
theorem wR:FO Tryz.prog 26 2 23 2:=by unfold FO;kernel_rfl
theorem jf:dF Tryz.prog 23=some 1:=by kernel_rfl
theorem vB:jB Tryz.prog 23=some false:=by kernel_rfl
theorem acp (a0:Int):iD Tryz.prog 91 [(0,.d (eI a0))]=some (.d (aK (aX.mk a0 false))):=by rfl
theorem xg:Tryz.prog.underlying 28=some (.slice 91):=by kernel_rfl
theorem YF:EI Tryz.prog 91 2 16 (aK (aX.mk (0:Int) false)):=⟨by kernel_rfl,by kernel_rfl,rfl,by decide,rfl,by decide⟩
theorem bc28:jl Tryz.prog 28=false:=by kernel_rfl
theorem anP:callable Tryz.prog 36=true:=by kernel_rfl
theorem Hf:dF Tryz.prog 91=some 2:=by kernel_rfl
theorem Ce:FO Tryz.prog 91 0 3 0:=by unfold FO;kernel_rfl
theorem gK:dF Tryz.prog 83=some 3:=by kernel_rfl
theorem ny:jB Tryz.prog 83=some true:=by kernel_rfl
theorem Xm:zeroOf Tryz.prog 83=some (au (aj.mk (0:Int) (0:UInt64) ([]:List UInt8))):=by kernel_rfl
theorem YM:jl Tryz.prog 71=false:=by kernel_rfl
theorem U0:FO Tryz.prog 91 1 4 1:=by unfold FO;kernel_rfl
theorem nu:dF Tryz.prog 4=some 1:=by kernel_rfl
theorem FB:jB Tryz.prog 4=some false:=by kernel_rfl
theorem oQ:Tryz.prog.underlying 74=some (.slice 4):=by kernel_rfl
theorem TU:EI Tryz.prog 4 1 1 (eB false):=⟨by kernel_rfl,by kernel_rfl,rfl,by decide,rfl,by decide⟩
theorem Tw:jl Tryz.prog 74=false:=by kernel_rfl
theorem iG:FO Tryz.prog 83 0 3 0:=by unfold FO;kernel_rfl
theorem acw:iD Tryz.prog 171 []=some (.d (.agg [.dB])):=by rfl
theorem l7:FO Tryz.prog 171 0 169 0:=by unfold FO;kernel_rfl
theorem dV:dF Tryz.prog 169=some 1:=by kernel_rfl
theorem lH:jB Tryz.prog 169=some false:=by kernel_rfl
theorem Bh:Tryz.prog.underlying 68=some (.int .u64):=by kernel_rfl
theorem EU:Tryz.prog.underlying 5=some (.int .u8):=by kernel_rfl
theorem eZ:Tryz.prog.underlying 169=some (.slice 5):=by kernel_rfl
theorem LZ:EI Tryz.prog 5 1 1 (dX (0:UInt8)):=⟨by kernel_rfl,by kernel_rfl,rfl,by decide,rfl,by decide⟩
theorem Co:jl Tryz.prog 169=false:=by kernel_rfl
theorem JV:callable Tryz.prog 84=true:=by kernel_rfl
theorem j3:FO Tryz.prog 83 1 68 1:=by unfold FO;kernel_rfl
theorem iK:dF Tryz.prog 68=some 1:=by kernel_rfl
theorem qN:jB Tryz.prog 68=some false:=by kernel_rfl
theorem jZ:FO Tryz.prog 83 2 9 2:=by unfold FO;kernel_rfl
theorem iA:dF Tryz.prog 9=some 1:=by kernel_rfl
theorem qw:jB Tryz.prog 9=some false:=by kernel_rfl
theorem vk:Tryz.prog.underlying 9=some (.string):=by kernel_rfl
theorem Fx:dF Tryz.prog 5=some 1:=by kernel_rfl
theorem ta5:jB Tryz.prog 5=some false:=by kernel_rfl
theorem aoq:callable Tryz.prog 174=true:=by kernel_rfl
theorem aoC:callable Tryz.prog 137=true:=by kernel_rfl
theorem anF:callable Tryz.prog 83=true:=by kernel_rfl
theorem aez:callable Tryz.prog 42=true:=by kernel_rfl
theorem Rc:Tryz.prog.underlying 3=some (.int .i64):=by kernel_rfl
theorem aoB:callable Tryz.prog 138=true:=by kernel_rfl
theorem bc9:jl Tryz.prog 9=false:=by kernel_rfl
theorem aoA:callable Tryz.prog 139=true:=by kernel_rfl
theorem atH:callable Tryz.prog 85=true:=by kernel_rfl
theorem anN:callable Tryz.prog 43=true:=by kernel_rfl
theorem Mf (a1:Int) (a2:List UInt8) (a4:List UInt8):iD Tryz.prog 70 [(1,.d (eI a1)),(2,.d (eS a2)),(4,.d (eS a4))]=some (.d (gU (mD.mk (0:UInt64) a1 a2 (0:UInt64) a4 (0:Int) (0:UInt64)))):=by rfl
theorem Ib:FO Tryz.prog 70 1 3 1:=by unfold FO;kernel_rfl
theorem rG:FO Tryz.prog 112 0 110 0:=by unfold FO;kernel_rfl
theorem oP:dF Tryz.prog 110=some 1:=by kernel_rfl
theorem Dq:jB Tryz.prog 110=some false:=by kernel_rfl
theorem qp:Tryz.prog.underlying 110=some (.slice 135):=by kernel_rfl
theorem pq:dF Tryz.prog 135=some 6:=by kernel_rfl
theorem CP:FO Tryz.prog 135 0 9 0:=by unfold FO;kernel_rfl
theorem Qg:FO Tryz.prog 70 2 9 2:=by unfold FO;kernel_rfl
theorem aeB (a0:List UInt8):iD Tryz.prog 135 [(0,.d (eS a0))]=some (.d (bC (aU.mk a0 false ([]:List UInt8) (0:UInt64) false ([]:List UInt8)))):=by rfl
theorem XI:dF Tryz.prog 70=some 7:=by kernel_rfl
theorem XK:jB Tryz.prog 70=some true:=by kernel_rfl
theorem Vw:zeroOf Tryz.prog 135=some (bC (aU.mk ([]:List UInt8) false ([]:List UInt8) (0:UInt64) false ([]:List UInt8))):=by kernel_rfl
theorem WU:FO Tryz.prog 135 1 4 1:=by unfold FO;kernel_rfl
theorem Qj:FO Tryz.prog 135 2 9 2:=by unfold FO;kernel_rfl
theorem yX (a0:Bool) (a1:List UInt8):iD Tryz.prog 189 [(0,.d (eB a0)),(1,.d (eS a1))]=some (.d (aZ (aQ.mk a0 a1))):=by rfl
theorem Zt:zeroOf Tryz.prog 189=some (aZ (aQ.mk false ([]:List UInt8))):=by kernel_rfl
theorem jN:dF Tryz.prog 189=some 2:=by kernel_rfl
theorem WS:FO Tryz.prog 135 4 4 4:=by unfold FO;kernel_rfl
theorem WR:FO Tryz.prog 135 5 9 5:=by unfold FO;kernel_rfl
theorem WT:FO Tryz.prog 135 3 68 3:=by unfold FO;kernel_rfl
theorem Qf:FO Tryz.prog 70 3 68 3:=by unfold FO;kernel_rfl
theorem u6:jB Tryz.prog 189=some true:=by kernel_rfl
theorem U2:FO Tryz.prog 70 4 9 4:=by unfold FO;kernel_rfl
theorem ajc:iD Tryz.prog 189 []=some (.d (aZ (aQ.mk false ([]:List UInt8)))):=by rfl
theorem Gn:FO Tryz.prog 189 0 4 0:=by unfold FO;kernel_rfl
theorem zN:FO Tryz.prog 70 5 3 5:=by unfold FO;kernel_rfl
theorem xI:FO Tryz.prog 189 1 9 1:=by unfold FO;kernel_rfl
theorem aiM:FO Tryz.prog 70 6 68 6:=by unfold FO;kernel_rfl
theorem Xc:callable Tryz.prog 102=true:=by kernel_rfl
theorem Tv (a0:List UInt8) (a1:Bool) (a3:UInt64):iD Tryz.prog 135 [(0,.d (eS a0)),(1,.d (eB a1)),(3,.d (eX a3))]=some (.d (bC (aU.mk a0 a1 ([]:List UInt8) a3 false ([]:List UInt8)))):=by rfl
theorem FD:jB Tryz.prog 135=some true:=by kernel_rfl
theorem anM:callable Tryz.prog 56=true:=by kernel_rfl
theorem anL:callable Tryz.prog 57=true:=by kernel_rfl
theorem Ou:EI Tryz.prog 135 6 72 (bC (aU.mk ([]:List UInt8) false ([]:List UInt8) (0:UInt64) false ([]:List UInt8))):=⟨by kernel_rfl,by kernel_rfl,rfl,by decide,rfl,by decide⟩
theorem acz:jl Tryz.prog 110=false:=by kernel_rfl
theorem anZ:callable Tryz.prog 23=true:=by kernel_rfl
theorem sV:FO Tryz.prog 26 3 24 3:=by unfold FO;kernel_rfl
theorem uh:dF Tryz.prog 24=some 1:=by kernel_rfl
theorem Js:jB Tryz.prog 24=some false:=by kernel_rfl
theorem Fv:Tryz.prog.underlying 24=some (.slice 65):=by kernel_rfl
theorem DZ:dF Tryz.prog 65=some 6:=by kernel_rfl
theorem aiN:FO Tryz.prog 65 4 4 4:=by unfold FO;kernel_rfl
theorem XL:jB Tryz.prog 65=some true:=by kernel_rfl
theorem ac1:zeroOf Tryz.prog 78=some (dS (dh.mk ([]:List UInt8) ([]:List UInt8))):=by kernel_rfl
theorem Cg:FO Tryz.prog 65 1 28 1:=by unfold FO;kernel_rfl
theorem vo:dF Tryz.prog 28=some 1:=by kernel_rfl
theorem KF:jB Tryz.prog 28=some false:=by kernel_rfl
theorem atG:callable Tryz.prog 86=true:=by kernel_rfl
theorem ajb (a0:List UInt8):iD Tryz.prog 78 [(0,.d (eS a0))]=some (.d (dS (dh.mk a0 ([]:List UInt8)))):=by rfl
theorem Rf:dF Tryz.prog 78=some 2:=by kernel_rfl
theorem zO:FO Tryz.prog 65 2 23 2:=by unfold FO;kernel_rfl
theorem U1:FO Tryz.prog 78 1 9 1:=by unfold FO;kernel_rfl
theorem ahi:jB Tryz.prog 78=some true:=by kernel_rfl
theorem atY:callable Tryz.prog 44=true:=by kernel_rfl
theorem aiL:FO Tryz.prog 78 0 9 0:=by unfold FO;kernel_rfl
theorem abV:FO Tryz.prog 65 5 3 5:=by unfold FO;kernel_rfl
theorem YN:jl Tryz.prog 23=false:=by kernel_rfl
theorem bc42:jl Tryz.prog 42=false:=by kernel_rfl
theorem aoz:callable Tryz.prog 14=true:=by kernel_rfl
theorem Qx (a0:Int) (a1:Int) (a2:Int) (a3:aj):iD Tryz.prog 85 [(0,.d (eI a0)),(1,.d (eI a1)),(2,.d (eI a2)),(3,.d (au a3))]=some (.d (bg (aY.mk a0 a1 a2 a3))):=by rfl
theorem M5:Tryz.prog.underlying 27=some (.slice 85):=by kernel_rfl
theorem ab2:EI Tryz.prog 85 6 56 (bg (aY.mk (0:Int) (0:Int) (0:Int) (aj.mk (0:Int) (0:UInt64) ([]:List UInt8)))):=⟨by kernel_rfl,by kernel_rfl,rfl,by decide,rfl,by decide⟩
theorem Vf (a3:Int):iD Tryz.prog 30 [(0,.slc 6 6 0 ([(aY.mk (2:Int) (1:Int) (5:Int) (aj.mk (1:Int) (5:UInt64) ([]:List UInt8)))].length) none),(1,.slc 7 1 0 ([(0:Int)].length) none),(3,.d (eI a3))]=some (.agg [.slc 6 6 0 ([(aY.mk (2:Int) (1:Int) (5:Int) (aj.mk (1:Int) (5:UInt64) ([]:List UInt8)))].length) none,.slc 7 1 0 ([(0:Int)].length) none,.d .dB,.d (eI a3)]):=by rfl
theorem ac2:zeroOf Tryz.prog 30=some (.agg [.dB,.dB,.dB,(eI (0:Int))]):=by kernel_rfl
theorem yD:dF Tryz.prog 30=some 4:=by kernel_rfl
theorem GI (a0:List Int) (a1:List dY):iD Tryz.prog 58 [(0,.d ((eL 1 eI) a0)),(1,.d ((eL 1 (eP kG)) a1))]=some (.d (aI (ay.mk a0 a1 (0:Int) (0:Int)))):=by rfl
theorem aef:UE Tryz.prog 56=true:=by kernel_rfl
theorem KE:jB Tryz.prog 30=some true:=by kernel_rfl
theorem acv (a2:Bool):iD Tryz.prog 49 [(2,.d (eB a2))]=some (.d (iQ (dG.mk ([]:List UInt8) ([]:List UInt8) a2))):=by rfl
theorem Tt (a0:Int) (a1:dG):iD Tryz.prog 52 [(0,.d (eI a0)),(1,.d (iQ a1))]=some (.d (mX (bQ.mk a0 a1 (0:Int) false false (0:Int)))):=by rfl
theorem Ug:dF Tryz.prog 52=some 8:=by kernel_rfl
theorem adO:jB Tryz.prog 52=some true:=by kernel_rfl
theorem U5:FO Tryz.prog 30 2 28 2:=by unfold FO;kernel_rfl
theorem aeC (a0:List aX):iD Tryz.prog 126 [(0,.d ((eL 2 aK) a0))]=some (.d (.agg [((eL 2 aK) a0),.dB])):=by rfl
theorem aiQ:FO Tryz.prog 52 0 3 0:=by unfold FO;kernel_rfl
theorem Qm:FO Tryz.prog 128 1 26 1:=by unfold FO;kernel_rfl
theorem Ql:FO Tryz.prog 128 4 53 18:=by unfold FO;kernel_rfl
theorem Uf:dF Tryz.prog 53=some 1:=by kernel_rfl
theorem akr:jB Tryz.prog 53=some false:=by kernel_rfl
theorem WV:FO Tryz.prog 128 3 52 10:=by unfold FO;kernel_rfl
theorem abX:FO Tryz.prog 52 1 49 1:=by unfold FO;kernel_rfl
theorem XJ:dF Tryz.prog 49=some 3:=by kernel_rfl
theorem adP:jB Tryz.prog 49=some true:=by kernel_rfl
theorem aco (a0:Int) (a1:dG):iD Tryz.prog 96 [(0,.d (eI a0)),(1,.d (iQ a1))]=some (.d (cZ (bO.mk a0 a1 false))):=by rfl
theorem aaf:Tryz.prog.underlying 53=some (.slice 96):=by kernel_rfl
theorem ant:EI Tryz.prog 96 5 56 (cZ (bO.mk (0:Int) (dG.mk ([]:List UInt8) ([]:List UInt8) false) false)):=⟨by kernel_rfl,by kernel_rfl,rfl,by decide,rfl,by decide⟩
theorem aup:jl Tryz.prog 53=false:=by kernel_rfl
theorem aeo:FO Tryz.prog 128 0 122 0:=by unfold FO;kernel_rfl
theorem afr:dF Tryz.prog 122=some 1:=by kernel_rfl
theorem akt:jB Tryz.prog 122=some false:=by kernel_rfl
theorem UG:yM Tryz.prog 56 "Pairs" = some (263,true):=by kernel_rfl
theorem asL:Ol Tryz.prog 56=true:=by kernel_rfl
theorem U4:FO Tryz.prog 58 2 3 2:=by unfold FO;kernel_rfl
theorem aiO:FO Tryz.prog 58 3 3 3:=by unfold FO;kernel_rfl
theorem anX:callable Tryz.prog 264=true:=by kernel_rfl
theorem abW:FO Tryz.prog 58 0 23 0:=by unfold FO;kernel_rfl
theorem aiP:FO Tryz.prog 58 1 42 1:=by unfold FO;kernel_rfl
theorem ako:dF Tryz.prog 42=some 1:=by kernel_rfl
theorem asc:jB Tryz.prog 42=some false:=by kernel_rfl
theorem aiT:FO Tryz.prog 49 0 9 0:=by unfold FO;kernel_rfl
theorem aiR:FO Tryz.prog 49 2 4 2:=by unfold FO;kernel_rfl
theorem aiS:FO Tryz.prog 49 1 9 1:=by unfold FO;kernel_rfl
theorem at6:callable Tryz.prog 26=true:=by kernel_rfl
theorem anW:callable Tryz.prog 266=true:=by kernel_rfl
theorem acu (a0:List UInt8) (a1:List UInt8):iD Tryz.prog 78 [(0,.d (eS a0)),(1,.d (eS a1))]=some (.d (dS (dh.mk a0 a1))):=by rfl
theorem V4:Tryz.prog.underlying 179=some (.slice 78):=by kernel_rfl
theorem anu:EI Tryz.prog 78 2 32 (dS (dh.mk ([]:List UInt8) ([]:List UInt8))):=⟨by kernel_rfl,by kernel_rfl,rfl,by decide,rfl,by decide⟩
theorem aoN:jl Tryz.prog 179=false:=by kernel_rfl
theorem anY:callable Tryz.prog 263=true:=by kernel_rfl
theorem atF:callable Tryz.prog 94=true:=by kernel_rfl
theorem l6:FO Tryz.prog 26 1 22 1:=by unfold FO;kernel_rfl
theorem mE:dF Tryz.prog 22=some 1:=by kernel_rfl
theorem AA:jB Tryz.prog 22=some false:=by kernel_rfl
theorem qH:dF Tryz.prog 94=some 7:=by kernel_rfl
theorem Hl:jB Tryz.prog 94=some true:=by kernel_rfl
theorem Qd:FO Tryz.prog 94 0 9 0:=by unfold FO;kernel_rfl
theorem an1:callable Tryz.prog 216=true:=by kernel_rfl
theorem oZ:FO Tryz.prog 94 1 3 1:=by unfold FO;kernel_rfl
theorem Xb:callable Tryz.prog 217=true:=by kernel_rfl
theorem sU:FO Tryz.prog 94 2 3 2:=by unfold FO;kernel_rfl
theorem UY:FO Tryz.prog 94 4 83 4:=by unfold FO;kernel_rfl
theorem acs:iD Tryz.prog 83 []=some (.d (au (aj.mk (0:Int) (0:UInt64) ([]:List UInt8)))):=by rfl
theorem aqw:Tryz.prog.underlying 83=some (.struct (Tryz.prog.fieldsOf 83)):=by kernel_rfl
theorem atw:(Tryz.prog.fieldsOf 83).toList.map abS=[(false,3,0),(false,68,1),(false,9,2)]:=by kernel_rfl
theorem ash:Tryz.prog.stoodInHeld 83=false:=by kernel_rfl
theorem anw:Tryz.prog.eqGuardType Tryz.prog.depth 83=false:=by kernel_rfl
theorem tC (x y:aj) (d:Nat):pr Tryz.prog (Op.equalIn (d+2) 83 (.agg #[.int .i64 x.Kind,.int .u64 (x.N.toNat:Int),.string ⟨x.S.toArray⟩]) (.agg #[.int .i64 y.Kind,.int .u64 (y.N.toNat:Int),.string ⟨y.S.toArray⟩]))=some (gq x y):=Ot (d:=d+1) aqw atw ash (.cons (Ag gV rfl) (Ag gV rfl) (Qp (d:=d+0) Rc _ _) (.cons (Ag qN rfl) (Ag qN rfl) (aiX (d:=d+0) Bh _ _) (.cons (Ag qw rfl) (Ag qw rfl) (aiY (d:=d+0) vk _ _) .nil)))
theorem xK (X Y:Operand) (x y:aj):cO Tryz.prog .eql 83 X Y (.d (au x)) (.d (au y))=some (.d (eB (gq x y))):=GK (L:=2) rfl rfl anw (by decide) (tC x y)
theorem Gx (X Y:Operand) (x y:aj):cO Tryz.prog .neq 83 X Y (.d (au x)) (.d (au y))=some (.d (eB (!gq x y))):=Qz (L:=2) rfl rfl anw (by decide) (tC x y)
theorem aos:callable Tryz.prog 156=true:=by kernel_rfl
theorem ach:callable Tryz.prog 109=true:=by kernel_rfl
theorem UZ:FO Tryz.prog 94 3 4 3:=by unfold FO;kernel_rfl
theorem acg:callable Tryz.prog 202=true:=by kernel_rfl
theorem aoe:callable Tryz.prog 196=true:=by kernel_rfl
theorem aof:callable Tryz.prog 195=true:=by kernel_rfl
theorem an2:callable Tryz.prog 215=true:=by kernel_rfl
theorem aog:callable Tryz.prog 194=true:=by kernel_rfl
theorem agK:callable Tryz.prog 175=true:=by kernel_rfl
theorem apS:zeroOf Tryz.prog 71=some .dB:=by kernel_rfl
theorem aod:callable Tryz.prog 197=true:=by kernel_rfl
theorem Dn:Tryz.prog.underlying 279=some (.pointer 297):=by kernel_rfl
theorem xH:FO Tryz.prog 297 1 4 1:=by unfold FO;kernel_rfl
theorem l5:FO Tryz.prog 297 0 169 0:=by unfold FO;kernel_rfl
theorem acf:callable Tryz.prog 223=true:=by kernel_rfl
theorem Xa:callable Tryz.prog 218=true:=by kernel_rfl
theorem agJ:callable Tryz.prog 198=true:=by kernel_rfl
theorem ajs:zeroOf Tryz.prog 94=some (aJ (aA.mk ([]:List UInt8) (0:Int) (0:Int) false (aj.mk (0:Int) (0:UInt64) ([]:List UInt8)))):=by kernel_rfl
theorem agI:callable Tryz.prog 199=true:=by kernel_rfl
theorem an9:callable Tryz.prog 205=true:=by kernel_rfl
theorem an8:callable Tryz.prog 206=true:=by kernel_rfl
theorem agE:callable Tryz.prog 224=true:=by kernel_rfl
theorem an0:callable Tryz.prog 219=true:=by kernel_rfl
theorem aoc:callable Tryz.prog 200=true:=by kernel_rfl
theorem agH:callable Tryz.prog 201=true:=by kernel_rfl
theorem aon:callable Tryz.prog 177=true:=by kernel_rfl
theorem aob:callable Tryz.prog 203=true:=by kernel_rfl
theorem aoo:callable Tryz.prog 176=true:=by kernel_rfl
theorem aoy:callable Tryz.prog 142=true:=by kernel_rfl
theorem aow:callable Tryz.prog 146=true:=by kernel_rfl
theorem aoa:callable Tryz.prog 204=true:=by kernel_rfl
theorem ahh:jB Tryz.prog 91=some true:=by kernel_rfl
theorem agS:zeroOf Tryz.prog 91=some (aK (aX.mk (0:Int) false)):=by kernel_rfl
theorem aoj:callable Tryz.prog 185=true:=by kernel_rfl
theorem an7:callable Tryz.prog 208=true:=by kernel_rfl
theorem aok:callable Tryz.prog 184=true:=by kernel_rfl
theorem ajv:zeroOf Tryz.prog 287=some (.agg [.dB]):=by kernel_rfl
theorem aah:Tryz.prog.underlying 298=some (.pointer 287):=by kernel_rfl
theorem Gm:FO Tryz.prog 287 0 169 0:=by unfold FO;kernel_rfl
theorem W9:callable Tryz.prog 220=true:=by kernel_rfl
theorem an6:callable Tryz.prog 209=true:=by kernel_rfl
theorem VZ:Tryz.prog.underlying 247=some (.int .u32):=by kernel_rfl
theorem VY:Tryz.prog.underlying 304=some (.int .u16):=by kernel_rfl
theorem agD:callable Tryz.prog 225=true:=by kernel_rfl
theorem agF:callable Tryz.prog 221=true:=by kernel_rfl
theorem agG:callable Tryz.prog 210=true:=by kernel_rfl
theorem an5:callable Tryz.prog 211=true:=by kernel_rfl
theorem an4:callable Tryz.prog 212=true:=by kernel_rfl
theorem an3:callable Tryz.prog 213=true:=by kernel_rfl
theorem aol:callable Tryz.prog 181=true:=by kernel_rfl
theorem aoi:callable Tryz.prog 186=true:=by kernel_rfl
theorem aov:callable Tryz.prog 151=true:=by kernel_rfl
theorem aom:callable Tryz.prog 178=true:=by kernel_rfl
theorem aox:callable Tryz.prog 143=true:=by kernel_rfl
theorem YL (a0:List aj) (a1:List UInt8):iD Tryz.prog 185 [(0,.d ((eL 3 au) a0)),(1,.d (eS a1))]=some (.d (bA (aG.mk a0 a1))):=by rfl
theorem Gp:FO Tryz.prog 128 2 30 6:=by unfold FO;kernel_rfl
theorem Qi:FO Tryz.prog 30 0 27 0:=by unfold FO;kernel_rfl
theorem Rh:dF Tryz.prog 27=some 1:=by kernel_rfl
theorem ahj:jB Tryz.prog 27=some false:=by kernel_rfl
theorem Ke:FO Tryz.prog 185 0 71 0:=by unfold FO;kernel_rfl
theorem aeW:zeroOf Tryz.prog 155=some (.agg [.wO,.wO,.wO,.wO,.wO,.wO,.wO]):=by kernel_rfl
theorem GJ:iD Tryz.prog 155 [(1,.fn (.func 126) [] []),(2,.fn (.func 127) [] []),(3,.fn (.func 128) [] []),(4,.fn (.func 129) [] []),(5,.fn (.func 130) [] []),(6,.fn (.func 131) [] [])]=some (.agg [.d .wO,.fn (.func 126) [] [],.fn (.func 127) [] [],.fn (.func 128) [] [],.fn (.func 129) [] [],.fn (.func 130) [] [],.fn (.func 131) [] []]):=by rfl
theorem aal:dF Tryz.prog 155=some 7:=by kernel_rfl
theorem aks:jB Tryz.prog 155=some true:=by kernel_rfl
theorem atO:callable Tryz.prog 73=true:=by kernel_rfl
theorem Bj:dF Tryz.prog 85=some 6:=by kernel_rfl
theorem Ho:jB Tryz.prog 85=some true:=by kernel_rfl
theorem ajt:zeroOf Tryz.prog 85=some (bg (aY.mk (0:Int) (0:Int) (0:Int) (aj.mk (0:Int) (0:UInt64) ([]:List UInt8)))):=by kernel_rfl
theorem LU:FO Tryz.prog 85 0 3 0:=by unfold FO;kernel_rfl
theorem anH:callable Tryz.prog 74=true:=by kernel_rfl
theorem NP:Tryz.prog.underlying 155=some (.array 7 154):=by kernel_rfl
theorem z8:dF Tryz.prog 154=some 1:=by kernel_rfl
theorem NR:jB Tryz.prog 154=some false:=by kernel_rfl
theorem EC:FO Tryz.prog 85 1 3 1:=by unfold FO;kernel_rfl
theorem aoH:callable Tryz.prog 128=true:=by kernel_rfl
theorem LQ:FO Tryz.prog 85 3 83 3:=by unfold FO;kernel_rfl
theorem agN:callable Tryz.prog 132=true:=by kernel_rfl
theorem atN:callable Tryz.prog 75=true:=by kernel_rfl
theorem un2:Tryz.prog.underlying 2=some (.int .i64):=by kernel_rfl
theorem agM:callable Tryz.prog 133=true:=by kernel_rfl
theorem atM:callable Tryz.prog 76=true:=by kernel_rfl
theorem agL:callable Tryz.prog 134=true:=by kernel_rfl
theorem atK:callable Tryz.prog 78=true:=by kernel_rfl
theorem atJ:callable Tryz.prog 79=true:=by kernel_rfl
theorem atL:callable Tryz.prog 77=true:=by kernel_rfl
theorem anS:callable Tryz.prog 30=true:=by kernel_rfl
theorem Qe:FO Tryz.prog 85 2 3 2:=by unfold FO;kernel_rfl
theorem aor:callable Tryz.prog 172=true:=by kernel_rfl
theorem aoI:callable Tryz.prog 127=true:=by kernel_rfl
theorem aoJ:callable Tryz.prog 126=true:=by kernel_rfl
theorem aoE:callable Tryz.prog 131=true:=by kernel_rfl
theorem aoF:callable Tryz.prog 130=true:=by kernel_rfl
theorem aoG:callable Tryz.prog 129=true:=by kernel_rfl
theorem at5:callable Tryz.prog 29=true:=by kernel_rfl
theorem Qk:FO Tryz.prog 128 5 126 19:=by unfold FO;kernel_rfl
theorem Aa:dF Tryz.prog 126=some 2:=by kernel_rfl
theorem afC:UE Tryz.prog 187=true:=by kernel_rfl
theorem o9:dF Tryz.prog 185=some 2:=by kernel_rfl
theorem KG:jB Tryz.prog 185=some true:=by kernel_rfl
theorem Wx:UE Tryz.prog 185=true:=by kernel_rfl
theorem UH:yM Tryz.prog 187 "Push" = some (270,true):=by kernel_rfl
theorem Dp:Tryz.prog.underlying 187=some (.pointer 126):=by kernel_rfl
theorem l8:FO Tryz.prog 126 1 124 1:=by unfold FO;kernel_rfl
theorem jY:dF Tryz.prog 124=some 1:=by kernel_rfl
theorem yE:jB Tryz.prog 124=some false:=by kernel_rfl
theorem xu:Tryz.prog.underlying 124=some (.slice 185):=by kernel_rfl
theorem agB:EI Tryz.prog 185 2 40 (.agg [.dB,(eS ([]:List UInt8))]):=⟨by kernel_rfl,by kernel_rfl,rfl,by decide,rfl,by decide⟩
theorem aoO:jl Tryz.prog 124=false:=by kernel_rfl
theorem anT:callable Tryz.prog 270=true:=by kernel_rfl
theorem Oh:yM Tryz.prog 187 "Len" = some (100,false):=by kernel_rfl
theorem FE:jB Tryz.prog 126=some true:=by kernel_rfl
theorem aci:callable Tryz.prog 100=true:=by kernel_rfl
theorem Es:yM Tryz.prog 187 "Less" = some (267,false):=by kernel_rfl
theorem Vv:zeroOf Tryz.prog 185=some (.agg [.dB,(eS ([]:List UInt8))]):=by kernel_rfl
theorem aep:FO Tryz.prog 126 0 28 0:=by unfold FO;kernel_rfl
theorem un4:Tryz.prog.underlying 4=some (.bool):=by kernel_rfl
theorem WQ:FO Tryz.prog 185 1 9 1:=by unfold FO;kernel_rfl
theorem ace:callable Tryz.prog 267=true:=by kernel_rfl
theorem Er:yM Tryz.prog 187 "Swap" = some (268,false):=by kernel_rfl
theorem acd:callable Tryz.prog 268=true:=by kernel_rfl
theorem aoh:callable Tryz.prog 187=true:=by kernel_rfl
theorem aou:callable Tryz.prog 152=true:=by kernel_rfl
theorem atD:callable Tryz.prog 98=true:=by kernel_rfl
theorem atE:callable Tryz.prog 95=true:=by kernel_rfl
theorem atX:callable Tryz.prog 50=true:=by kernel_rfl
theorem LV:FO Tryz.prog 30 3 3 3:=by unfold FO;kernel_rfl
theorem aot:callable Tryz.prog 154=true:=by kernel_rfl
theorem Yr:yM Tryz.prog 187 "Pop" = some (269,true):=by kernel_rfl
theorem anV:callable Tryz.prog 269=true:=by kernel_rfl
theorem aoL:callable Tryz.prog 101=true:=by kernel_rfl
theorem Qh:FO Tryz.prog 30 1 23 1:=by unfold FO;kernel_rfl
theorem bc31:jl Tryz.prog 31=false:=by kernel_rfl
theorem atW:callable Tryz.prog 52=true:=by kernel_rfl
theorem aeA:callable Tryz.prog 18=true:=by kernel_rfl
theorem akn:dF Tryz.prog 96=some 5:=by kernel_rfl
theorem aiK:FO Tryz.prog 96 0 3 0:=by unfold FO;kernel_rfl
theorem aiJ:FO Tryz.prog 96 2 4 4:=by unfold FO;kernel_rfl
theorem cb8:callable Tryz.prog 8=true:=by kernel_rfl
theorem aiU:FO Tryz.prog 26 0 9 0:=by unfold FO;kernel_rfl
theorem aja:callable Tryz.prog 31=true:=by kernel_rfl
theorem aoD:callable Tryz.prog 136=true:=by kernel_rfl
theorem atI:callable Tryz.prog 82=true:=by kernel_rfl
theorem anK:callable Tryz.prog 61=true:=by kernel_rfl
theorem anR:callable Tryz.prog 32=true:=by kernel_rfl
theorem ai8:callable Tryz.prog 39=true:=by kernel_rfl
theorem ai9:callable Tryz.prog 33=true:=by kernel_rfl
theorem anG:callable Tryz.prog 80=true:=by kernel_rfl
theorem at1:callable Tryz.prog 34=true:=by kernel_rfl
theorem anQ:callable Tryz.prog 35=true:=by kernel_rfl
theorem aju:zeroOf Tryz.prog 65=some (.agg [(eS ([]:List UInt8)),.dB,.dB,(eB false),(eB false),(eI (0:Int))]):=by kernel_rfl
theorem U3:FO Tryz.prog 65 0 9 0:=by unfold FO;kernel_rfl
theorem anO:callable Tryz.prog 40=true:=by kernel_rfl
theorem at0:callable Tryz.prog 37=true:=by kernel_rfl
theorem cb9:callable Tryz.prog 9=true:=by kernel_rfl
theorem acr (a0:Int):iD Tryz.prog 85 [(0,.d (eI a0))]=some (.d (bg (aY.mk a0 (0:Int) (0:Int) (aj.mk (0:Int) (0:UInt64) ([]:List UInt8))))):=by rfl
theorem aqv:Tryz.prog.underlying 85=some (.struct (Tryz.prog.fieldsOf 85)):=by kernel_rfl
theorem atv:(Tryz.prog.fieldsOf 85).toList.map abS=[(false,3,0),(false,3,1),(false,3,2),(false,83,3)]:=by kernel_rfl
theorem asf:Tryz.prog.stoodInHeld 85=false:=by kernel_rfl
theorem atz:Tryz.prog.eqGuardType Tryz.prog.depth 85=false:=by kernel_rfl
theorem Ii (x y:aY) (d:Nat):pr Tryz.prog (Op.equalIn (d+3) 85 (.agg #[.int .i64 x.Kind,.int .i64 x.Col,.int .i64 x.Op,.int .i64 x.Val.Kind,.int .u64 (x.Val.N.toNat:Int),.string ⟨x.Val.S.toArray⟩]) (.agg #[.int .i64 y.Kind,.int .i64 y.Col,.int .i64 y.Op,.int .i64 y.Val.Kind,.int .u64 (y.Val.N.toNat:Int),.string ⟨y.Val.S.toArray⟩]))=some (qh x y):=Ot (d:=d+2) aqv atv asf (.cons (Ag gV rfl) (Ag gV rfl) (Qp (d:=d+1) Rc _ _) (.cons (Ag gV rfl) (Ag gV rfl) (Qp (d:=d+1) Rc _ _) (.cons (Ag gV rfl) (Ag gV rfl) (Qp (d:=d+1) Rc _ _) (.cons (afB ny gK rfl) (afB ny gK rfl) (tC x.Val y.Val (d+0)) .nil))))
theorem Gw (X Y:Operand) (x y:aY):cO Tryz.prog .eql 85 X Y (.d (bg x)) (.d (bg y))=some (.d (eB (qh x y))):=GK (L:=3) rfl rfl atz (by decide) (Ii x y)
theorem aoK:callable Tryz.prog 108=true:=by kernel_rfl
theorem atT:callable Tryz.prog 62=true:=by kernel_rfl
theorem atS:callable Tryz.prog 64=true:=by kernel_rfl
theorem anJ:callable Tryz.prog 63=true:=by kernel_rfl
theorem agO:callable Tryz.prog 110=true:=by kernel_rfl
theorem anI:callable Tryz.prog 65=true:=by kernel_rfl
theorem atQ:callable Tryz.prog 66=true:=by kernel_rfl
theorem atP:callable Tryz.prog 67=true:=by kernel_rfl
theorem anU:callable Tryz.prog 27=true:=by kernel_rfl
theorem auq:jl Tryz.prog 22=false:=by kernel_rfl
theorem anv:EI Tryz.prog 65 6 80 (.agg [(eS ([]:List UInt8)),.dB,.dB,(eB false),(eB false),(eI (0:Int))]):=⟨by kernel_rfl,by kernel_rfl,rfl,by decide,rfl,by decide⟩
theorem bc24:jl Tryz.prog 24=false:=by kernel_rfl
theorem aua:callable Tryz.prog 17=true:=by kernel_rfl
theorem auc:callable Tryz.prog 12=true:=by kernel_rfl
theorem atU:callable Tryz.prog 58=true:=by kernel_rfl
theorem atZ:callable Tryz.prog 41=true:=by kernel_rfl
theorem aub:callable Tryz.prog 13=true:=by kernel_rfl
theorem apT:zeroOf Tryz.prog 52=some (mX (bQ.mk (0:Int) (dG.mk ([]:List UInt8) ([]:List UInt8) false) (0:Int) false false (0:Int))):=by kernel_rfl
theorem atV:callable Tryz.prog 53=true:=by kernel_rfl
theorem at7:callable Tryz.prog 19=true:=by kernel_rfl
theorem bc27:jl Tryz.prog 27=false:=by kernel_rfl
end Lv
/- Arguments of plain data, read off memory. -/
namespace Lv
open Go
section
variable [bJ]
theorem aen (w:World) (hb:∀a v,bJ.tab a=some v→w.cell? a=some v):Good (fun a=>w.cell? a) (fun _=>none) w (hp []) where
 qJ a v h:=h
 ob id:=by simp [hp,OR]
 apart id id' L L' h:=by simp [hp,Ob.wr] at h
 gu b h:=by
  obtain ⟨id,L,h1,_⟩:=h
  simp [hp,Ob.wr] at h1
 base a v h:=hb a v h
theorem JW {P:Program} {f:FuncId} {args:List AV} {y:D} {v:Value} {fG:Array Value} (h:aT P f args [] (.d y) []) (hy:y.val=some v) (w:World) (hb:∀a v,bJ.tab a=some v→w.cell? a=some v) (ha:oo (fun a=>w.cell? a) (fun _=>none) args fG):
  Calls P f fG w (fun e w'=>e=.returned v∧RowKit.Below w.heap.size w w'):=by
 refine (h _ _ w fG (aen w hb) (fun id L h=>by cases h) ha).mono ?_
 rintro e w' ⟨u,ro',μ',rfl,k1,k2,k3,k4,k5⟩
 refine ⟨by rw [gP k1 hy],⟨k3.os,k3.tape,k3.output,k3.size,fun b hb=>k3.frame b hb ?_⟩⟩
 rintro ⟨id,L,h1,_⟩
 simp [hp,Ob.wr] at h1
theorem aT.of_below {P:Program} {f:FuncId} {args:List AV} {vs:List Value} {y:D} {v:Value} (ha:qM args=some vs) (hy:nJ v=some y) (h:∀w:World,(∀a u,bJ.tab a=some u→w.cell? a=some u)→Calls P f vs.toArray w (fun e w'=>e=.returned v∧RowKit.Below w.heap.size w w')):aT P f args [] (.d y) []:=by
 intro ro μ w fG g hdom hV
 have hargs:∀(args:List AV) (vs:List Value) (fG:Array Value),qM args=some vs→oo ro μ args fG→fG=vs.toArray:=by
  intro args
  induction args with
  | nil=>
   intro vs fG h k
   simp only [qM,Option.some.injEq] at h
   subst h
   exact Array.eq_empty_of_size_eq_zero (by simpa using k.size)
  | cons x l ih=>
   intro vs fG h k
   simp only [qM] at h
   split at h
   ·rename_i u us h1 h2
    simp only [Option.some.injEq] at h
    subst h
    obtain ⟨cs⟩:=fG
    match cs,k.size with
    | c::cs,hs=>
     have hc:=gP (k.get 0 x c rfl rfl) h1
     have:=ih us ⟨cs⟩ h2 ⟨by simpa using hs,fun i y z hy hz=>k.get (i+1) y z (by simpa using hy) (by simpa using hz)⟩
     have h5:cs=us:=congrArg Array.toList this
     rw [hc,h5]
   ·cases h
 obtain rfl:=hargs args vs fG ha hV
 have adV:∀a v,ro a=some v→a.block < w.heap.size:=by
  intro a v h
  have:=g.qJ a v h
  rcases Nat.lt_or_ge a.block w.heap.size with k | k
  ·exact k
  ·simp [World.cell?,Array.getElem?_eq_none k] at this
 refine (h w (fun a u hu=>g.qJ a u (g.base a u hu))).mono ?_
 rintro e w' ⟨rfl,hb⟩
 refine ⟨v,ro,μ,rfl,TH hy,⟨fun a v h=>?_,fun id=>by simp [hp,OR],fun id id' L L' h=>by simp [hp,Ob.wr] at h,fun b hb'=>?_,g.base⟩,⟨fun _ _ h=>h,fun _ _ h=>.inl h,fun _ h=>.inr h,fun _ h=>.inr h,fun b hb' _=>hb.block b hb',hb.size,hb.os,hb.tape,hb.output⟩,hdom,fun _ _=>rfl⟩
 ·rw [mY (hb.block _ (adV a v h))];exact g.qJ a v h
 ·obtain ⟨id,L,h1,_⟩:=hb'
  simp [hp,Ob.wr] at h1
end
structure TQ {H:Type} (β:DataW H→Nat):Prop where
 one:∀d,1≤β d
 str:∀bs:List UInt8,β (.lit (.string bs))=bs.length+1
 agg:∀ps:List (DataW H),(ps.map β).sum+1≤β (.agg ps)
 slice:∀es r:List (DataW H),(es.map β).sum+1≤β (.slice es r)
def nL (w:World) (cs:List Value) (off:Nat) (ds:List D):Prop:=∀(j:Nat) (c:D),ds[j]?=some c→∃v,cs[off+j]?=some v∧DR (fun q=>w.cell? q) c v
theorem nL.append {w:World} {cs:List Value} {off:Nat} {ds es:List D} (h:nL w cs off ds) (k:nL w cs (off+ds.length) es):nL w cs off (ds++es):=by
 intro j c hc
 rw [List.getElem?_append] at hc
 split at hc
 ·exact h j c hc
 ·obtain ⟨v,h1,h2⟩:=k _ c hc
  exact ⟨v,by rw [← h1];congr 1;omega,h2⟩
theorem nL.part {w:World} {cs:List Value} {off sz:Nat} {ds:List D} (h:nL w ((cs.drop off).take sz) 0 ds):nL w cs off ds:=by
 intro j c hc
 obtain ⟨v,h1,h2⟩:=h j c hc
 rw [Nat.zero_add,List.getElem?_take] at h1
 split at h1
 ·rw [List.getElem?_drop] at h1;exact ⟨v,h1,h2⟩
 ·cases h1
section
variable {H:Type} {β:DataW H→Nat} {enc:TypeId×Value→H} {P:Program} {w:World} {t:TypeId} (B:TQ β)
include B
omit B in
theorem Fe {ro:Ro} {μ:Mu} {x:AV} {xs:List AV} {v:Value} {vs:List Value} (h:VR ro μ x v) (k:oo ro μ xs vs.toArray):oo ro μ (x::xs) (v::vs).toArray:=by
 refine ⟨by have:=k.size;simp at this ⊢;omega,fun i y u hy hu=>?_⟩
 cases i with
 | zero=>simp at hy hu;subst hy;subst hu;exact h
 | succ i=>exact k.get i y u (by simpa using hy) (by simpa using hu)
end
theorem adz {ro:Ro} {μ:Mu}:oo ro μ [] #[]:=⟨rfl,fun i x v h=>by simp at h⟩
end Lv
namespace Go.Proofs
open Go.Shelf
def Tryz.lays106_ren:Go.Shelf.Ren:=⟨fun | 106=>79 | 213=>135 | 265=>173 | n=>n,fun | 9=>9 | 3=>3 | n=>n,fun | n=>n⟩
theorem Tryz.lays106:Go.Proofs.Lays.n106 Tryz.prog Tryz.lays106_ren:={
 mixed:=by kernel_rfl
 f106:=Tryz.func79.trans (congrArg some (by kernel_rfl))
 f213:=Tryz.func135.trans (congrArg some (by kernel_rfl))
 f265:=Tryz.func173.trans (congrArg some (by kernel_rfl))
 t3:=Tryz.underlying3
 a3:=Tryz.isAgg3
 z3:=Tryz.sizeOf3
 v3:=Tryz.zeroValue3
 t9:=Tryz.underlying9
 a9:=Tryz.isAgg9
 z9:=Tryz.sizeOf9
 v9:=Tryz.zeroValue9 }
open Go.RowKit in
theorem Tryz.strings_Compare (a b:ByteArray) (w:World):
  Calls Tryz.prog 79 #[.string a,.string b] w fun e w'=>e=.returned (.int .i64 (Lib.compareBytes a.data.toList b.data.toList))∧w'=w:=Any.strings_Compare Tryz.lays106 a b w
def Tryz.lays189_ren:Go.Shelf.Ren:=⟨fun | 189=>66 | 125=>112 | 257=>111 | 128=>166 | 129=>167 | 294=>157 | 295=>158 | 296=>159 | 297=>160 | 298=>161 | 299=>162 | 216=>163 | 300=>164 | 301=>165 | 328=>189 | 329=>190 | 330=>191 | 331=>192 | 332=>193 | 215=>132 | 343=>214 | n=>n,fun | 28=>23 | 3=>3 | 46=>201 | 0=>0 | 51=>247 | 53=>68 | 4=>4 | 183=>240 | 182=>239 | 131=>244 | 5=>5 | 9=>9 | 218=>271 | 222=>275 | 228=>292 | 229=>293 | n=>n,fun | n=>n⟩
theorem Tryz.lays189:Go.Proofs.Lays.n189 Tryz.prog Tryz.lays189_ren:={
 mixed:=by kernel_rfl
 f125:=Tryz.func112.trans (congrArg some (by kernel_rfl))
 f128:=Tryz.func166.trans (congrArg some (by kernel_rfl))
 f129:=Tryz.func167.trans (congrArg some (by kernel_rfl))
 f189:=Tryz.func66.trans (congrArg some (by kernel_rfl))
 f215:=Tryz.func132.trans (congrArg some (by kernel_rfl))
 f216:=Tryz.func163.trans (congrArg some (by kernel_rfl))
 f257:=Tryz.func111.trans (congrArg some (by kernel_rfl))
 f294:=Tryz.func157.trans (congrArg some (by kernel_rfl))
 f295:=Tryz.func158.trans (congrArg some (by kernel_rfl))
 f296:=Tryz.func159.trans (congrArg some (by kernel_rfl))
 f297:=Tryz.func160.trans (congrArg some (by kernel_rfl))
 f298:=Tryz.func161.trans (congrArg some (by kernel_rfl))
 f299:=Tryz.func162.trans (congrArg some (by kernel_rfl))
 f300:=Tryz.func164.trans (congrArg some (by kernel_rfl))
 f301:=Tryz.func165.trans (congrArg some (by kernel_rfl))
 f328:=Tryz.func189.trans (congrArg some (by kernel_rfl))
 f329:=Tryz.func190.trans (congrArg some (by kernel_rfl))
 f330:=Tryz.func191.trans (congrArg some (by kernel_rfl))
 f331:=Tryz.func192.trans (congrArg some (by kernel_rfl))
 f332:=Tryz.func193.trans (congrArg some (by kernel_rfl))
 f343:=Tryz.func214.trans (congrArg some (by kernel_rfl))
 t0:=Tryz.underlying0
 a0:=Tryz.isAgg0
 z0:=Tryz.sizeOf0
 v0:=Tryz.zeroValue0
 t3:=Tryz.underlying3
 a3:=Tryz.isAgg3
 z3:=Tryz.sizeOf3
 v3:=Tryz.zeroValue3
 t4:=Tryz.underlying4
 a4:=Tryz.isAgg4
 z4:=Tryz.sizeOf4
 v4:=Tryz.zeroValue4
 t5:=Tryz.underlying5
 a5:=Tryz.isAgg5
 z5:=Tryz.sizeOf5
 v5:=Tryz.zeroValue5
 t9:=Tryz.underlying9
 a9:=Tryz.isAgg9
 z9:=Tryz.sizeOf9
 v9:=Tryz.zeroValue9
 t28:=Tryz.underlying23
 a28:=Tryz.isAgg23
 z28:=Tryz.sizeOf23
 v28:=Tryz.zeroValue23
 t46:=Tryz.underlying201
 a46:=Tryz.isAgg201
 z46:=Tryz.sizeOf201
 v46:=Tryz.zeroValue201
 t51:=Tryz.underlying247
 a51:=Tryz.isAgg247
 z51:=Tryz.sizeOf247
 v51:=Tryz.zeroValue247
 t53:=Tryz.underlying68
 a53:=Tryz.isAgg68
 z53:=Tryz.sizeOf68
 v53:=Tryz.zeroValue68
 t131:=Tryz.underlying244
 a131:=Tryz.isAgg244
 z131:=Tryz.sizeOf244
 v131:=Tryz.zeroValue244
 t182:=Tryz.underlying239
 a182:=Tryz.isAgg239
 z182:=Tryz.sizeOf239
 v182:=Tryz.zeroValue239
 t183:=Tryz.underlying240
 a183:=Tryz.isAgg240
 z183:=Tryz.sizeOf240
 v183:=Tryz.zeroValue240
 t218:=Tryz.underlying271
 a218:=Tryz.isAgg271
 z218:=Tryz.sizeOf271
 v218:=Tryz.zeroValue271
 t222:=Tryz.underlying275
 a222:=Tryz.isAgg275
 z222:=Tryz.sizeOf275
 v222:=Tryz.zeroValue275
 t228:=Tryz.underlying292
 a228:=Tryz.isAgg292
 z228:=Tryz.sizeOf292
 v228:=Tryz.zeroValue292
 t229:=Tryz.underlying293
 a229:=Tryz.isAgg293
 z229:=Tryz.sizeOf293
 v229:=Tryz.zeroValue293 }
open Go.Sort Go.RowKit in
theorem Tryz.slices_Sort_int (blk off cap:Nat) (zs:List Int) (w:World) (hH:Holds (Value.int .i64) w blk off zs.toArray) (hblk:blk < w.heap.size) (hsz:zs.length < 4611686018427387904):
  Calls Tryz.prog 66 #[.slice (some ⟨blk,off,none⟩) zs.length cap] w fun e w'=>
   e=.returned (.tuple #[])∧∃n os,w'=grow (putRow (Value.int .i64) (Sort.ahead w n) blk off (zs.mergeSort fun x y=>decide (x≤y)).toArray) os:=Any.slices_Sort_int Tryz.lays189 blk off cap zs w hH hblk hsz
def Tryz.lays155_ren:Go.Shelf.Ren:=⟨fun | 155=>213 | 154=>222 | 138=>226 | 165=>227 | 143=>228 | 166=>229 | 197=>230 | 169=>231 | 195=>232 | 218=>233 | 240=>234 | 241=>235 | 219=>236 | 260=>237 | 276=>238 | 277=>239 | 217=>240 | 225=>241 | 224=>242 | 267=>243 | 266=>244 | 314=>245 | n=>n,fun | 9=>9 | 3=>3 | 4=>4 | 72=>307 | 0=>0 | 76=>311 | 105=>313 | 21=>21 | 5=>5 | 70=>305 | 20=>20 | 37=>169 | 75=>310 | 127=>317 | 164=>318 | 46=>201 | 119=>267 | 139=>270 | 138=>269 | 146=>320 | 51=>247 | 80=>195 | n=>n,fun | 1=>0 | 3=>1 | 4=>2 | n=>n⟩
theorem Tryz.lays155:Go.Proofs.Lays.n155 Tryz.prog Tryz.lays155_ren:={
 mixed:=by kernel_rfl
 f138:=Tryz.func226.trans (congrArg some (by kernel_rfl))
 f143:=Tryz.func228.trans (congrArg some (by kernel_rfl))
 f154:=Tryz.func222.trans (congrArg some (by kernel_rfl))
 f155:=Tryz.func213.trans (congrArg some (by kernel_rfl))
 f165:=Tryz.func227.trans (congrArg some (by kernel_rfl))
 f166:=Tryz.func229.trans (congrArg some (by kernel_rfl))
 f169:=Tryz.func231.trans (congrArg some (by kernel_rfl))
 f195:=Tryz.func232.trans (congrArg some (by kernel_rfl))
 f197:=Tryz.func230.trans (congrArg some (by kernel_rfl))
 f217:=Tryz.func240.trans (congrArg some (by kernel_rfl))
 f218:=Tryz.func233.trans (congrArg some (by kernel_rfl))
 f219:=Tryz.func236.trans (congrArg some (by kernel_rfl))
 f224:=Tryz.func242.trans (congrArg some (by kernel_rfl))
 f225:=Tryz.func241.trans (congrArg some (by kernel_rfl))
 f240:=Tryz.func234.trans (congrArg some (by kernel_rfl))
 f241:=Tryz.func235.trans (congrArg some (by kernel_rfl))
 f260:=Tryz.func237.trans (congrArg some (by kernel_rfl))
 f266:=Tryz.func244.trans (congrArg some (by kernel_rfl))
 f267:=Tryz.func243.trans (congrArg some (by kernel_rfl))
 f276:=Tryz.func238.trans (congrArg some (by kernel_rfl))
 f277:=Tryz.func239.trans (congrArg some (by kernel_rfl))
 f314:=Tryz.func245.trans (congrArg some (by kernel_rfl))
 t0:=Tryz.underlying0
 a0:=Tryz.isAgg0
 z0:=Tryz.sizeOf0
 v0:=Tryz.zeroValue0
 t3:=Tryz.underlying3
 a3:=Tryz.isAgg3
 z3:=Tryz.sizeOf3
 v3:=Tryz.zeroValue3
 t4:=Tryz.underlying4
 a4:=Tryz.isAgg4
 z4:=Tryz.sizeOf4
 v4:=Tryz.zeroValue4
 t5:=Tryz.underlying5
 a5:=Tryz.isAgg5
 z5:=Tryz.sizeOf5
 v5:=Tryz.zeroValue5
 t9:=Tryz.underlying9
 a9:=Tryz.isAgg9
 z9:=Tryz.sizeOf9
 v9:=Tryz.zeroValue9
 t20:=Tryz.underlying20
 a20:=Tryz.isAgg20
 z20:=Tryz.sizeOf20
 v20:=Tryz.zeroValue20
 t21:=Tryz.underlying21
 a21:=Tryz.isAgg21
 z21:=Tryz.sizeOf21
 v21:=Tryz.zeroValue21
 t37:=Tryz.underlying169
 a37:=Tryz.isAgg169
 z37:=Tryz.sizeOf169
 v37:=Tryz.zeroValue169
 t46:=Tryz.underlying201
 a46:=Tryz.isAgg201
 z46:=Tryz.sizeOf201
 v46:=Tryz.zeroValue201
 t51:=Tryz.underlying247
 a51:=Tryz.isAgg247
 z51:=Tryz.sizeOf247
 v51:=Tryz.zeroValue247
 t70:=Tryz.underlying305
 a70:=Tryz.isAgg305
 z70:=Tryz.sizeOf305
 v70:=Tryz.zeroValue305
 t72:=Tryz.underlying307
 a72:=Tryz.isAgg307
 z72:=Tryz.sizeOf307
 v72:=Tryz.zeroValue307
 t75:=Tryz.underlying310
 a75:=Tryz.isAgg310
 z75:=Tryz.sizeOf310
 v75:=Tryz.zeroValue310
 t76:=Tryz.underlying311
 a76:=Tryz.isAgg311
 z76:=Tryz.sizeOf311
 v76:=Tryz.zeroValue311
 t105:=Tryz.underlying313
 a105:=Tryz.isAgg313
 z105:=Tryz.sizeOf313
 v105:=Tryz.zeroValue313
 t119:=Tryz.underlying267
 a119:=Tryz.isAgg267
 z119:=Tryz.sizeOf267
 t127:=Tryz.underlying317
 a127:=Tryz.isAgg317
 z127:=Tryz.sizeOf317
 v127:=Tryz.zeroValue317
 t138:=Tryz.underlying269
 a138:=Tryz.isAgg269
 z138:=Tryz.sizeOf269
 v138:=Tryz.zeroValue269
 t139:=Tryz.underlying270
 a139:=Tryz.isAgg270
 z139:=Tryz.sizeOf270
 v139:=Tryz.zeroValue270
 t146:=Tryz.underlying320
 a146:=Tryz.isAgg320
 z146:=Tryz.sizeOf320
 v146:=Tryz.zeroValue320
 t164:=Tryz.underlying318
 a164:=Tryz.isAgg318
 z164:=Tryz.sizeOf318
 v164:=Tryz.zeroValue318
 g1:=by kernel_rfl
 g3:=by kernel_rfl
 g4:=by kernel_rfl }
theorem Tryz.Builder_Extra_155:Builder.Extra Tryz.prog Tryz.lays155_ren:={
 sizeBuilder:=by kernel_rfl
 liesBuilder:=by kernel_rfl
 t5:=Tryz.underlying5
 a5:=Tryz.isAgg5
 z5:=Tryz.sizeOf5
 v5:=Tryz.zeroValue5
 infoByte:=by kernel_rfl
 cellsByte:=by kernel_rfl
 sizeByte:=by kernel_rfl
 neB5:=by decide }
open Go.RowKit Go.Lib in
theorem Tryz.strings_ReplaceAll (s old new:ByteArray) (m:Int) (w:World) (hs:s.size < 4294967281) (hm:w.cell? ⟨0,0,none⟩=some (.int .i64 m)) (h1:1≤old.size) (hlen:s.size+Lib.countB s old*new.size≤140737488355328):
  Calls Tryz.prog 213 #[.string s,.string old,.string new] w fun e w'=>
   e=.returned (.string ⟨(Lib.replaceAll s.data.toList old.data.toList new.data.toList).toArray⟩)∧Below w.heap.size w w':=Any.strings_ReplaceAll Tryz.lays155 Tryz.Builder_Extra_155 s old new m w hs hm h1 hlen
def Tryz.laysNm220_ren:Go.Shelf.Ren:=⟨fun | 20=>67 | n=>n,fun | 22=>23 | 3=>3 | 4=>4 | 0=>0 | n=>n,fun | n=>n⟩
theorem Tryz.laysNm220:Go.Proofs.Lays2.n20 Tryz.prog Tryz.laysNm220_ren:={
 mixed:=by kernel_rfl
 f20:=Tryz.func67.trans (congrArg some (by kernel_rfl))
 t0:=Tryz.underlying0
 a0:=Tryz.isAgg0
 z0:=Tryz.sizeOf0
 v0:=Tryz.zeroValue0
 t3:=Tryz.underlying3
 a3:=Tryz.isAgg3
 z3:=Tryz.sizeOf3
 v3:=Tryz.zeroValue3
 t4:=Tryz.underlying4
 a4:=Tryz.isAgg4
 z4:=Tryz.sizeOf4
 v4:=Tryz.zeroValue4
 t22:=Tryz.underlying23
 a22:=Tryz.isAgg23
 z22:=Tryz.sizeOf23
 v22:=Tryz.zeroValue23
 i3:=by kernel_rfl }
open Go.RowKit Go.Lib Go.Sort in
theorem Tryz.slices_Compact_int (blk off cap:Nat) (zs:List Int) (w:World) (hH:Holds (Value.int .i64) w blk off zs.toArray) (hsz:zs.length≤9223372036854775807) (hcap:zs.length≤cap):
  Calls Tryz.prog 67 #[.slice (some ⟨blk,off,none⟩) zs.length cap] w fun e w'=>e=.returned (.slice (some ⟨blk,off,none⟩) (Lib.compact zs).length cap)∧∃q,w'=putRow (Value.int .i64) (Sort.ahead w q) blk off (Lib.compact zs++List.replicate (zs.length - (Lib.compact zs).length) 0).toArray:=Any.slices_Compact_int Tryz.laysNm220 blk off cap zs w hH hsz hcap
open Go.RowKit Go.Lib Go.Sort in
theorem Tryz.slices_Compact_int_empty (a:Option Addr) (cap:Nat) (w:World):
  Calls Tryz.prog 67 #[.slice a 0 cap] w fun e w'=>e=.returned (.slice a 0 cap)∧w'=w:=Any.slices_Compact_int_empty Tryz.laysNm220 a cap w
open Go.RowKit Go.Sort in
theorem Tryz.slices_Sort_int_none (p:Option Addr) (cap:Nat) (w:World):
  Calls Tryz.prog 66 #[.slice p 0 cap] w fun e w'=>e=.returned (.tuple #[])∧w'=w:=Any.slices_Sort_int_none Tryz.lays189 p cap w
def Tryz.laysValid_ren:Go.Shelf.Ren:=⟨fun | 196=>156 | 259=>188 | n=>n,fun | 9=>9 | 4=>4 | 3=>3 | 5=>5 | 12=>12 | 119=>267 | 0=>0 | 46=>201 | 139=>270 | 138=>269 | 53=>68 | n=>n,fun | 3=>1 | 4=>2 | n=>n⟩
theorem Tryz.laysValid:Go.Proofs.Lays.n196 Tryz.prog Tryz.laysValid_ren:={
 mixed:=by kernel_rfl
 f196:=Tryz.func156.trans (congrArg some (by kernel_rfl))
 f259:=Tryz.func188.trans (congrArg some (by kernel_rfl))
 t0:=Tryz.underlying0
 a0:=Tryz.isAgg0
 z0:=Tryz.sizeOf0
 v0:=Tryz.zeroValue0
 t3:=Tryz.underlying3
 a3:=Tryz.isAgg3
 z3:=Tryz.sizeOf3
 v3:=Tryz.zeroValue3
 t4:=Tryz.underlying4
 a4:=Tryz.isAgg4
 z4:=Tryz.sizeOf4
 v4:=Tryz.zeroValue4
 t5:=Tryz.underlying5
 a5:=Tryz.isAgg5
 z5:=Tryz.sizeOf5
 v5:=Tryz.zeroValue5
 t9:=Tryz.underlying9
 a9:=Tryz.isAgg9
 z9:=Tryz.sizeOf9
 v9:=Tryz.zeroValue9
 t12:=Tryz.underlying12
 a12:=Tryz.isAgg12
 z12:=Tryz.sizeOf12
 v12:=Tryz.zeroValue12
 t46:=Tryz.underlying201
 a46:=Tryz.isAgg201
 z46:=Tryz.sizeOf201
 v46:=Tryz.zeroValue201
 t53:=Tryz.underlying68
 a53:=Tryz.isAgg68
 z53:=Tryz.sizeOf68
 v53:=Tryz.zeroValue68
 t119:=Tryz.underlying267
 a119:=Tryz.isAgg267
 z119:=Tryz.sizeOf267
 t138:=Tryz.underlying269
 a138:=Tryz.isAgg269
 z138:=Tryz.sizeOf269
 v138:=Tryz.zeroValue269
 t139:=Tryz.underlying270
 a139:=Tryz.isAgg270
 z139:=Tryz.sizeOf270
 v139:=Tryz.zeroValue270
 g3:=by kernel_rfl
 g4:=by kernel_rfl }
end Go.Proofs
namespace Lv
open Go Go.Proofs
set_option maxRecDepth 100000
class wY [bJ]:Prop where
 tabs:∀w:World,(∀a v,bJ.tab a=some v→w.cell? a=some v)→Go.Lib.Utf8Tabs (Tryz.laysValid_ren.g 3) (Tryz.laysValid_ren.g 4) w
 maxLen:∃m,bJ.tab ⟨0,0,none⟩=some (.int .i64 m)
variable [bJ] [wY]
def Kz (s:List UInt8):Option Bool:=if s.length≤9223372036854775807 then some (Go.Lib.validD s) else none
theorem ZO (s:List UInt8) (r:Bool) (h0:Kz s=some r):aT Tryz.prog 156 [.d (eS s)] [] (.d (eB r)) []:=by
 unfold Kz at h0
 split at h0
 ·rename_i hs
  have:=Option.some.inj h0
  subst this
  refine aT.of_below (v:=.bool (Go.Lib.validD s)) (vs:=[.string ⟨s.toArray⟩]) rfl rfl fun w hw=>?_
  exact Any.utf8_ValidString Tryz.laysValid ⟨s.toArray⟩ w (by rw [rU];exact hs) (wY.tabs w hw)
 ·cases h0
def KP (s a b:List UInt8):Option (List UInt8):=if s.length < 4294967281∧1≤a.length∧s.length+Go.Lib.countB ⟨s.toArray⟩ ⟨a.toArray⟩*b.length≤140737488355328 then some (Go.Lib.replaceAll s a b) else none
theorem adW (s a b:List UInt8) (r:List UInt8) (h0:KP s a b=some r):aT Tryz.prog 213 [.d (eS s),.d (eS a),.d (eS b)] [] (.d (eS r)) []:=by
 unfold KP at h0
 split at h0
 ·rename_i hs
  have:=Option.some.inj h0
  subst this
  obtain ⟨m,hm⟩:=wY.maxLen
  refine aT.of_below (v:=.string ⟨(Go.Lib.replaceAll s a b).toArray⟩) (vs:=[.string ⟨s.toArray⟩,.string ⟨a.toArray⟩,.string ⟨b.toArray⟩]) rfl rfl fun w hw=>?_
  exact Tryz.strings_ReplaceAll ⟨s.toArray⟩ ⟨a.toArray⟩ ⟨b.toArray⟩ m w (by rw [rU];exact hs.1) (hw _ _ hm) (by rw [rU];exact hs.2.1) (by rw [rU,rU];exact hs.2.2)
 ·cases h0
omit [bJ] [wY] in
theorem stays {P:Program} {f:FuncId} {a:Array Value} {v:Value} {w:World} (h:Calls P f a w fun e w'=>e=.returned v∧w'=w):Calls P f a w fun e w'=>e=.returned v∧RowKit.Below w.heap.size w w':=
 h.mono fun e w' ⟨h1,h2⟩=>⟨h1,by rw [h2];exact RowKit.Below.refl _ _⟩
def aex (a b:List UInt8):Option Int:=some (Go.Lib.compareBytes a b)
omit [wY] in
theorem ai6 (a b:List UInt8) (r:Int) (h0:aex a b=some r):aT Tryz.prog 79 [.d (eS a),.d (eS b)] [] (.d (eI r)) []:=by
 have:=Option.some.inj h0
 subst this
 exact aT.of_below (v:=.int .i64 (Go.Lib.compareBytes a b)) (vs:=[.string ⟨a.toArray⟩,.string ⟨b.toArray⟩]) rfl rfl fun w hw=>stays (Tryz.strings_Compare ⟨a.toArray⟩ ⟨b.toArray⟩ w)
def P6 (l:List Int):Option (List Int):=if l.length < 4611686018427387904 then some (l.mergeSort fun x y=>decide (x≤y)) else none
omit [wY] in
theorem aa4 (l:List Int) (r:List Int) (h0:P6 l=some r):aT Tryz.prog 66 [.slc 0 1 0 l.length none] [.row 1 (l.map eI) true] (.tuple []) [.row 1 (r.map eI) true]:=by
 unfold P6 at h0
 split at h0
 ·rename_i hs
  have:=Option.some.inj h0
  subst this
  refine aT.aa6 akW (R:=fun _ _=>.tuple #[]) (List.length_mergeSort _) (fun ro μ a c _=>.tuple [] #[] rfl (fun i x v hx=>by simp at hx)) (fun blk off cap w _ hH hb _=>Tryz.slices_Sort_int blk off cap l w hH hb hs) (fun a cap w _=>Tryz.slices_Sort_int_none a cap w)
 ·cases h0
def CO (l:List Int) (o n:Nat):Option (List Int):=if o=0∧n=l.length∧l.length≤9223372036854775807 then some (Go.Lib.compact l) else none
omit [wY] in
theorem LJ (l:List Int):(Go.Lib.compact l).length≤l.length:=by
 unfold Go.Lib.compact Go.Lib.compactUpTo
 rw [List.length_map]
 exact Nat.le_trans (List.length_filter_le _ _) (by simp)
omit [wY] in
theorem Sz (l:List Int) (o n:Nat) (r:List Int) (h0:CO l o n=some r):aT Tryz.prog 67 [.slc 0 1 o n none] [.row 1 (l.map eI) true] (.d (eL 1 eI r)) [.row 1 ((r++List.replicate (l.length - r.length) (0:Int)).map eI) false]:=by
 unfold CO at h0
 split at h0
 ·rename_i hs
  obtain ⟨rfl,rfl,hs⟩:=hs
  have:=Option.some.inj h0
  subst this
  have hc:=LJ l
  refine aT.att ?_ UU
  refine aT.aa6 akW (R:=fun a c=>.slice a (Go.Lib.compact l).length c) (by simp;omega) (fun ro μ a c h=>?_) (fun blk off cap w _ hH hb hcap=>(Tryz.slices_Compact_int blk off cap l w hH hs hcap).mono fun e w' ⟨h1,q,h2⟩=>⟨h1,q,#[],by rw [h2];exact (Go.Sort.grow_empty _).symm⟩) (fun a cap w e=>by
   subst e
   exact Tryz.slices_Compact_int_empty a cap w)
  rcases o7 h with ⟨L,c',a',e,hL,hsz,hlc,hk,ha⟩ | ⟨hn,_,e⟩
  ·cases e
   exact .slc 0 1 0 _ none L _ _ hL hsz (by omega) hk ha
  ·simp only [Value.slice.injEq] at e
   obtain ⟨rfl,_,rfl⟩:=e
   have:(Go.Lib.compact l).length=0:=by omega
   rw [this]
   exact .mH 0 1 0
 ·cases h0
end Lv
namespace Lv
open Option renaming bind→ah
open SC renaming region→aO,ret→aM,exit→bZ,skip→bR
open Go Go.Proofs
set_option maxRecDepth 100000
variable [bJ] [wY]
noncomputable def yG (p0:List Int):Option ((List aX)):=
 ah (α:=(List aX))
 (ah (α:=(List aX))
 (loop (Y:=(List aX)×Int) (W:=(List aX)) (fun (xO,AX)=>
 bif (decide (AX < (p0.length:Int))) then
 ah (bP p0 AX) fun v83=>
 bif decide ((xO.length+[(aX.mk v83 false)].length)*16≤room) then
 some (Sum.inl ((xO++[(aX.mk v83 false)]),(bL (AX+(1:Int)))))
 else none
 else
 some (Sum.inr xO)) (([]:List aX),(0:Int)))
 (fun e=>some e))
 fun IG=>
 some IG
theorem IV (p0:List Int) (r:(List aX)) (h0:yG p0=some r):aT Tryz.prog 36 [.d ((eL 1 eI) p0)] [] (.d ((eL 2 aK) r)) []:=by
 unfold yG at h0
 refine fn0 [0] Tryz.func36 U U U U U ?_
 refine sr (s1 (jA (v:=.d .dB) U) (sn (sr (s1 (jA (v:=.d .dB) U) (sn (SC.dw h0 (fun y=>⟨mk 20 [(3,.slc 0 2 0 y.length none)],[.row 2 (List.map aK y) true]⟩) ?_ ?_))))))
 ·intro V7 h1
  obtain ⟨V5,h2,h1⟩:=ob h1
  refine sr (sa U (sn (SC.blk (SC.eH h2 (fun y=>⟨mk 20 [(0,.d ((eL 1 eI) p0)),(3,.slc 0 2 0 y.1.length none),(4,.d (eI y.2))],[.row 2 (List.map aK y.1) true]⟩) (Wk.trans (Wk.nI (σ':=[.row 2 (List.map aK ([]:List aX)) true]) (.row 2 [] true) (fun _ hh=>by cases hh) U) (Wk.trans (Wk.env (e':=[(0,.d ((eL 1 eI) p0)),(3,.slc 0 2 0 (([]:List aX).length) none),(4,.d (eI (0:Int)))]) (EW.cons (AW.refl _) (EW.cons (AW.mH _ _ _) (EW.cons (AW.refl _) EW.nil)))) (wq U))) ?_))))
  intro n85
  rintro ⟨xO,AX⟩ VL h3 hv3
  refine sq (sr (sm U (sm U (s1 (len U U U (bN iJ)) (s1 (bi U U bB) (sn (cB h3 U (fun h3=>?_) (fun h3=>?_))))))))
  ·obtain ⟨v83,Gi,h3⟩:=ob h3;obtain ⟨UQ,h3⟩:=gd h3
   refine sk (sq (SC.blk (aO (sm U (sm U (sm U (s1 (kV U U iJ dH (aB Gi).1 (bI (aB Gi).2) U) (s1 (bK U (bY dH gV U)) (s1 (vg U (acp v83)) ?_)))))))))
   refine s1 (rX (k:=1) (ds:=List.map aK [(aX.mk v83 false)]) (off:=0) (l':=[(aX.mk v83 false)].length) U xg YF U U (by rfl) U U U) (s1 (app U U U U bc28 (aF (f:=aK) (xs:=xO) (k:=2) U xg YF U (dU (xs:=[(aX.mk v83 false)]) U) UQ U)) (sa U (SO.nil ?_)))
   change SC _ _ _ _ _
   have q:=si h3;subst q
   exact aO (sm U (s1 (bi U U bH) (sa U (SO.nil (lf (aC [2] [2] U))))))
  ·have q:=si h3;subst q;have q:_=_:=hv3;subst q;have q:=si h1;subst q
   exact bZ ((wq U))
 ·rintro IG h0
  have q:=si h0;subst q
  exact sr (sm U (sa U (sn (aM (bM (Wk.trans (Wk.og (i:=2) (x:=.slc 0 2 0 IG.length none) U U (fF U U U)) (aC (e':=[(2,.d ((eL 2 aK) IG))]) [] [] U)) (bq U aW) U)))))
noncomputable def jI (p0:UInt64) (p1:Int):Option ((List UInt8)):=
 ah (α:=(List UInt8))
 (loop (Y:=Int×(List UInt8)) (W:=(List UInt8)) (fun (A9,y31)=>
 bif (decide (A9≥(0:Int))) then
 bif decide (0≤(bL ((8:Int)*A9))) then
 bif decide ((y31.length+[((dO p0 ((bL ((8:Int)*A9)).toNat)).toUInt8)].length)*1≤room) then
 some (Sum.inl ((bL (A9 - (1:Int))),(y31++[((dO p0 ((bL ((8:Int)*A9)).toNat)).toUInt8)])))
 else none
 else none
 else
 some (Sum.inr y31)) ((bL (p1 - (1:Int))),([]:List UInt8)))
 (fun e=>some e)
theorem sI (p0:UInt64) (p1:Int) (r:(List UInt8)) (h0:jI p0 p1=some r):aT Tryz.prog 84 [.ref 0 0 0,.d (eX p0),.d (eI p1)] [.box (.d (.agg [.dB]))] (.tuple []) [.box (.agg [.slc 1 1 0 r.length none]),.row 1 (List.map dX r) true]:=by
 unfold jI at h0
 refine fn0 [0,1,2] Tryz.func84 U U U U U ?_
 obtain ⟨aak,h1,h0⟩:=ob h0
 refine sr (sm U (s1 (bi U U gX) (sa U (sn (SC.blk (SC.eH h1 (fun y=>⟨mk 27 [(0,.ref 0 0 0),(1,.d (eX p0)),(6,.d (eI y.1))],[.box (.agg [.slc 1 1 0 y.2.length none]),.row 1 (List.map dX y.2) true]⟩) (Wk.trans (Wk.nI (σ':=[.box (.d (.agg [.dB])),.row 1 (List.map dX ([]:List UInt8)) true]) (.row 1 [] true) (fun _ hh=>by cases hh) U) (Wk.trans (Wk.Vd (id:=0) (y:=.agg [.slc 1 1 0 (([]:List UInt8).length) none]) (σ':=[.box (.agg [.slc 1 1 0 (([]:List UInt8).length) none]),.row 1 (List.map dX ([]:List UInt8)) true]) U (jX.cons (AW.mH _ _ _) jX.nil) U) (wq U))) ?_))))))
 intro n40
 rintro ⟨A9,y31⟩ ajV h2 hv2
 refine sq (sr (sm U (s1 (bi U U fU) (sn (cB h2 U (fun h2=>?_) (fun h2=>?_))))))
 ·obtain ⟨aix,h2⟩:=gd h2;obtain ⟨aiw,h2⟩:=gd h2
  refine sk (sq (SC.blk (SC.draws (by kernel_rfl) (t1 aH (mv U) U (t1 aH (mv U) U (t1 aH (lu U) U (t1 aH (far (k:=0) U l7 dV U) U (t1 ([0],false) (bK U (ak dV lH U U)) U (t1 aH (mv U) U ?_)))))))))
  refine t1 aH (mv U) U (t1 aH (bi U U vN) U (t1 aH (bi (v:=.d (eX (dO p0 ((bL ((8:Int)*A9)).toNat)))) U U (fun X Y=>CV _ X Y p0 _ aix)) U (t1 aH (AZ U (vP Bh EU (dO p0 ((bL ((8:Int)*A9)).toNat)))) U (t1 ([2],true) (rX (k:=2) (ds:=List.map dX [((dO p0 ((bL ((8:Int)*A9)).toNat)).toUInt8)]) (off:=0) (l':=[((dO p0 ((bL ((8:Int)*A9)).toNat)).toUInt8)].length) U eZ LZ U U (by rfl) U U U) U (t1 ([1,2,3],true) (app U U U U Co (aF (f:=dX) (xs:=y31) (k:=3) U eZ LZ U (dU (xs:=[((dO p0 ((bL ((8:Int)*A9)).toNat)).toUInt8)]) U) aiw U)) U (t1 aH (lu U) U (t1 aH (far (k:=0) U l7 dV U) U (t0 ([0,3],true) (jF U U (sB (d':=.agg [.slc 3 1 0 ((y31++[((dO p0 ((bL ((8:Int)*A9)).toNat)).toUInt8)]).length) none]) dV U U U U U U U)) U (ST.nil (And.intro (by decide +kernel) ?_))))))))))
  change SC _ _ _ _ _
  have q:=si h2;subst q
  exact aO (sm U (s1 (bi U U gX) (sa U (SO.nil (lf (aC [0,3] [0,0] U))))))
 ·have q:=si h2;subst q;have q:_=_:=hv2;subst q;have q:=si h0;subst q
  exact bZ (vH (Wk.refl _) aW U)
noncomputable def bU (p0:UInt64) (p1:Int) (p2:List UInt8):Option ((List UInt8)):=
 ah (α:=(List UInt8))
 (loop (Y:=Int×(List UInt8)) (W:=(List UInt8)) (fun (A9,y31)=>
 bif (decide (A9≥(0:Int))) then
 bif decide (0≤(bL ((8:Int)*A9))) then
 bif decide ((y31.length+[((dO p0 ((bL ((8:Int)*A9)).toNat)).toUInt8)].length)*1≤room) then
 some (Sum.inl ((bL (A9 - (1:Int))),(y31++[((dO p0 ((bL ((8:Int)*A9)).toNat)).toUInt8)])))
 else none
 else none
 else
 some (Sum.inr y31)) ((bL (p1 - (1:Int))),p2))
 (fun e=>some e)
theorem fO (p0:UInt64) (p1:Int) (p2:List UInt8) (r:(List UInt8)) (h0:bU p0 p1 p2=some r):aT Tryz.prog 84 [.ref 0 0 0,.d (eX p0),.d (eI p1)] [.box (.agg [.slc 1 1 0 p2.length none]),.row 1 (List.map dX p2) true] (.tuple []) [.box (.agg [.slc 2 1 0 r.length none]),.dead,.row 1 (List.map dX r) true]:=by
 unfold bU at h0
 refine fn0 [0,1,2] Tryz.func84 U U U U U ?_
 obtain ⟨aak,h1,h0⟩:=ob h0
 refine sr (sm U (s1 (bi U U gX) (sa U (sn (SC.blk (SC.eH h1 (fun y=>⟨mk 27 [(0,.ref 0 0 0),(1,.d (eX p0)),(6,.d (eI y.1))],[.box (.agg [.slc 2 1 0 y.2.length none]),.dead,.row 1 (List.map dX y.2) true]⟩) (Wk.trans (wq (e':=[(0,.ref 0 0 0),(1,.d (eX p0)),(6,.d (eI (bL (p1 - (1:Int)))))]) U) (Wk.trans (Wk.move (e':=[(0,.ref 0 0 0),(1,.d (eX p0)),(6,.d (eI (bL (p1 - (1:Int)))))]) (os:=[.box (.agg [.slc 2 1 0 p2.length none]),.row 1 (List.map dX p2) true]) (o:=.row 1 (List.map dX p2) true) (σ':=[.box (.agg [.slc 2 1 0 p2.length none]),.dead,.row 1 (List.map dX p2) true]) 1 (Nat.le_of_ble_eq_true U) U U U U) (wq U))) ?_))))))
 intro n40
 rintro ⟨A9,y31⟩ ajV h2 hv2
 refine sq (sr (sm U (s1 (bi U U fU) (sn (cB h2 U (fun h2=>?_) (fun h2=>?_))))))
 ·obtain ⟨aix,h2⟩:=gd h2;obtain ⟨aiw,h2⟩:=gd h2
  refine sk (sq (SC.blk (SC.draws (by kernel_rfl) (t1 aH (mv U) U (t1 aH (mv U) U (t1 aH (lu U) U (t1 aH (far (k:=0) U l7 dV U) U (t1 ([0],false) (bK U (ak dV lH U U)) U (t1 aH (mv U) U ?_)))))))))
  refine t1 aH (mv U) U (t1 aH (bi U U vN) U (t1 aH (bi (v:=.d (eX (dO p0 ((bL ((8:Int)*A9)).toNat)))) U U (fun X Y=>CV _ X Y p0 _ aix)) U (t1 aH (AZ U (vP Bh EU (dO p0 ((bL ((8:Int)*A9)).toNat)))) U (t1 ([3],true) (rX (k:=3) (ds:=List.map dX [((dO p0 ((bL ((8:Int)*A9)).toNat)).toUInt8)]) (off:=0) (l':=[((dO p0 ((bL ((8:Int)*A9)).toNat)).toUInt8)].length) U eZ LZ U U (by rfl) U U U) U (t1 ([2,3,4],true) (app U U U U Co (aF (f:=dX) (xs:=y31) (k:=4) U eZ LZ U (dU (xs:=[((dO p0 ((bL ((8:Int)*A9)).toNat)).toUInt8)]) U) aiw U)) U (t1 aH (lu U) U (t1 aH (far (k:=0) U l7 dV U) U (t0 ([0,4],true) (jF U U (sB (d':=.agg [.slc 4 1 0 ((y31++[((dO p0 ((bL ((8:Int)*A9)).toNat)).toUInt8)]).length) none]) dV U U U U U U U)) U (ST.nil (And.intro (by decide +kernel) ?_))))))))))
  change SC _ _ _ _ _
  have q:=si h2;subst q
  exact aO (sm U (s1 (bi U U gX) (sa U (SO.nil (lf (Wk.trans (wq (e':=[(0,.ref 0 0 0),(1,.d (eX p0)),(6,.d (eI (bL (A9 - (1:Int)))))]) U) (aC [0,1,4] [0,1,0] U)))))))
 ·have q:=si h2;subst q;have q:_=_:=hv2;subst q;have q:=si h0;subst q
  exact bZ (vH (Wk.refl _) aW U)
noncomputable def qV (p0:aj) (p1:Bool):Option ((List UInt8)):=
 ah (α:=(List UInt8))
 (bif (p0.Kind==(0:Int)) then
 ah (jI (0:UInt64) (1:Int)) fun akN=>
 some akN
 else
 ah (jI (1:UInt64) (1:Int)) fun akM=>
 some akM)
 fun Km=>
 ah (α:=(List UInt8))
 (bif (p0.Kind==(1:Int)) then
 ah (bU (p0.N ^^^ (9223372036854775808:UInt64)) (8:Int) Km) fun akK=>
 some akK
 else
 bif (p0.Kind==(2:Int)) then
 ah (bU p0.N (8:Int) Km) fun akJ=>
 some akJ
 else
 bif (p0.Kind==(3:Int)) then
 ah (bU p0.N (1:Int) Km) fun akI=>
 some akI
 else
 ah (α:=Bool)
 (bif (p0.Kind==(4:Int)) then
 some (p0.Kind==(4:Int))
 else
 some (p0.Kind==(5:Int)))
 fun ajI=>
 bif ajI then
 ah (α:=(List UInt8))
 (ah (α:=(List UInt8))
 (loop (Y:=Int×(List UInt8)) (W:=(List UInt8)) (fun (Xo,ac6)=>
 bif (decide (Xo < (p0.S.length:Int))) then
 ah (α:=(List UInt8))
 (ah (bP p0.S Xo) fun adD=>
 ah (bU (adD.toUInt64) (1:Int) ac6) fun adX=>
 ah (bP p0.S Xo) fun ajW=>
 bif (ajW==(0:UInt8)) then
 ah (bU (255:UInt64) (1:Int) adX) fun akH=>
 some akH
 else
 some adX)
 fun ajH=>
 some (Sum.inl ((bL (Xo+(1:Int))),ajH))
 else
 some (Sum.inr ac6)) ((0:Int),Km))
 (fun e=>some e))
 fun agX=>
 ah (bU (0:UInt64) (2:Int) agX) fun akG=>
 some akG
 else
 some Km)
 fun ajJ=>
 ah (α:=(List UInt8))
 (ah (α:=(List UInt8))
 (loop (Y:=Int×(List UInt8)) (W:=(List UInt8)) (fun (Kk,Kj)=>
 ah (α:=Bool)
 (bif (decide (Kk < (Kj.length:Int))) then
 some p1
 else
 some false)
 fun ajG=>
 bif ajG then
 ah (bP Kj Kk) fun Ub=>
 ah (bP Kj Kk) fun aqn=>
 some (Sum.inl ((bL (Kk+(1:Int))),(List.set Kj Kk.toNat ((255:UInt8) - Ub))))
 else
 some (Sum.inr Kj)) ((0:Int),ajJ))
 (fun e=>some e))
 fun DU=>
 some DU
theorem Jz (p0:aj) (p1:Bool) (r:(List UInt8)) (h0:qV p0 p1=some r):aT Tryz.prog 174 [.d (au p0),.d (eB p1)] [] (.d ((eL 1 dX) r)) []:=by
 unfold qV at h0
 refine fn0 [0,1] Tryz.func174 U U U U U ?_
 refine sr (s1 (nN (k:=0) U U U) (s1 (jA (v:=.d .dB) U) (sn (sr (s1 (vg U (acw )) (s1 (nN (k:=1) U U U) (sa U (sn (SC.dw h0 (fun y=>⟨mk 94 [(1,.d (eB p1)),(2,.ref 0 0 0),(5,.ref 1 0 0)],[.box (.d (au p0)),.box (.agg [.slc 2 1 0 y.length none]),.row 1 (List.map dX y) true]⟩) ?_ ?_)))))))))
 ·intro arN h1
  refine sr (s1 (far (k:=0) U iG dH U) (s1 (bK U (ak dH gV U U)) (s1 (bi U U bD) (sn (cB h1 U (fun h1=>?_) (fun h1=>?_))))))
  ·obtain ⟨akN,alH,h1⟩:=ob h1;have q:=si h1;subst q
   exact aO (sm U (cq [1] [2] (sI (0:UInt64) (1:Int) _ alH) wf U U U JV U U U U U U U U (SO.nil ((wq U)))))
  ·obtain ⟨akM,alG,h1⟩:=ob h1;have q:=si h1;subst q
   exact aO (sm U (cq [1] [2] (sI (1:UInt64) (1:Int) _ alG) wf U U U JV U U U U U U U U (SO.nil ((wq U)))))
 ·rintro Km h0
  refine SC.dw h0 (fun y=>⟨mk 94 [(1,.d (eB p1)),(5,.ref 0 0 0)],[.box (.agg [.slc 1 1 0 y.length none]),.row 1 (List.map dX y) true]⟩) ?_ ?_
  ·intro arM h1
   refine sr (s1 (far (k:=0) U iG dH U) (s1 (bK U (ak dH gV U U)) (sn (SC.blk (sr (s1 (bi U U bD) (sa U (sn (cB h1 U (fun h1=>?_) (fun h1=>?_))))))))))
   ·obtain ⟨akK,alE,h1⟩:=ob h1;have q:=si h1;subst q
    exact aO (sm U (s1 (far (k:=1) U j3 iK U) (s1 (bK U (ak iK qN U U)) (s1 (bi U U (NY (b:=(9223372036854775808:UInt64)))) (cq [1,2] [3] (fO (p0.N ^^^ (9223372036854775808:UInt64)) (8:Int) Km _ alE) wf U U U JV U U U U U U U U (SO.nil ((aC [1,3] [1] U))))))))
   ·refine sr (s1 (bi U U bD) (sa U (sn (cB h1 U (fun h1=>?_) (fun h1=>?_)))))
    ·obtain ⟨akJ,alD,h1⟩:=ob h1;have q:=si h1;subst q
     exact aO (sm U (s1 (far (k:=1) U j3 iK U) (s1 (bK U (ak iK qN U U)) (cq [1,2] [3] (fO p0.N (8:Int) Km _ alD) wf U U U JV U U U U U U U U (SO.nil ((aC [1,3] [1] U)))))))
    ·refine sr (s1 (bi U U bD) (sa U (sn (cB h1 U (fun h1=>?_) (fun h1=>?_)))))
     ·obtain ⟨akI,alC,h1⟩:=ob h1;have q:=si h1;subst q
      exact aO (sm U (s1 (far (k:=1) U j3 iK U) (s1 (bK U (ak iK qN U U)) (cq [1,2] [3] (fO p0.N (1:Int) Km _ alC) wf U U U JV U U U U U U U U (SO.nil ((aC [1,3] [1] U)))))))
     ·refine SC.dw h1 (fun y=>⟨mk 94 [(1,.d (eB p1)),(2,.ref 0 0 0),(5,.ref 1 0 0),(38,.d (eB y))],[.box (.d (au p0)),.box (.agg [.slc 2 1 0 Km.length none]),.row 1 (List.map dX Km) true]⟩) ?_ ?_
      ·intro aq7 h2
       refine sr (s1 (bi U U bD) (sa U (sn (cB h2 U (fun h2=>?_) (fun h2=>?_)))))
       ·have q:=si h2;subst q
        exact bR ((wq U))
       ·have q:=si h2;subst q
        exact aO (s1 (bi U U bD) (sa U (SO.nil ((wq U)))))
      ·rintro ajI h1
       refine cB h1 U (fun h1=>?_) (fun h1=>?_)
       ·refine SC.dw h1 (fun y=>⟨mk 94 [(1,.d (eB p1)),(5,.ref 0 0 0)],[.box (.agg [.slc 1 1 0 y.length none]),.row 1 (List.map dX y) true]⟩) ?_ ?_
        ·intro aq6 h2
         obtain ⟨aqZ,h3,h2⟩:=ob h2
         refine sr (sa U (sn (SC.blk (SC.eH h3 (fun y=>⟨mk 94 [(1,.d (eB p1)),(2,.ref 0 0 0),(5,.ref 1 0 0),(6,.d (eI y.1))],[.box (.d (au p0)),.box (.agg [.slc 2 1 0 y.2.length none]),.row 1 (List.map dX y.2) true]⟩) (wq U) ?_))))
         intro avn
         rintro ⟨Xo,ac6⟩ apY h4 hv4
         refine sq (sr (sm U (s1 (far (k:=2) U jZ iA U) (s1 (bK U (ak iA qw U U)) (s1 (len U U U (iV vk)) (s1 (bi U U bB) (sn (cB h4 U (fun h4=>?_) (fun h4=>?_)))))))))
         ·refine sk (SC.dw h4 (fun y=>⟨mk 94 [(1,.d (eB p1)),(2,.ref 0 0 0),(5,.ref 1 0 0),(6,.d (eI Xo))],[.box (.d (au p0)),.box (.agg [.slc 2 1 0 y.length none]),.row 1 (List.map dX y) true]⟩) ?_ ?_)
          ·intro aqF h5
           obtain ⟨adD,afO,h5⟩:=ob h5;obtain ⟨adX,alB,h5⟩:=ob h5;obtain ⟨ajW,afN,h5⟩:=ob h5
           refine SC.blk (sr (sm U (s1 (far (k:=2) U jZ iA U) (s1 (bK U (ak iA qw U U)) (sm U (s1 (ixs U U U U (nC vk (aB afO).1 (aB afO).2)) (s1 (AZ U (CS EU Bh adD)) (cq [1,2] [3] (fO (adD.toUInt64) (1:Int) ac6 _ alB) wf U U U JV U U U U U U U U (sn ?_)))))))))
           refine sr (s1 (far (k:=2) U jZ iA U) (s1 (bK U (ak iA qw U U)) (sm U (s1 (ixs U U U U (nC vk (aB afN).1 (aB afN).2)) (s1 (bi U U (aaG (b:=(0:UInt8)))) (sn (cB h5 U (fun h5=>?_) (fun h5=>?_))))))))
           ·obtain ⟨akH,alA,h5⟩:=ob h5;have q:=si h5;subst q
            exact aO (sm U (cq [1,3] [4] (fO (255:UInt64) (1:Int) adX _ alA) wf U U U JV U U U U U U U U (SO.nil ((aC [0,1,4] [0,1] U)))))
           ·have q:=si h5;subst q
            exact bR ((aC [0,1,3] [0,1] U))
          ·rintro ajH h4
           have q:=si h4;subst q
           exact aO (sm U (s1 (bi U U bH) (sa U (SO.nil (lf (wq U))))))
         ·have q:=si h4;subst q;have q:_=_:=hv4;subst q;have q:=si h2;subst q
          exact bZ ((aC [1,2] [1] U))
        ·rintro agX h1
         obtain ⟨akG,alz,h1⟩:=ob h1;have q:=si h1;subst q
         exact aO (sm U (cq [0,1] [2] (fO (0:UInt64) (2:Int) agX _ alz) wf U U U JV U U U U U U U U (SO.nil ((aC [0,2] [0] U)))))
       ·have q:=si h1;subst q
        exact bR ((aC [1,2] [1] U))
  ·rintro ajJ h0
   refine SC.dw h0 (fun y=>⟨mk 94 [(5,.ref 0 0 0)],[.box (.agg [.slc 1 1 0 y.length none]),.row 1 (List.map dX y) true]⟩) ?_ ?_
   ·intro arJ h1
    obtain ⟨aq3,h2,h1⟩:=ob h1
    refine sr (sa U (sn (SC.blk (SC.eH h2 (fun y=>⟨mk 94 [(1,.d (eB p1)),(5,.ref 0 0 0),(7,.d (eI y.1))],[.box (.agg [.slc 1 1 0 y.2.length none]),.row 1 (List.map dX y.2) true]⟩) (wq U) ?_))))
    intro avk
    rintro ⟨Kk,Kj⟩ ap2 h3 hv3
    refine sq (SC.dw h3 (fun y=>⟨mk 94 [(1,.d (eB p1)),(5,.ref 0 0 0),(7,.d (eI Kk)),(73,.d (eB y))],[.box (.agg [.slc 1 1 0 Kj.length none]),.row 1 (List.map dX Kj) true]⟩) ?_ ?_)
    ·intro aqM h4
     refine aO (sm U (sm U (s1 (lu U) (s1 (far (k:=0) U l7 dV U) (s1 (bK U (ak dV lH U U)) (s1 (len U U U (gN eZ)) (s1 (bi U U bB) (sm U (sp h4 (fun h4=>?_) (fun h4=>?_))))))))))
     ·have q:=si h4;subst q
      exact gw U (mv U) (s1 (pkt U U) (SO.nil ((wq U))))
     ·have q:=si h4;subst q
      exact kw U (s1 (eT U U) (SO.nil ((wq U))))
    ·rintro ajG h3
     refine cB h3 U (fun h3=>?_) (fun h3=>?_)
     ·obtain ⟨Ub,afI,h3⟩:=ob h3;obtain ⟨aqn,afH,h3⟩:=ob h3
      refine sk (sq (SC.blk (SC.draws (by kernel_rfl) (t1 aH (mv U) U (t1 aH (lu U) U (t1 aH (far (k:=0) U l7 dV U) U (t1 ([0],false) (bK U (ak dV lH U U)) U (t1 aH (mv U) U (t1 aH (mv U) U ?_)))))))))
      refine t1 aH (lu U) U (t1 aH (far (k:=0) U l7 dV U) U (t1 ([0],false) (bK U (ak dV lH U U)) U (t1 aH (mv U) U (t1 aH (Yz U U eZ Fx (pO afI)) U (t1 ([1],false) (bK U (jD Fx ta5 U (bI (aB afI).2) U)) U (t1 aH (bi U U (aaD (a:=(255:UInt8)))) U (t1 aH (Yz U U eZ Fx (pO afH)) U (t0 ([1],true) (jF (b:=.d (dX ((255:UInt8) - Ub))) U U (sR (f:=dX) (v:=((255:UInt8) - Ub)) Fx U U U U (aB afH).2 U U)) U (ST.nil (And.intro (by decide +kernel) ?_))))))))))
      change SC _ _ _ _ _
      have q:=si h3;subst q
      exact aO (sm U (s1 (bi U U bH) (sa U (SO.nil (lf (Wk.trans (wq (e':=[(1,.d (eB p1)),(5,.ref 0 0 0),(7,.d (eI (bL (Kk+(1:Int)))))]) U) (Wk.Vd (id:=0) (y:=.agg [.slc 1 1 0 ((List.set Kj Kk.toNat ((255:UInt8) - Ub)).length) none]) (σ':=[.box (.agg [.slc 1 1 0 ((List.set Kj Kk.toNat ((255:UInt8) - Ub)).length) none]),.row 1 (List.map dX (List.set Kj Kk.toNat ((255:UInt8) - Ub))) true]) U (jX.cons (AW.slc U (by simp)) jX.nil) U)))))))
     ·have q:=si h3;subst q;have q:_=_:=hv3;subst q;have q:=si h1;subst q
      exact bZ ((wq U))
   ·rintro DU h0
    have q:=si h0;subst q
    exact sr (sm U (s1 (lu U) (s1 (far (k:=0) U l7 dV U) (s1 (bK U (ak dV lH U U)) (sa U (sn (aM (bM (Wk.trans (Wk.og (i:=4) (x:=.slc 1 1 0 DU.length none) U U (fF U U U)) (aC (e':=[(4,.d ((eL 1 dX) DU))]) [] [] U)) (bq U aW) U))))))))
noncomputable def qz (p0:List aj) (p1:List Bool):Option ((List UInt8)):=
 ah (α:=(List UInt8))
 (ah (α:=(List UInt8))
 (loop (Y:=(List UInt8)×Int) (W:=(List UInt8)) (fun (DW,ZL)=>
 bif (decide (ZL < (p0.length:Int))) then
 ah (bP p0 ZL) fun adE=>
 ah (bP p1 ZL) fun ag5=>
 ah (qV adE ag5) fun ahx=>
 bif decide ((DW.length+ahx.length)*1≤room) then
 some (Sum.inl ((DW++ahx),(bL (ZL+(1:Int)))))
 else none
 else
 some (Sum.inr DW)) (([]:List UInt8),(0:Int)))
 (fun e=>some e))
 fun iR=>
 some iR
theorem KY (p0:List aj) (p1:List Bool) (r:(List UInt8)) (h0:qz p0 p1=some r):aT Tryz.prog 137 [.d ((eL 3 au) p0),.d ((eL 1 eB) p1)] [] (.d (eS r)) []:=by
 unfold qz at h0
 refine fn0 [0,1] Tryz.func137 U U U U U ?_
 refine sr (s1 (jA (v:=.d (eS ([]:List UInt8))) U) (sn (sr (s1 (jA (v:=.d .dB) U) (sn (SC.dw h0 (fun y=>⟨mk 26 [(5,.slc 0 1 0 y.length none)],[.row 1 (List.map dX y) true]⟩) ?_ ?_))))))
 ·intro ar6 h1
  obtain ⟨arz,h2,h1⟩:=ob h1
  refine sr (sa U (sn (SC.blk (SC.eH h2 (fun y=>⟨mk 26 [(0,.d ((eL 3 au) p0)),(1,.d ((eL 1 eB) p1)),(5,.slc 0 1 0 y.1.length none),(6,.d (eI y.2))],[.row 1 (List.map dX y.1) true]⟩) (Wk.trans (Wk.nI (σ':=[.row 1 (List.map dX ([]:List UInt8)) true]) (.row 1 [] true) (fun _ hh=>by cases hh) U) (Wk.trans (Wk.env (e':=[(0,.d ((eL 3 au) p0)),(1,.d ((eL 1 eB) p1)),(5,.slc 0 1 0 (([]:List UInt8).length) none),(6,.d (eI (0:Int)))]) (EW.cons (AW.refl _) (EW.cons (AW.refl _) (EW.cons (AW.mH _ _ _) (EW.cons (AW.refl _) EW.nil))))) (wq U))) ?_))))
  intro n139
  rintro ⟨DW,ZL⟩ aqg h3 hv3
  refine sq (sr (sm U (sm U (s1 (len U U U (bN jJ)) (s1 (bi U U bB) (sn (cB h3 U (fun h3=>?_) (fun h3=>?_))))))))
  ·obtain ⟨adE,agl,h3⟩:=ob h3;obtain ⟨ag5,agk,h3⟩:=ob h3;obtain ⟨ahx,amg,h3⟩:=ob h3;obtain ⟨anf,h3⟩:=gd h3
   refine sk (sq (SC.blk (SC.draws (by kernel_rfl) (t1 aH (mv U) U (t1 aH (mv U) U (t1 aH (mv U) U (t1 aH (kV U U jJ gK (aB agl).1 (bI (aB agl).2) U) U (t1 aH (bK (v:=.d (au adE)) U (bY gK ny U)) U (t1 aH (mv U) U ?_)))))))))
   refine t1 aH (mv U) U (t1 aH (kV U U oQ nu (aB agk).1 (bI (aB agk).2) U) U (t1 aH (bK U (bY nu FB U)) U (Hg (Jz adE ag5 _ amg) wf U U U aoq U (fun _=>rfl) (fun _=>rfl) (t1 ([0,1],true) (app U U U U Co (aF (f:=dX) (xs:=DW) (k:=1) U eZ LZ U yg anf U)) U (t1 aH (jA U) U (ST.nil (And.intro (by decide +kernel) ?_)))))))
   change SC _ _ _ _ _
   have q:=si h3;subst q
   exact aO (sm U (s1 (bi U U bH) (sa U (SO.nil (lf (aC [1] [1] U))))))
  ·have q:=si h3;subst q;have q:_=_:=hv3;subst q;have q:=si h1;subst q
   exact bZ ((wq U))
 ·rintro iR h0
  have q:=si h0;subst q
  exact sr (sm U (s1 (AZ (v:=.d (eS iR)) U (oN eZ vk EU (dU (xs:=iR) U) (fun _ hh=>by cases hh))) (sa U (sn (aM (bM (aC (e':=[(4,.d (eS iR))]) [] [] U) (bq U aW) U))))))
noncomputable def qx (p0:List aX) (p1:List aj):Option ((List UInt8)×Bool):=
 ah (α:=(List aj)×(List Bool)×Bool)
 (ah (α:=(List aj)×(List Bool)×Bool)
 (loop (Y:=(List aj)×(List Bool)×Bool×Int) (W:=(List aj)×(List Bool)×Bool) (fun (Bc,E8,tZ,y157)=>
 bif (decide (y157 < (p0.length:Int))) then
 ah (bP p0 y157) fun aj9=>
 ah (bP p1 aj9.Col) fun KA=>
 bif decide ((Bc.length+[KA].length)*32≤room) then
 ah (bP p0 y157) fun Ue=>
 bif decide ((E8.length+[Ue.Down].length)*1≤room) then
 bif tZ then
 some (Sum.inl ((Bc++[KA]),(E8++[Ue.Down]),true,(bL (y157+(1:Int)))))
 else
 some (Sum.inl ((Bc++[KA]),(E8++[Ue.Down]),(KA.Kind==(0:Int)),(bL (y157+(1:Int)))))
 else none
 else none
 else
 some (Sum.inr (Bc,E8,tZ))) (([]:List aj),([]:List Bool),false,(0:Int)))
 (fun e=>some e))
 fun (ZG,ZF,agZ)=>
 ah (qz ZG ZF) fun ahs=>
 some (ahs,agZ)
theorem Br (p0:List aX) (p1:List aj) (r:(List UInt8)×Bool) (h0:qx p0 p1=some r):aT Tryz.prog 83 [.d ((eL 2 aK) p0),.d ((eL 3 au) p1)] [] (.tuple [.d (eS r.1),.d (eB r.2)]) []:=by
 unfold qx at h0
 refine fn0 [0,1] Tryz.func83 U U U U U ?_
 refine sr (s1 (jA (v:=.d (eS ([]:List UInt8))) U) (sa U (sn (sr (s1 (jA (v:=.d .dB) U) (sn (sr (s1 (jA (v:=.d .dB) U) (sn ?_)))))))))
 refine sr (sa U (sn (SC.dw h0 (fun y=>⟨mk 47 [(6,.slc 0 3 0 y.1.length none),(7,.slc 1 1 0 y.2.1.length none),(8,.d (eB y.2.2))],[.row 3 (List.map au y.1) true,.row 1 (List.map eB y.2.1) true]⟩) ?_ ?_)))
 ·intro ar0 h1
  obtain ⟨arp,h2,h1⟩:=ob h1
  refine sr (sa U (sn (SC.blk (SC.eH h2 (fun y=>⟨mk 47 [(0,.d ((eL 2 aK) p0)),(1,.d ((eL 3 au) p1)),(6,.slc 0 3 0 y.1.length none),(7,.slc 1 1 0 y.2.1.length none),(8,.d (eB y.2.2.1)),(9,.d (eI y.2.2.2))],[.row 3 (List.map au y.1) true,.row 1 (List.map eB y.2.1) true]⟩) (Wk.trans (Wk.nI (σ':=[.row 3 (List.map au ([]:List aj)) true]) (.row 3 [] true) (fun _ hh=>by cases hh) U) (Wk.trans (Wk.env (e':=[(0,.d ((eL 2 aK) p0)),(1,.d ((eL 3 au) p1)),(6,.slc 0 3 0 (([]:List aj).length) none),(7,.d .dB),(8,.d (eB false)),(9,.d (eI (0:Int)))]) (EW.cons (AW.refl _) (EW.cons (AW.refl _) (EW.cons (AW.mH _ _ _) (EW.cons (AW.refl _) (EW.cons (AW.refl _) (EW.cons (AW.refl _) EW.nil))))))) (Wk.trans (Wk.nI (σ':=[.row 3 (List.map au ([]:List aj)) true,.row 1 (List.map eB ([]:List Bool)) true]) (.row 1 [] true) (fun _ hh=>by cases hh) U) (Wk.trans (Wk.env (e':=[(0,.d ((eL 2 aK) p0)),(1,.d ((eL 3 au) p1)),(6,.slc 0 3 0 (([]:List aj).length) none),(7,.slc 1 1 0 (([]:List Bool).length) none),(8,.d (eB false)),(9,.d (eI (0:Int)))]) (EW.cons (AW.refl _) (EW.cons (AW.refl _) (EW.cons (AW.refl _) (EW.cons (AW.mH _ _ _) (EW.cons (AW.refl _) (EW.cons (AW.refl _) EW.nil))))))) (wq U))))) ?_))))
  intro n174
  rintro ⟨Bc,E8,tZ,y157⟩ aqe h3 hv3
  refine sq (sr (sm U (sm U (s1 (len U U U (bN xg)) (s1 (bi U U bB) (sn (cB h3 U (fun h3=>?_) (fun h3=>?_))))))))
  ·obtain ⟨aj9,agh,h3⟩:=ob h3;obtain ⟨KA,agf,h3⟩:=ob h3;obtain ⟨anb,h3⟩:=gd h3;obtain ⟨Ue,agd,h3⟩:=ob h3;obtain ⟨ana,h3⟩:=gd h3
   refine sk (sq (SC.blk (sr (sm U (sm U (sm U (s1 (kV U U xg Hf (aB agh).1 (bI (aB agh).2) U) (s1 (fap U Ce dH U) (s1 (bK U (bY dH gV U)) ?_)))))))))
   refine s1 (kV U U jJ gK (aB agf).1 (bI (aB agf).2) U) (s1 (bK (v:=.d (au KA)) U (bY gK ny U)) (s1 (yA (k:=2) Xm U) (s0 (jF U U (sB (d':=.d (au KA)) gK U U U U U U U)) (sn (sr (sm U (s1 (bK (v:=.d (au KA)) U (ak gK ny U U)) (s1 (rX (k:=3) (ds:=List.map au [KA]) (off:=0) (l':=[KA].length) U jJ EO U U (by rfl) U U U) (s1 (app U U U U YM (aF (f:=au) (xs:=Bc) (k:=4) U jJ EO U (dU (xs:=[KA]) U) anb U)) ?_)))))))))
   refine sa U (sn (sr (sm U (sm U (sm U (s1 (kV U U xg Hf (aB agd).1 (bI (aB agd).2) U) (s1 (fap U U0 nu U) (s1 (bK U (bY nu FB U)) (s1 (rX (k:=5) (ds:=List.map eB [Ue.Down]) (off:=0) (l':=[Ue.Down].length) U oQ TU U U (by rfl) U U U) ?_)))))))))
   refine s1 (app U U U U Tw (aF (f:=eB) (xs:=E8) (k:=6) U oQ TU U (dU (xs:=[Ue.Down]) U) ana U)) (sa U (sn (aO (sm U (sm U (sp h3 (fun h3=>?_) (fun h3=>?_)))))))
   ·refine kw U (kw U (kw U (s1 (pkt U U) (sa U (SO.nil ?_)))))
    change SC _ _ _ _ _
    have q:=si h3;subst q
    exact aO (sm U (s1 (bi U U bH) (sa U (SO.nil (lf (aC [4,6] [4,6] U))))))
   ·refine gw U (far (k:=0) U iG dH U) (gw U (bK U (ak dH gV U U)) (gw U (bi U U bD) (s1 (eT U U) (sa U (SO.nil ?_)))))
    change SC _ _ _ _ _
    have q:=si h3;subst q
    exact aO (sm U (s1 (bi U U bH) (sa U (SO.nil (lf (aC [4,6] [4,6] U))))))
  ·have q:=si h3;subst q;have q:_=_:=hv3;subst q;have q:=si h1;subst q
   exact bZ ((wq U))
 ·rintro ⟨ZG,ZF,agZ⟩ h0
  obtain ⟨ahs,al8,h0⟩:=ob h0;have q:=si h0;subst q
  exact sr (sm U (sm U (cq (args':=[.slc 0 3 0 ZG.length none,.slc 1 1 0 ZF.length none]) (lF:=[.row 3 (List.map au ZG) true,.row 1 (List.map eB ZF) true]) [0,1] [] (aT.og (iX.og (fF U U U) (iX.og (fF U U U) (iX.nil _))) (fq [] [] (KY ZG ZF _ al8) U U U U U U U U)) wf U U U aoC U U U U U U U U (sm U (sa U (sa U (sn (aM (bM (aC (e':=[(4,.d (eS ahs)),(5,.d (eB agZ))]) [] [] U) (bq U (bq U aW)) U)))))))))
noncomputable def fu (p0:aL) (p1:List aj):Option ((List UInt8)):=
 ah (yG p0.aR) fun PE=>
 ah (qx PE p1) fun (r15,r16)=>
 some r15
theorem ou (p0:aL) (p1:List aj) (r:(List UInt8)) (h0:fu p0 p1=some r):aT Tryz.prog 42 [.d (bE p0),.d ((eL 3 au) p1)] [] (.d (eS r)) []:=by
 unfold fu at h0
 refine fn0 [0,1] Tryz.func42 U U U U U ?_
 obtain ⟨PE,hq12,h0⟩:=ob h0;obtain ⟨⟨r15,r16⟩,aii,h0⟩:=ob h0;have q:=si h0;subst q
 refine sr (s1 (nN (k:=0) U U U) (s1 (jA (v:=.d (eS ([]:List UInt8))) U) (sn (sr (s1 (far (k:=2) U wR jf U) (s1 (bK U (ak jf vB U U)) (c0 (IV p0.aR _ hq12) wf U U U anP U (fun _=>rfl) (fun _=>rfl) (sm U (c0 (Br PE p1 _ aii) wf U U U anF U (fun _=>rfl) (fun _=>rfl) ?_)))))))))
 refine sm U (s1 (ext U U) (s1 (ext U U) (sa U (sa U (sn (sr (sm U (sa U (sn ?_)))))))))
 exact aM (bM (aC (e':=[(4,.d (eS r15))]) [] [] U) (bq U aW) U)
noncomputable def qW (p0:Bool) (p1:List UInt8):Option ((List UInt8)):=
 bif p0 then
 bif decide ((p1.length+[(1:UInt8)].length)*1≤room) then
 some (p1++[(1:UInt8)])
 else none
 else
 bif decide ((p1.length+[(0:UInt8)].length)*1≤room) then
 some (p1++[(0:UInt8)])
 else none
theorem FR (p0:Bool) (p1:List UInt8) (r:(List UInt8)) (h0:qW p0 p1=some r):aT Tryz.prog 138 [.ref 0 0 0,.d (eB p0)] [.box (.agg [.slc 1 1 0 p1.length none]),.row 1 (List.map dX p1) true] (.tuple []) [.box (.agg [.slc 2 1 0 r.length none]),.dead,.row 1 (List.map dX r) true]:=by
 unfold qW at h0
 refine fn0 [0,1] Tryz.func138 U U U U U ?_
 refine sr (sm U (sn (cB h0 U (fun h0=>?_) (fun h0=>?_))))
 ·obtain ⟨hg6,h0⟩:=gd h0;have q:=si h0;subst q
  refine aO (sm U (sm U (s1 (lu U) (s1 (far (k:=0) U l7 dV U) (s1 (bK U (ak dV lH U U)) (s1 (rX (k:=2) (ds:=List.map dX [(1:UInt8)]) (off:=0) (l':=[(1:UInt8)].length) U eZ LZ U U (by rfl) U U U) (s1 (app U U U U Co (aF (f:=dX) (xs:=p1) (k:=3) U eZ LZ U (dU (xs:=[(1:UInt8)]) U) hg6 U)) (s1 (lu U) (s1 (far (k:=0) U l7 dV U) ?_)))))))))
  exact s0 (jF U U (sB (d':=.agg [.slc 3 1 0 ((p1++[(1:UInt8)]).length) none]) dV U U U U U U U)) (SO.nil (vH (aC (e':=[]) [0,1,3] [0,1] U) aW U))
 ·obtain ⟨hg7,h0⟩:=gd h0;have q:=si h0;subst q
  refine aO (sm U (sm U (s1 (lu U) (s1 (far (k:=0) U l7 dV U) (s1 (bK U (ak dV lH U U)) (s1 (rX (k:=2) (ds:=List.map dX [(0:UInt8)]) (off:=0) (l':=[(0:UInt8)].length) U eZ LZ U U (by rfl) U U U) (s1 (app U U U U Co (aF (f:=dX) (xs:=p1) (k:=3) U eZ LZ U (dU (xs:=[(0:UInt8)]) U) hg7 U)) (s1 (lu U) (s1 (far (k:=0) U l7 dV U) ?_)))))))))
  exact s0 (jF U U (sB (d':=.agg [.slc 3 1 0 ((p1++[(0:UInt8)]).length) none]) dV U U U U U U U)) (SO.nil (vH (aC (e':=[]) [0,1,3] [0,1] U) aW U))
noncomputable def nR (p0:List UInt8) (p1:List UInt8):Option (Bool×(List UInt8)):=
 bif (decide ((p0.length:Int) > (65535:Int))) then
 some (false,p1)
 else
 ah (bU (uP (p0.length:Int)) (2:Int) p1) fun Uw=>
 bif decide ((Uw.length+p0.length)*1≤room) then
 some (true,(Uw++p0))
 else none
theorem FQ (p0:List UInt8) (p1:List UInt8) (r:Bool×(List UInt8)) (h0:nR p0 p1=some r):aT Tryz.prog 139 [.ref 0 0 0,.d (eS p0)] [.box (.agg [.slc 1 1 0 p1.length none]),.row 1 (List.map dX p1) true] (.d (eB r.1)) [.box (.agg [.slc 2 1 0 r.2.length none]),.dead,.row 1 (List.map dX r.2) true]:=by
 unfold nR at h0
 refine fn0 [0,1] Tryz.func139 U U U U U ?_
 refine sr (sa U (sn (sq (sr (sm U (s1 (len U U U (iV vk)) (s1 (bi U U dx) (sn (cB h0 U (fun h0=>?_) (fun h0=>?_))))))))))
 ·have q:=si h0;subst q
  exact sr (sa U (sn (aM (bM (Wk.trans (wq (e':=[(4,.d (eB false))]) U) (Wk.trans (Wk.move (e':=[(4,.d (eB false))]) (os:=[.box (.agg [.slc 2 1 0 p1.length none]),.row 1 (List.map dX p1) true]) (o:=.row 1 (List.map dX p1) true) (σ':=[.box (.agg [.slc 2 1 0 p1.length none]),.dead,.row 1 (List.map dX p1) true]) 1 (Nat.le_of_ble_eq_true U) U U U U) (wq (e':=[(4,.d (eB false))]) U))) (bq U aW) U))))
 ·obtain ⟨Uw,hq9,h0⟩:=ob h0;obtain ⟨aiI,h0⟩:=gd h0;have q:=si h0;subst q
  refine sk (sr (sm U (sm U (s1 (len U U U (iV vk)) (s1 (AZ U (Ma Rc Bh (p0.length:Int))) (cq [0,1] [2] (fO (uP (p0.length:Int)) (2:Int) p1 _ hq9) wf U U U JV U U U U U U U U (sn (sr (sm U ?_)))))))))
  refine sm U (s1 (lu U) (s1 (far (k:=0) U l7 dV U) (s1 (bK U (ak dV lH U U)) (sm U (s1 (app U U U U bc9 (aF (f:=dX) (xs:=Uw) (k:=3) U eZ LZ U ab1 aiI U)) (s1 (lu U) (s1 (far (k:=0) U l7 dV U) (s0 (jF U U (sB (d':=.agg [.slc 3 1 0 ((Uw++p0).length) none]) dV U U U U U U U)) (sn ?_)))))))))
  exact sr (sa U (sn (aM (bM (Wk.trans (wq (e':=[(4,.d (eB true))]) U) (aC (e':=[(4,.d (eB true))]) [0,1,3] [0,1] U)) (bq U aW) U))))
noncomputable def yH (p0:aj) (p1:List UInt8):Option ((List UInt8)):=
 ah (qW (p0.Kind==(0:Int)) p1) fun Zr=>
 ah (α:=Bool)
 (bif (p0.Kind==(1:Int)) then
 some (p0.Kind==(1:Int))
 else
 some (p0.Kind==(2:Int)))
 fun A9=>
 bif A9 then
 ah (bU p0.N (8:Int) Zr) fun r33=>
 some r33
 else
 bif (p0.Kind==(3:Int)) then
 ah (bU p0.N (1:Int) Zr) fun r35=>
 some r35
 else
 ah (α:=Bool)
 (bif (p0.Kind==(4:Int)) then
 some (p0.Kind==(4:Int))
 else
 some (p0.Kind==(5:Int)))
 fun y36=>
 bif y36 then
 ah (nR p0.S Zr) fun (r39,r40)=>
 some r40
 else
 some Zr
theorem Pm (p0:aj) (p1:List UInt8) (r:(List UInt8)) (h0:yH p0 p1=some r):aT Tryz.prog 85 [.ref 0 0 0,.d (au p0)] [.box (.agg [.slc 1 1 0 p1.length none]),.row 1 (List.map dX p1) true] (.tuple []) [.box (.agg [.slc 2 1 0 r.length none]),.dead,.row 1 (List.map dX r) true]:=by
 unfold yH at h0
 refine fn0 [0,1] Tryz.func85 U U U U U ?_
 obtain ⟨Zr,as8,h0⟩:=ob h0
 refine sr (s1 (nN (k:=2) U U U) (sn (sr (sm U (s1 (far (k:=0) U iG dH U) (s1 (bK U (ak dH gV U U)) (s1 (bi U U bD) (cq [0,1] [3] (FR (p0.Kind==(0:Int)) p1 _ as8) wf U U U aoB U U U U U U U U (sn ?_)))))))))
 refine sr (s1 (far (k:=0) U iG dH U) (s1 (bK U (ak dH gV U U)) (sn (SC.blk (SC.dw h0 (fun y=>⟨mk 31 [(0,.ref 0 0 0),(3,.ref 2 0 0),(10,.d (eI p0.Kind)),(11,.d (eB y))],[.box (.agg [.slc 3 1 0 Zr.length none]),.dead,.box (.d (au p0)),.row 1 (List.map dX Zr) true]⟩) ?_ ?_)))))
 ·intro afq h1
  refine sr (s1 (bi U U bD) (sa U (sn (cB h1 U (fun h1=>?_) (fun h1=>?_)))))
  ·have q:=si h1;subst q
   exact bR ((wq U))
  ·have q:=si h1;subst q
   exact aO (s1 (bi U U bD) (sa U (SO.nil ((wq U)))))
 ·rintro A9 h0
  refine cB h0 U (fun h0=>?_) (fun h0=>?_)
  ·obtain ⟨r33,as6,h0⟩:=ob h0;have q:=si h0;subst q
   exact aO (sm U (s1 (far (k:=1) U j3 iK U) (s1 (bK U (ak iK qN U U)) (cq [0,3] [4] (fO p0.N (8:Int) Zr _ as6) wf U U U JV U U U U U U U U (SO.nil (vH (aC (e':=[]) [0,1,4] [0,1] U) aW U))))))
  ·refine sr (s1 (bi U U bD) (sa U (sn (cB h0 U (fun h0=>?_) (fun h0=>?_)))))
   ·obtain ⟨r35,as5,h0⟩:=ob h0;have q:=si h0;subst q
    exact aO (sm U (s1 (far (k:=1) U j3 iK U) (s1 (bK U (ak iK qN U U)) (cq [0,3] [4] (fO p0.N (1:Int) Zr _ as5) wf U U U JV U U U U U U U U (SO.nil (vH (aC (e':=[]) [0,1,4] [0,1] U) aW U))))))
   ·refine SC.dw h0 (fun y=>⟨mk 31 [(0,.ref 0 0 0),(3,.ref 2 0 0),(24,.d (eB y))],[.box (.agg [.slc 3 1 0 Zr.length none]),.dead,.box (.d (au p0)),.row 1 (List.map dX Zr) true]⟩) ?_ ?_
    ·intro aak h1
     refine sr (s1 (bi U U bD) (sa U (sn (cB h1 U (fun h1=>?_) (fun h1=>?_)))))
     ·have q:=si h1;subst q
      exact bR ((wq U))
     ·have q:=si h1;subst q
      exact aO (s1 (bi U U bD) (sa U (SO.nil ((wq U)))))
    ·rintro y36 h0
     refine cB h0 U (fun h0=>?_) (fun h0=>?_)
     ·obtain ⟨⟨r39,r40⟩,ahW,h0⟩:=ob h0;have q:=si h0;subst q
      exact aO (sm U (s1 (far (k:=2) U jZ iA U) (s1 (bK U (ak iA qw U U)) (cq [0,3] [4] (FQ p0.S Zr _ ahW) wf U U U aoA U U U U U U U U (SO.nil (vH (aC (e':=[]) [0,1,4] [0,1] U) aW U))))))
     ·have q:=si h0;subst q
      exact bR (vH (aC (e':=[]) [0,1,3] [0,1] U) aW U)
noncomputable def qy (p0:List aj):Option ((List UInt8)):=
 ah (jI (uP (p0.length:Int)) (1:Int)) fun r75=>
 ah (α:=(List UInt8))
 (ah (α:=(List UInt8))
 (loop (Y:=Int×(List UInt8)) (W:=(List UInt8)) (fun (Xn,y98)=>
 bif (decide (Xn < (p0.length:Int))) then
 ah (bP p0 Xn) fun adG=>
 ah (yH adG y98) fun akT=>
 some (Sum.inl ((bL (Xn+(1:Int))),akT))
 else
 some (Sum.inr y98)) ((0:Int),r75))
 (fun e=>some e))
 fun TW=>
 some TW
theorem Bv (p0:List aj) (r:(List UInt8)) (h0:qy p0=some r):aT Tryz.prog 43 [.d ((eL 3 au) p0)] [] (.d (eS r)) []:=by
 unfold qy at h0
 refine fn0 [0] Tryz.func43 U U U U U ?_
 obtain ⟨r75,asV,h0⟩:=ob h0
 refine sr (s1 (jA (v:=.d (eS ([]:List UInt8))) U) (sn (sr (s1 (vg U (acw )) (s1 (nN (k:=0) U U U) (sa U (sn (sr (sm U ?_)))))))))
 refine sm U (s1 (len U U U (bN jJ)) (s1 (AZ U (Ma Rc Bh (p0.length:Int))) (cq [0] [1] (sI (uP (p0.length:Int)) (1:Int) _ asV) wf U U U JV U U U U U U U U (sn (SC.dw h0 (fun y=>⟨mk 29 [(3,.ref 0 0 0)],[.box (.agg [.slc 1 1 0 y.length none]),.row 1 (List.map dX y) true]⟩) ?_ ?_)))))
 ·intro auI h1
  obtain ⟨arE,h2,h1⟩:=ob h1
  refine sr (sa U (sn (SC.blk (SC.eH h2 (fun y=>⟨mk 29 [(0,.d ((eL 3 au) p0)),(3,.ref 0 0 0),(4,.d (eI y.1))],[.box (.agg [.slc 1 1 0 y.2.length none]),.row 1 (List.map dX y.2) true]⟩) (wq U) ?_))))
  intro n109
  rintro ⟨Xn,y98⟩ aqk h3 hv3
  refine sq (sr (sm U (sm U (s1 (len U U U (bN jJ)) (s1 (bi U U bB) (sn (cB h3 U (fun h3=>?_) (fun h3=>?_))))))))
  ·obtain ⟨adG,ags,h3⟩:=ob h3;obtain ⟨akT,amt,h3⟩:=ob h3
   refine sk (sq (SC.blk (aO (sm U (sm U (sm U (s1 (kV U U jJ gK (aB ags).1 (bI (aB ags).2) U) (s1 (bK (v:=.d (au adG)) U (bY gK ny U)) (cq [0,1] [2] (Pm adG y98 _ amt) wf U U U atH U U U U U U U U ?_)))))))))
   refine SO.nil ?_
   change SC _ _ _ _ _
   have q:=si h3;subst q
   exact aO (sm U (s1 (bi U U bH) (sa U (SO.nil (lf (aC [0,2] [0] U))))))
  ·have q:=si h3;subst q;have q:_=_:=hv3;subst q;have q:=si h1;subst q
   exact bZ ((wq U))
 ·rintro TW h0
  have q:=si h0;subst q
  exact sr (sm U (s1 (lu U) (s1 (far (k:=0) U l7 dV U) (s1 (bK U (ak dV lH U U)) (s1 (AZ (v:=.d (eS TW)) U (oN eZ vk EU (dU (xs:=TW) U) (fun _ hh=>by cases hh))) (sa U (sn (aM (bM (aC (e':=[(2,.d (eS TW))]) [] [] U) (bq U aW) U)))))))))
noncomputable def jG (p0:aQ) (p1:mD):Option aQ:=
 fP (Y:=Unit) (E:=aQ)
 (bif (p1.Kind==(1:Int)) then
 some (Sum.inr (aQ.mk true p1.Val))
 else
 bif (p1.Kind==(2:Int)) then
 some (Sum.inr (aQ.mk false ([]:List UInt8)))
 else
 bif (p1.Kind==(3:Int)) then
 ah (α:=Bool)
 (bif (!p0.has) then
 some true
 else
 bif (decide (p1.Off < (0:Int))) then
 some true
 else
 some (decide (p1.Off > (bL ((p0.s.length:Int) - (8:Int))))))
 fun ajO=>
 bif ajO then
 some (Sum.inr p0)
 else
 ah (α:=(List UInt8))
 (ah (α:=(List UInt8))
 (loop (Y:=(List UInt8)×Int×Int) (W:=(List UInt8)) (fun (ZB,Q5,Ba)=>
 bif (decide (Ba≥(0:Int))) then
 ah (bP ZB (bL (p1.Off+Ba))) fun OY=>
 bif decide (0≤(bL ((56:Int) - (bL ((8:Int)*Ba))))) then
 ah (bP ZB (bL (p1.Off+Ba))) fun aqs=>
 some (Sum.inl ((List.set ZB ((bL (p1.Off+Ba)).toNat) (O5 (bL ((bL ((OY.toNat:Int)+(((dO p1.Num ((bL ((56:Int) - (bL ((8:Int)*Ba)))).toNat)).toUInt8).toNat:Int)))+Q5)))),(bL (Int.tdiv (bL ((bL ((OY.toNat:Int)+(((dO p1.Num ((bL ((56:Int) - (bL ((8:Int)*Ba)))).toNat)).toUInt8).toNat:Int)))+Q5)) (256:Int))),(bL (Ba - (1:Int)))))
 else none
 else
 some (Sum.inr ZB)) (p0.s,(0:Int),(7:Int)))
 (fun e=>some e))
 fun Xy=>
 some (Sum.inr (aQ.mk true Xy))
 else
 bif (p1.Kind==(4:Int)) then
 ah (α:=Bool)
 (bif (!p0.has) then
 some true
 else
 bif (p0.s==([]:List UInt8)) then
 some true
 else
 bif (decide (p1.Off < (0:Int))) then
 some true
 else
 bif (decide (p1.Off > (255:Int))) then
 some true
 else
 ah (bP p0.s (0:Int)) fun Uc=>
 bif ((Uc.toNat:Int) != p1.Off) then
 some true
 else
 some (decide ((bL ((p0.s.length:Int)+(p1.Val.length:Int))) > (512:Int))))
 fun ajN=>
 bif ajN then
 some (Sum.inr p0)
 else
 bif decide (0≤(1:Int)∧(1:Int)≤(p0.s.length:Int)) then
 bif decide ([(O5 (bL (p1.Off+(1:Int))))].length+(List.drop (1:Int).toNat p0.s).length≤9223372036854775807) then
 bif decide (([(O5 (bL (p1.Off+(1:Int))))]++(List.drop (1:Int).toNat p0.s)).length+p1.Val.length≤9223372036854775807) then
 some (Sum.inr (aQ.mk true (([(O5 (bL (p1.Off+(1:Int))))]++(List.drop (1:Int).toNat p0.s))++p1.Val)))
 else none
 else none
 else none
 else
 some (Sum.inl ()))
 (fun _=>
 some p0)
 (fun e=>some e)
theorem oC (p0:aQ) (p1:mD) (r:aQ) (h0:jG p0 p1=some r):aT Tryz.prog 102 [.d (aZ p0),.d (gU p1)] [] (.d (aZ r)) [.box (.d (aZ r))]:=by
 unfold jG at h0
 refine fn0 [0,1] Tryz.func102 U U U U U ?_
 refine sr (s1 (nN (k:=0) U U U) (s1 (nN (k:=1) U U U) (s1 (yA (k:=2) Zt U) (sn (SC.seqB h0 (fun y=>⟨mk 133 [(2,.ref 0 0 0),(4,.ref 1 0 0)],[.box (.d (aZ p0)),.box (.d (aZ (aQ.mk false ([]:List UInt8))))]⟩) ?_ ?_)))))
 ·intro ahd h1 h0
  refine sr (s1 (far (k:=1) U Ib dH U) (s1 (bK U (ak dH gV U U)) (sn (SC.blk (sr (s1 (bi U U bD) (sa U (sn (cB h1 U (fun h1=>?_) (fun h1=>?_))))))))))
  ·have q:=si h1;subst q;have q:=si h0;subst q
   exact sr (s1 (far (k:=4) U U2 iA U) (s1 (bK U (ak iA qw U U)) (s1 (vg U (yX true p1.Val)) (s0 (jF U U (sB (d':=.d (aZ (aQ.mk true p1.Val))) jN U U U U U U U)) (sn (aM (bM (aC (e':=[(4,.ref 0 0 0)]) [2] [2] U) (xE U (ak jN u6 U U) aW) U)))))))
  ·refine sr (s1 (bi U U bD) (sa U (sn (cB h1 U (fun h1=>?_) (fun h1=>?_)))))
   ·have q:=si h1;subst q;have q:=si h0;subst q
    exact sr (s1 (vg U (ajc )) (s0 (jF U U (sB (d':=.d (aZ (aQ.mk false ([]:List UInt8)))) jN U U U U U U U)) (sn (aM (bM (aC (e':=[(4,.ref 0 0 0)]) [2] [2] U) (xE U (ak jN u6 U U) aW) U)))))
   ·refine sr (s1 (bi U U bD) (sa U (sn (cB h1 U (fun h1=>?_) (fun h1=>?_)))))
    ·refine sq (SC.dw h1 (fun y=>⟨mk 133 [(2,.ref 0 0 0),(3,.ref 1 0 0),(4,.ref 2 0 0),(37,.d (eB y))],[.box (.d (aZ p0)),.box (.d (gU p1)),.box (.d (aZ (aQ.mk false ([]:List UInt8))))]⟩) ?_ ?_)
     ·intro arl h2
      refine aO (s1 (far (k:=0) U Gn nu U) (s1 (bK U (ak nu FB U U)) (s1 (nt U) (sm U (sp h2 (fun h2=>?_) (fun h2=>?_))))))
      ·have q:=si h2;subst q
       refine kw U (kw U (kw U (s1 (pkt U U) (sm U (kw U (kw U (kw U (kw U (kw U ?_)))))))))
       exact kw U (kw U (s1 (pkt U U) (SO.nil ((wq U)))))
      ·refine gw U (far (k:=5) U zN dH U) (gw U (bK U (ak dH gV U U)) (gw U (bi U U bB) (s1 (eT U U) (sm U (sp h2 (fun h2=>?_) (fun h2=>?_))))))
       ·have q:=si h2;subst q
        exact kw U (kw U (kw U (kw U (kw U (kw U (kw U (s1 (pkt U U) (SO.nil ((wq U))))))))))
       ·have q:=si h2;subst q
        exact gw U (far (k:=5) U zN dH U) (gw U (bK U (ak dH gV U U)) (gw U (far (k:=1) U xI iA U) (gw U (bK U (ak iA qw U U)) (gw U (len U U U (iV vk)) (gw U (bi U U gX) (gw U (bi U U dx) (s1 (eT U U) (SO.nil ((wq U))))))))))
     ·rintro ajO h1
      refine cB h1 U (fun h1=>?_) (fun h1=>?_)
      ·have q:=si h1;subst q;have q:=si h0;subst q
       exact sr (s1 (bK (v:=.d (aZ p0)) U (ak jN u6 U U)) (s0 (jF U U (sB (d':=.d (aZ p0)) jN U U U U U U U)) (sn (aM (bM (aC (e':=[(4,.ref 0 0 0)]) [2] [2] U) (xE U (ak jN u6 U U) aW) U)))))
      ·refine sk (sr (s1 (far (k:=1) U xI iA U) (s1 (bK U (ak iA qw U U)) (s1 (cvs (s:=p0.s) (k:=3) U vk eZ EU Fx U) (sa U (sn (sr (sa U (sn ?_)))))))))
       refine SC.dw h1 (fun y=>⟨mk 133 [(4,.ref 0 0 0),(5,.slc 1 1 0 y.length none)],[.box (.d (aZ (aQ.mk false ([]:List UInt8)))),.row 1 (List.map dX y) true]⟩) ?_ ?_
       ·intro ark h2
        obtain ⟨aq0,h3,h2⟩:=ob h2
        refine sr (sa U (sn (SC.blk (SC.eH h3 (fun y=>⟨mk 133 [(3,.ref 0 0 0),(4,.ref 1 0 0),(5,.slc 2 1 0 y.1.length none),(6,.d (eI y.2.1)),(7,.d (eI y.2.2))],[.box (.d (gU p1)),.box (.d (aZ (aQ.mk false ([]:List UInt8)))),.row 1 (List.map dX y.1) true]⟩) (aC [1,2,3] [1,2,3] U) ?_))))
        intro n279
        rintro ⟨ZB,Q5,Ba⟩ apZ h4 hv4
        refine sq (sr (sm U (s1 (bi U U fU) (sn (cB h4 U (fun h4=>?_) (fun h4=>?_))))))
        ·obtain ⟨OY,af7,h4⟩:=ob h4;obtain ⟨am6,h4⟩:=gd h4;obtain ⟨aqs,af6,h4⟩:=ob h4
         refine sk (sq (SC.blk (sd (by kernel_rfl) (t1 aH (mv U) U (t1 aH (far (k:=5) U zN dH U) U (t1 ([0],false) (bK U (ak dH gV U U)) U (t1 aH (mv U) U (t1 aH (bi U U bH) U (t1 aH (Yz U U eZ Fx (pO af7)) U ?_)))))))))
         refine t1 ([2],false) (bK U (jD Fx ta5 U (bI (aB af7).2) U)) U (t1 aH (AZ U (qG EU Rc OY)) U (t1 aH (far (k:=6) U aiM iK U) U (t1 ([0],false) (bK U (ak iK qN U U)) U (t1 aH (mv U) U (t1 aH (bi U U vN) U (t1 aH (bi U U gX) U (t1 aH (bi (v:=.d (eX (dO p1.Num ((bL ((56:Int) - (bL ((8:Int)*Ba)))).toNat)))) U U (fun X Y=>CV _ X Y p1.Num _ am6)) U (t1 aH (AZ U (vP Bh EU (dO p1.Num ((bL ((56:Int) - (bL ((8:Int)*Ba)))).toNat)))) U (t1 aH (AZ U (qG EU Rc ((dO p1.Num ((bL ((56:Int) - (bL ((8:Int)*Ba)))).toNat)).toUInt8))) U ?_)))))))))
         refine t1 aH (bi U U bH) U (t1 aH (mv U) U (t1 aH (bi U U bH) U (t1 aH (jA U) U (tn (by decide +kernel) (sr (sm U (s1 (far (k:=5) U zN dH U) (s1 (bK U (ak dH gV U U)) (sm U ?_)))))))))
         refine s1 (bi U U bH) (sm U (s1 (AZ U (Ox Rc EU (bL ((bL ((OY.toNat:Int)+(((dO p1.Num ((bL ((56:Int) - (bL ((8:Int)*Ba)))).toNat)).toUInt8).toNat:Int)))+Q5)))) (s1 (Yz U U eZ Fx (pO af6)) (s0 (jF (b:=.d (dX (O5 (bL ((bL ((OY.toNat:Int)+(((dO p1.Num ((bL ((56:Int) - (bL ((8:Int)*Ba)))).toNat)).toUInt8).toNat:Int)))+Q5))))) U U (sR (f:=dX) (v:=(O5 (bL ((bL ((OY.toNat:Int)+(((dO p1.Num ((bL ((56:Int) - (bL ((8:Int)*Ba)))).toNat)).toUInt8).toNat:Int)))+Q5)))) Fx U U U U (aB af6).2 U U)) (sn (aO (sm U (s1 (bi (v:=.d (eI (bL (Int.tdiv (bL ((bL ((OY.toNat:Int)+(((dO p1.Num ((bL ((56:Int) - (bL ((8:Int)*Ba)))).toNat)).toUInt8).toNat:Int)))+Q5)) (256:Int))))) U U (fun X Y=>OD _ X Y (bL ((bL ((OY.toNat:Int)+(((dO p1.Num ((bL ((56:Int) - (bL ((8:Int)*Ba)))).toNat)).toUInt8).toNat:Int)))+Q5)) (256:Int) (by decide))) (sa U ?_)))))))))
         refine SO.nil ?_
         change SC _ _ _ _ _
         have q:=si h4;subst q
         exact aO (sm U (s1 (bi U U gX) (sa U (SO.nil (lf (Wk.env (EW.cons (AW.refl _) (EW.cons (AW.refl _) (EW.cons (AW.slc U (by simp)) (EW.cons (AW.refl _) (EW.cons (AW.refl _) EW.nil)))))))))))
        ·have q:=si h4;subst q;have q:_=_:=hv4;subst q;have q:=si h2;subst q
         exact bZ ((aC [1,2] [1,2] U))
       ·rintro Xy h1
        have q:=si h1;subst q;have q:=si h0;subst q
        exact sr (sm U (s1 (AZ (v:=.d (eS Xy)) U (oN eZ vk EU (dU (xs:=Xy) U) (fun _ hh=>by cases hh))) (s1 (vg U (yX true Xy)) (s0 (jF U U (sB (d':=.d (aZ (aQ.mk true Xy))) jN U U U U U U U)) (sn (aM (bM (aC (e':=[(4,.ref 0 0 0)]) [0] [0] U) (xE U (ak jN u6 U U) aW) U)))))))
    ·refine sr (s1 (bi U U bD) (sa U (sn (cB h1 U (fun h1=>?_) (fun h1=>?_)))))
     ·refine sq (SC.dw h1 (fun y=>⟨mk 133 [(2,.ref 0 0 0),(3,.ref 1 0 0),(4,.ref 2 0 0),(116,.d (eB y))],[.box (.d (aZ p0)),.box (.d (gU p1)),.box (.d (aZ (aQ.mk false ([]:List UInt8))))]⟩) ?_ ?_)
      ·intro ari h2
       refine SC.draws (by kernel_rfl) (t1 aH (far (k:=0) U Gn nu U) U (t1 ([0],false) (bK U (ak nu FB U U)) U (t1 aH (nt U) U (t1 aH (mv U) U (tp h2 (fun h2=>?_) (fun h2=>?_))))))
       ·have q:=si h2;subst q
        refine jw U (jw U (jw U (t1 aH (pkt U U) U (t1 aH (mv U) U (jw U (jw U (jw U (t1 aH (pkt U U) U (t1 aH (mv U) U ?_)))))))))
        refine jw U (jw U (jw U (t1 aH (pkt U U) U (t1 aH (mv U) U (jw U (jw U (jw U (jw U (jw U ?_)))))))))
        refine jw U (jw U (t1 aH (pkt U U) U (t1 aH (mv U) U (jw U (jw U (jw U (jw U (jw U (jw U ?_)))))))))
        refine jw U (jw U (t1 aH (pkt U U) U (ST.nil (And.intro (by decide +kernel) ?_))))
        exact (wq U)
       ·refine u1 aH (ww U) (far (k:=1) U xI iA U) U (u1 ([0],false) (ww U) (bK U (ak iA qw U U)) U (u1 aH (ww U) (bi U U (mV (b:=([]:List UInt8)))) U (t1 aH (eT U U) U (t1 aH (mv U) U (tp h2 (fun h2=>?_) (fun h2=>?_))))))
        ·have q:=si h2;subst q
         refine jw U (jw U (jw U (t1 aH (pkt U U) U (t1 aH (mv U) U (jw U (jw U (jw U (t1 aH (pkt U U) U (t1 aH (mv U) U ?_)))))))))
         refine jw U (jw U (jw U (jw U (jw U (jw U (jw U (t1 aH (pkt U U) U (t1 aH (mv U) U (jw U ?_)))))))))
         refine jw U (jw U (jw U (jw U (jw U (jw U (jw U (t1 aH (pkt U U) U (ST.nil (And.intro (by decide +kernel) ?_)))))))))
         exact (wq U)
        ·refine u1 aH (ww U) (far (k:=5) U zN dH U) U (u1 ([1],false) (ww U) (bK U (ak dH gV U U)) U (u1 aH (ww U) (bi U U bB) U (t1 aH (eT U U) U (t1 aH (mv U) U (tp h2 (fun h2=>?_) (fun h2=>?_))))))
         ·have q:=si h2;subst q
          refine jw U (jw U (jw U (t1 aH (pkt U U) U (t1 aH (mv U) U (jw U (jw U (jw U (jw U (jw U ?_)))))))))
          refine jw U (jw U (t1 aH (pkt U U) U (t1 aH (mv U) U (jw U (jw U (jw U (jw U (jw U (jw U ?_)))))))))
          refine jw U (jw U (t1 aH (pkt U U) U (ST.nil (And.intro (by decide +kernel) ?_))))
          exact (wq U)
         ·refine u1 aH (ww U) (far (k:=5) U zN dH U) U (u1 ([1],false) (ww U) (bK U (ak dH gV U U)) U (u1 aH (ww U) (bi U U dx) U (t1 aH (eT U U) U (t1 aH (mv U) U (tp h2 (fun h2=>?_) (fun h2=>?_))))))
          ·have q:=si h2;subst q
           refine jw U (jw U (jw U (jw U (jw U (jw U (jw U (t1 aH (pkt U U) U (t1 aH (mv U) U (jw U ?_)))))))))
           refine jw U (jw U (jw U (jw U (jw U (jw U (jw U (t1 aH (pkt U U) U (ST.nil (And.intro (by decide +kernel) ?_)))))))))
           exact (wq U)
          ·obtain ⟨Uc,SH,h2⟩:=ob h2
           refine u1 aH (ww U) (far (k:=1) U xI iA U) U (u1 ([0],false) (ww U) (bK U (ak iA qw U U)) U (u1 aH (ww U) (ixs U U U U (nC vk (aB SH).1 (aB SH).2)) U (u1 aH (ww U) (AZ U (qG EU Rc Uc)) U (u1 aH (ww U) (far (k:=5) U zN dH U) U (u1 ([1],false) (ww U) (bK U (ak dH gV U U)) U (u1 aH (ww U) (bi U U dA) U (t1 aH (eT U U) U (t1 aH (mv U) U (tp h2 (fun h2=>?_) (fun h2=>?_))))))))))
           ·have q:=si h2;subst q
            refine jw U (jw U (jw U (jw U (jw U (jw U (jw U (jw U (t1 aH (pkt U U) U (ST.nil (And.intro (by decide +kernel) ?_))))))))))
            exact (wq U)
           ·have q:=si h2;subst q
            refine u1 aH (ww U) (far (k:=1) U xI iA U) U (u1 ([0],false) (ww U) (bK U (ak iA qw U U)) U (u1 aH (ww U) (len U U U (iV vk)) U (u1 aH (ww U) (far (k:=4) U U2 iA U) U (u1 ([1],false) (ww U) (bK U (ak iA qw U U)) U (u1 aH (ww U) (len U U U (iV vk)) U (u1 aH (ww U) (bi U U bH) U (u1 aH (ww U) (bi U U dx) U (t1 aH (eT U U) U (ST.nil (And.intro (by decide +kernel) ?_))))))))))
            exact (wq U)
      ·rintro ajN h1
       refine cB h1 U (fun h1=>?_) (fun h1=>?_)
       ·have q:=si h1;subst q;have q:=si h0;subst q
        exact sr (s1 (bK (v:=.d (aZ p0)) U (ak jN u6 U U)) (s0 (jF U U (sB (d':=.d (aZ p0)) jN U U U U U U U)) (sn (aM (bM (aC (e':=[(4,.ref 0 0 0)]) [2] [2] U) (xE U (ak jN u6 U U) aW) U)))))
       ·obtain ⟨am4,h1⟩:=gd h1;obtain ⟨am3,h1⟩:=gd h1;obtain ⟨am2,h1⟩:=gd h1;have q:=si h1;subst q;have q:=si h0;subst q
        refine sk (sd (by kernel_rfl) (t1 aH (far (k:=5) U zN dH U) U (t1 ([1],false) (bK U (ak dH gV U U)) U (t1 aH (bi U U bH) U (t1 aH (AZ U (Ox Rc EU (bL (p1.Off+(1:Int))))) U (t1 ([3],true) (rX (k:=3) (ds:=List.map dX [(O5 (bL (p1.Off+(1:Int))))]) (off:=0) (l':=[(O5 (bL (p1.Off+(1:Int))))].length) U eZ LZ U U (by rfl) U U U) U (t1 ([3],false) (AZ (v:=.d (eS [(O5 (bL (p1.Off+(1:Int))))])) U (oN eZ vk EU (dU (xs:=[(O5 (bL (p1.Off+(1:Int))))]) U) (fun _ hh=>by cases hh))) U (t1 aH (far (k:=1) U xI iA U) U (t1 ([0],false) (bK U (ak iA qw U U)) U ?_)))))))))
        exact t1 aH (NT U U U U (XO vk am4)) U (t1 aH (bi (v:=.d (eS ([(O5 (bL (p1.Off+(1:Int))))]++(List.drop (1:Int).toNat p0.s)))) U U (fun X Y=>Ir _ X Y [(O5 (bL (p1.Off+(1:Int))))] (List.drop (1:Int).toNat p0.s) am3)) U (t1 aH (far (k:=4) U U2 iA U) U (t1 ([1],false) (bK U (ak iA qw U U)) U (t1 aH (bi (v:=.d (eS (([(O5 (bL (p1.Off+(1:Int))))]++(List.drop (1:Int).toNat p0.s))++p1.Val))) U U (fun X Y=>Ir _ X Y ([(O5 (bL (p1.Off+(1:Int))))]++(List.drop (1:Int).toNat p0.s)) p1.Val am2)) U (t1 aH (vg U (yX true (([(O5 (bL (p1.Off+(1:Int))))]++(List.drop (1:Int).toNat p0.s))++p1.Val))) U (t0 ([2],true) (jF U U (sB (d':=.d (aZ (aQ.mk true (([(O5 (bL (p1.Off+(1:Int))))]++(List.drop (1:Int).toNat p0.s))++p1.Val)))) jN U U U U U U U)) U (tn (by decide +kernel) (aM (bM (aC (e':=[(4,.ref 0 0 0)]) [2] [2] U) (xE U (ak jN u6 U U) aW) U)))))))))
     ·have q:=si h1;subst q
      exact bR (lf (aC [0,2] [0,2] U))
 ·intro _ h0
  have q:=si h0;subst q
  exact sr (s1 (bK (v:=.d (aZ p0)) U (ak jN u6 U U)) (s0 (jF U U (sB (d':=.d (aZ p0)) jN U U U U U U U)) (sn (aM (bM (aC (e':=[(4,.ref 0 0 0)]) [1] [1] U) (xE U (ak jN u6 U U) aW) U)))))
noncomputable def jH (p0:aU) (p1:mD):Option aU:=
 ah (α:=UInt64×aQ×aQ)
 (ah (α:=Bool)
 (bif (p1.Kind==(1:Int)) then
 some (p1.Kind==(1:Int))
 else
 bif (p1.Kind==(2:Int)) then
 some (p1.Kind==(2:Int))
 else
 some (p1.Kind==(3:Int)))
 fun ZJ=>
 bif ZJ then
 bif (p1.Ki==(0:UInt64)) then
 ah (jG (aQ.mk p0.Has p0.Val) p1) fun ahw=>
 some (p0.Ki,ahw,(aQ.mk p0.New p0.kM))
 else
 ah (α:=Bool)
 (bif (p1.Kind != (3:Int)) then
 some true
 else
 some (decide (p1.Off≥(0:Int))))
 fun ajQ=>
 bif ajQ then
 ah (α:=UInt64×aQ)
 (bif (p0.Ki==(0:UInt64)) then
 some (p1.Ki,(aQ.mk p0.Has p0.Val))
 else
 some (p0.Ki,(aQ.mk p0.New p0.kM)))
 fun (adt,ZH)=>
 bif (adt==p1.Ki) then
 ah (jG ZH p1) fun ahv=>
 some (adt,(aQ.mk p0.Has p0.Val),ahv)
 else
 some (adt,(aQ.mk p0.Has p0.Val),ZH)
 else
 some (p0.Ki,(aQ.mk p0.Has p0.Val),(aQ.mk p0.New p0.kM))
 else
 bif (p1.Kind==(4:Int)) then
 ah (jG (aQ.mk p0.Has p0.Val) p1) fun ahu=>
 ah (jG (aQ.mk p0.New p0.kM) p1) fun aht=>
 some (p0.Ki,ahu,aht)
 else
 ah (α:=Bool)
 (bif (p1.Kind==(5:Int)) then
 some (p1.Kind==(5:Int))
 else
 some (p1.Kind==(6:Int)))
 fun y150=>
 bif y150 then
 ah (α:=Bool)
 (bif (p0.Ki==p1.Ki) then
 some (p0.Ki != (0:UInt64))
 else
 some false)
 fun y152=>
 bif y152 then
 ah (α:=aQ)
 (bif (p1.Kind==(5:Int)) then
 some (aQ.mk p0.New p0.kM)
 else
 some (aQ.mk p0.Has p0.Val))
 fun Bc=>
 some ((0:UInt64),Bc,(aQ.mk p0.New p0.kM))
 else
 some (p0.Ki,(aQ.mk p0.Has p0.Val),(aQ.mk p0.New p0.kM))
 else
 some (p0.Ki,(aQ.mk p0.Has p0.Val),(aQ.mk p0.New p0.kM)))
 fun (za,OU,XA)=>
 ah (α:=aU)
 (bif OU.has then
 some (aU.mk p0.Key OU.has OU.s za false ([]:List UInt8))
 else
 some (aU.mk p0.Key OU.has ([]:List UInt8) za false ([]:List UInt8)))
 fun tZ=>
 ah (α:=aU)
 (ah (α:=Bool)
 (bif (za != (0:UInt64)) then
 some XA.has
 else
 some false)
 fun ajP=>
 bif ajP then
 some (aU.mk tZ.Key tZ.Has tZ.Val tZ.Ki true XA.s)
 else
 some tZ)
 fun y160=>
 some y160
theorem Bu (p0:aU) (p1:mD) (r:aU) (h0:jH p0 p1=some r):aT Tryz.prog 56 [.d (bC p0),.d (gU p1)] [] (.d (bC r)) [.box (.d (bC r))]:=by
 unfold jH at h0
 refine fn0 [0,1] Tryz.func56 U U U U U ?_
 refine sr (s1 (nN (k:=0) U U U) (s1 (nN (k:=1) U U U) (s1 (yA (k:=2) Vw U) (sn (sr (s1 (far (k:=1) U WU nu U) (s1 (bK U (ak nu FB U U)) (s1 (far (k:=2) U Qj iA U) (s1 (bK U (ak iA qw U U)) ?_)))))))))
 refine s1 (vg U (yX p0.Has p0.Val)) (s1 (yA (k:=3) Zt U) (s0 (jF U U (sB (d':=.d (aZ (aQ.mk p0.Has p0.Val))) jN U U U U U U U)) (sn (sr (s1 (far (k:=4) U WS nu U) (s1 (bK U (ak nu FB U U)) (s1 (far (k:=5) U WR iA U) (s1 (bK U (ak iA qw U U)) (s1 (vg U (yX p0.New p0.kM)) ?_)))))))))
 refine s1 (yA (k:=4) Zt U) (s0 (jF U U (sB (d':=.d (aZ (aQ.mk p0.New p0.kM))) jN U U U U U U U)) (sn (sr (s1 (far (k:=3) U WT iK U) (s1 (bK U (ak iK qN U U)) (sa U (sn (SC.dw h0 (fun y=>⟨mk 98 [(2,.ref 0 0 0),(4,.ref 1 0 0),(5,.ref 2 0 0),(6,.ref 3 0 0),(7,.d (eX y.1))],[.box (.d (bC p0)),.box (.d (bC (aU.mk ([]:List UInt8) false ([]:List UInt8) (0:UInt64) false ([]:List UInt8)))),.box (.d (aZ y.2.1)),.box (.d (aZ y.2.2))]⟩) ?_ ?_))))))))
 ·intro ar2 h1
  refine sr (s1 (far (k:=1) U Ib dH U) (s1 (bK U (ak dH gV U U)) (sn (SC.blk (SC.dw h1 (fun y=>⟨mk 98 [(2,.ref 0 0 0),(3,.ref 1 0 0),(4,.ref 2 0 0),(5,.ref 3 0 0),(6,.ref 4 0 0),(7,.d (eX p0.Ki)),(22,.d (eI p1.Kind)),(23,.d (eB y))],[.box (.d (bC p0)),.box (.d (gU p1)),.box (.d (bC (aU.mk ([]:List UInt8) false ([]:List UInt8) (0:UInt64) false ([]:List UInt8)))),.box (.d (aZ (aQ.mk p0.Has p0.Val))),.box (.d (aZ (aQ.mk p0.New p0.kM)))]⟩) ?_ ?_)))))
  ·intro arx h2
   refine sr (s1 (bi U U bD) (sa U (sn (cB h2 U (fun h2=>?_) (fun h2=>?_)))))
   ·have q:=si h2;subst q
    exact bR ((wq U))
   ·refine sr (s1 (bi U U bD) (sa U (sn (cB h2 U (fun h2=>?_) (fun h2=>?_)))))
    ·have q:=si h2;subst q
     exact bR ((wq U))
    ·have q:=si h2;subst q
     exact aO (s1 (bi U U bD) (sa U (SO.nil ((wq U)))))
  ·rintro ZJ h1
   refine cB h1 U (fun h1=>?_) (fun h1=>?_)
   ·refine sr (s1 (far (k:=3) U Qf iK U) (s1 (bK U (ak iK qN U U)) (s1 (bi U U (j4 (b:=(0:UInt64)))) (sn (cB h1 U (fun h1=>?_) (fun h1=>?_))))))
    ·obtain ⟨ahw,amf,h1⟩:=ob h1;have q:=si h1;subst q
     exact aO (s1 (bK (v:=.d (aZ (aQ.mk p0.Has p0.Val))) U (ak jN u6 U U)) (s1 (bK (v:=.d (gU p1)) U (ak XI XK U U)) (cq [] [5] (oC (aQ.mk p0.Has p0.Val) p1 _ amf) wf U U U Xc U U U U U U U U (s0 (jF U U (sB (d':=.d (aZ ahw)) jN U U U U U U U)) (SO.nil ((aC [0,2,3,4] [0,2,3,4] U)))))))
    ·refine SC.dw h1 (fun y=>⟨mk 98 [(2,.ref 0 0 0),(3,.ref 1 0 0),(4,.ref 2 0 0),(5,.ref 3 0 0),(6,.ref 4 0 0),(7,.d (eX p0.Ki)),(40,.d (eB y))],[.box (.d (bC p0)),.box (.d (gU p1)),.box (.d (bC (aU.mk ([]:List UInt8) false ([]:List UInt8) (0:UInt64) false ([]:List UInt8)))),.box (.d (aZ (aQ.mk p0.Has p0.Val))),.box (.d (aZ (aQ.mk p0.New p0.kM)))]⟩) ?_ ?_
     ·intro ag9 h2
      refine aO (s1 (far (k:=1) U Ib dH U) (s1 (bK U (ak dH gV U U)) (s1 (bi U U dA) (sm U (sp h2 (fun h2=>?_) (fun h2=>?_))))))
      ·have q:=si h2;subst q
       exact kw U (kw U (kw U (s1 (pkt U U) (SO.nil ((wq U))))))
      ·have q:=si h2;subst q
       exact gw U (far (k:=5) U zN dH U) (gw U (bK U (ak dH gV U U)) (gw U (bi U U fU) (s1 (eT U U) (SO.nil ((wq U))))))
     ·rintro ajQ h1
      refine cB h1 U (fun h1=>?_) (fun h1=>?_)
      ·refine SC.dw h1 (fun y=>⟨mk 98 [(2,.ref 0 0 0),(3,.ref 1 0 0),(4,.ref 2 0 0),(5,.ref 3 0 0),(6,.ref 4 0 0),(7,.d (eX y.1))],[.box (.d (bC p0)),.box (.d (gU p1)),.box (.d (bC (aU.mk ([]:List UInt8) false ([]:List UInt8) (0:UInt64) false ([]:List UInt8)))),.box (.d (aZ (aQ.mk p0.Has p0.Val))),.box (.d (aZ y.2))]⟩) ?_ ?_
       ·intro arw h2
        refine sr (sm U (s1 (bi U U (j4 (b:=(0:UInt64)))) (sn (cB h2 U (fun h2=>?_) (fun h2=>?_)))))
        ·have q:=si h2;subst q
         exact sr (s1 (far (k:=3) U Qf iK U) (s1 (bK U (ak iK qN U U)) (sa U (sn (aO (s1 (bK (v:=.d (aZ (aQ.mk p0.Has p0.Val))) U (ak jN u6 U U)) (s0 (jF U U (sB (d':=.d (aZ (aQ.mk p0.Has p0.Val))) jN U U U U U U U)) (SO.nil ((wq U))))))))))
        ·have q:=si h2;subst q
         exact bR ((wq U))
       ·rintro ⟨adt,ZH⟩ h1
        refine sr (sm U (s1 (far (k:=3) U Qf iK U) (s1 (bK U (ak iK qN U U)) (s1 (bi U U j4) (sn (cB h1 U (fun h1=>?_) (fun h1=>?_)))))))
        ·obtain ⟨ahv,amd,h1⟩:=ob h1;have q:=si h1;subst q
         exact aO (s1 (bK (v:=.d (aZ ZH)) U (ak jN u6 U U)) (s1 (bK (v:=.d (gU p1)) U (ak XI XK U U)) (cq [] [5] (oC ZH p1 _ amd) wf U U U Xc U U U U U U U U (s0 (jF U U (sB (d':=.d (aZ ahv)) jN U U U U U U U)) (SO.nil ((aC [0,2,3,4] [0,2,3,4] U)))))))
        ·have q:=si h1;subst q
         exact bR ((aC [0,2,3,4] [0,2,3,4] U))
      ·have q:=si h1;subst q
       exact bR ((aC [0,2,3,4] [0,2,3,4] U))
   ·refine sr (s1 (bi U U bD) (sa U (sn (cB h1 U (fun h1=>?_) (fun h1=>?_)))))
    ·obtain ⟨ahu,amc,h1⟩:=ob h1;obtain ⟨aht,amb,h1⟩:=ob h1;have q:=si h1;subst q
     refine sr (s1 (bK (v:=.d (aZ (aQ.mk p0.Has p0.Val))) U (ak jN u6 U U)) (s1 (bK (v:=.d (gU p1)) U (ak XI XK U U)) (cq [] [5] (oC (aQ.mk p0.Has p0.Val) p1 _ amc) wf U U U Xc U U U U U U U U (s0 (jF U U (sB (d':=.d (aZ ahu)) jN U U U U U U U)) (sn (aO (s1 (bK (v:=.d (aZ (aQ.mk p0.New p0.kM))) U (ak jN u6 U U)) (s1 (bK (v:=.d (gU p1)) U (ak XI XK U U)) (cq [] [6] (oC (aQ.mk p0.New p0.kM) p1 _ amb) wf U U U Xc U U U U U U U U ?_)))))))))
     exact s0 (jF U U (sB (d':=.d (aZ aht)) jN U U U U U U U)) (SO.nil ((aC [0,2,3,4] [0,2,3,4] U)))
    ·refine SC.dw h1 (fun y=>⟨mk 98 [(2,.ref 0 0 0),(3,.ref 1 0 0),(4,.ref 2 0 0),(5,.ref 3 0 0),(6,.ref 4 0 0),(7,.d (eX p0.Ki)),(61,.d (eB y))],[.box (.d (bC p0)),.box (.d (gU p1)),.box (.d (bC (aU.mk ([]:List UInt8) false ([]:List UInt8) (0:UInt64) false ([]:List UInt8)))),.box (.d (aZ (aQ.mk p0.Has p0.Val))),.box (.d (aZ (aQ.mk p0.New p0.kM)))]⟩) ?_ ?_
     ·intro arv h2
      refine sr (s1 (bi U U bD) (sa U (sn (cB h2 U (fun h2=>?_) (fun h2=>?_)))))
      ·have q:=si h2;subst q
       exact bR ((wq U))
      ·have q:=si h2;subst q
       exact aO (s1 (bi U U bD) (sa U (SO.nil ((wq U)))))
     ·rintro y150 h1
      refine cB h1 U (fun h1=>?_) (fun h1=>?_)
      ·refine SC.dw h1 (fun y=>⟨mk 98 [(2,.ref 0 0 0),(3,.ref 1 0 0),(4,.ref 2 0 0),(5,.ref 3 0 0),(6,.ref 4 0 0),(7,.d (eX p0.Ki)),(71,.d (eB y))],[.box (.d (bC p0)),.box (.d (gU p1)),.box (.d (bC (aU.mk ([]:List UInt8) false ([]:List UInt8) (0:UInt64) false ([]:List UInt8)))),.box (.d (aZ (aQ.mk p0.Has p0.Val))),.box (.d (aZ (aQ.mk p0.New p0.kM)))]⟩) ?_ ?_
       ·intro aru h2
        refine aO (sm U (s1 (far (k:=3) U Qf iK U) (s1 (bK U (ak iK qN U U)) (s1 (bi U U j4) (sm U (sp h2 (fun h2=>?_) (fun h2=>?_)))))))
        ·have q:=si h2;subst q
         exact gw U (mv U) (gw U (bi U U (HY (b:=(0:UInt64)))) (s1 (pkt U U) (SO.nil ((wq U)))))
        ·have q:=si h2;subst q
         exact kw U (kw U (s1 (eT U U) (SO.nil ((wq U)))))
       ·rintro y152 h1
        refine cB h1 U (fun h1=>?_) (fun h1=>?_)
        ·refine SC.dw h1 (fun y=>⟨mk 98 [(2,.ref 0 0 0),(4,.ref 1 0 0),(5,.ref 2 0 0),(6,.ref 3 0 0)],[.box (.d (bC p0)),.box (.d (bC (aU.mk ([]:List UInt8) false ([]:List UInt8) (0:UInt64) false ([]:List UInt8)))),.box (.d (aZ y)),.box (.d (aZ (aQ.mk p0.New p0.kM)))]⟩) ?_ ?_
         ·intro ars h2
          refine sr (s1 (far (k:=1) U Ib dH U) (s1 (bK U (ak dH gV U U)) (s1 (bi U U bD) (sn (cB h2 U (fun h2=>?_) (fun h2=>?_))))))
          ·have q:=si h2;subst q
           exact aO (s1 (bK (v:=.d (aZ (aQ.mk p0.New p0.kM))) U (ak jN u6 U U)) (s0 (jF U U (sB (d':=.d (aZ (aQ.mk p0.New p0.kM))) jN U U U U U U U)) (SO.nil ((aC [0,2,3,4] [0,2,3,4] U)))))
          ·have q:=si h2;subst q
           exact bR ((aC [0,2,3,4] [0,2,3,4] U))
         ·rintro Bc h1
          have q:=si h1;subst q
          exact aO (s1 (jA (v:=.d (eX (0:UInt64))) U) (SO.nil ((wq U))))
        ·have q:=si h1;subst q
         exact bR ((aC [0,2,3,4] [0,2,3,4] U))
      ·have q:=si h1;subst q
       exact bR ((aC [0,2,3,4] [0,2,3,4] U))
 ·rintro ⟨za,OU,XA⟩ h0
  refine sr (s1 (far (k:=0) U CP iA U) (s1 (bK U (ak iA qw U U)) (s1 (far (k:=0) U Gn nu U) (s1 (bK U (ak nu FB U U)) (sm U (s1 (vg U (Tv p0.Key OU.has za)) (s1 (yA (k:=4) Vw U) (s0 (jF U U (sB (d':=.d (bC (aU.mk p0.Key OU.has ([]:List UInt8) za false ([]:List UInt8)))) pq U U U U U U U)) (sn ?_)))))))))
  refine SC.dw h0 (fun y=>⟨mk 98 [(4,.ref 0 0 0),(6,.ref 1 0 0),(7,.d (eX za)),(8,.ref 2 0 0)],[.box (.d (bC (aU.mk ([]:List UInt8) false ([]:List UInt8) (0:UInt64) false ([]:List UInt8)))),.box (.d (aZ XA)),.box (.d (bC y))]⟩) ?_ ?_
  ·intro ahe h1
   refine sr (s1 (far (k:=0) U Gn nu U) (s1 (bK U (ak nu FB U U)) (sn (cB h1 U (fun h1=>?_) (fun h1=>?_)))))
   ·have q:=si h1;subst q
    exact aO (s1 (far (k:=1) U xI iA U) (s1 (bK U (ak iA qw U U)) (s1 (far (k:=2) U Qj iA U) (s0 (jF U U (sB (d':=.d (bC (aU.mk p0.Key OU.has OU.s za false ([]:List UInt8)))) iA U U U U U U U)) (SO.nil ((aC [1,3,4] [1,3,4] U)))))))
   ·have q:=si h1;subst q
    exact bR ((aC [1,3,4] [1,3,4] U))
  ·rintro tZ h0
   refine SC.dw h0 (fun y=>⟨mk 98 [(4,.ref 0 0 0),(8,.ref 1 0 0)],[.box (.d (bC (aU.mk ([]:List UInt8) false ([]:List UInt8) (0:UInt64) false ([]:List UInt8)))),.box (.d (bC y))]⟩) ?_ ?_
   ·intro arZ h1
    refine SC.dw h1 (fun y=>⟨mk 98 [(4,.ref 0 0 0),(6,.ref 1 0 0),(8,.ref 2 0 0),(92,.d (eB y))],[.box (.d (bC (aU.mk ([]:List UInt8) false ([]:List UInt8) (0:UInt64) false ([]:List UInt8)))),.box (.d (aZ XA)),.box (.d (bC tZ))]⟩) ?_ ?_
    ·intro arq h2
     refine aO (sm U (s1 (bi U U (HY (b:=(0:UInt64)))) (sm U (sp h2 (fun h2=>?_) (fun h2=>?_)))))
     ·have q:=si h2;subst q
      exact gw U (far (k:=0) U Gn nu U) (gw U (bK U (ak nu FB U U)) (s1 (pkt U U) (SO.nil ((wq U)))))
     ·have q:=si h2;subst q
      exact kw U (kw U (s1 (eT U U) (SO.nil ((wq U)))))
    ·rintro ajP h1
     refine cB h1 U (fun h1=>?_) (fun h1=>?_)
     ·have q:=si h1;subst q
      refine sr (s1 (far (k:=4) U WS nu U) (s0 (jF (b:=.d (eB true)) U U (sB (d':=.d (bC (aU.mk tZ.Key tZ.Has tZ.Val tZ.Ki true tZ.kM))) nu U U U U U U U)) (sn (aO (s1 (far (k:=1) U xI iA U) (s1 (bK U (ak iA qw U U)) (s1 (far (k:=5) U WR iA U) (s0 (jF U U (sB (d':=.d (bC (aU.mk tZ.Key tZ.Has tZ.Val tZ.Ki true XA.s))) iA U U U U U U U)) (SO.nil ?_)))))))))
      exact (aC [0,2] [0,2] U)
     ·have q:=si h1;subst q
      exact bR ((aC [0,2] [0,2] U))
   ·rintro y160 h0
    have q:=si h0;subst q
    exact sr (s1 (bK (v:=.d (bC y160)) U (ak pq FD U U)) (s0 (jF U U (sB (d':=.d (bC y160)) pq U U U U U U U)) (sn (aM (bM (aC (e':=[(4,.ref 0 0 0)]) [0] [0] U) (xE U (ak pq FD U U) aW) U)))))
noncomputable def pY (p0:aU):Option Bool:=
 ah (α:=Bool)
 (bif (!p0.Has) then
 some (p0.Ki==(0:UInt64))
 else
 some false)
 fun y6=>
 some y6
theorem Dy (p0:aU) (r:Bool) (h0:pY p0=some r):aT Tryz.prog 57 [.d (bC p0)] [] (.d (eB r)) []:=by
 unfold pY at h0
 refine fn0 [0] Tryz.func57 U U U U U ?_
 refine sr (s1 (nN (k:=0) U U U) (sa U (sn (SC.dw h0 (fun y=>⟨mk 11 [(2,.d (eB y))],[]⟩) ?_ ?_))))
 ·intro aaj h1
  refine aO (s1 (far (k:=1) U WU nu U) (s1 (bK U (ak nu FB U U)) (s1 (nt U) (sm U (sp h1 (fun h1=>?_) (fun h1=>?_))))))
  ·have q:=si h1;subst q
   exact gw U (far (k:=3) U WT iK U) (gw U (bK U (ak iK qN U U)) (gw U (bi U U (j4 (b:=(0:UInt64)))) (s1 (pkt U U) (sa U (SO.nil ((aC [] [] U)))))))
  ·have q:=si h1;subst q
   exact kw U (kw U (kw U (s1 (eT U U) (sa U (SO.nil ((aC [] [] U)))))))
 ·rintro y6 h0
  have q:=si h0;subst q
  exact aM (bM (Wk.refl _) (bq U aW) U)
noncomputable def gQ (p0:mD) (p1:List aU):Option ((List aU)):=
 ah (α:=(List aU))
 (ah (α:=(List aU))
 (loop (Y:=(List aU)×Bool×Int) (W:=(List aU)) (fun (zZ,VF,vR)=>
 bif (decide (vR≤(p1.length:Int))) then
 fP (Y:=(List aU)×Bool) (E:=(List aU))
 (ah (α:=(List aU)×Bool)
 (ah (α:=Bool)
 (bif (!VF) then
 bif (vR==(p1.length:Int)) then
 some true
 else
 ah (bP p1 vR) fun afg=>
 some (!(o8 afg.Key p0.Key))
 else
 some false)
 fun ae6=>
 bif ae6 then
 ah (α:=Bool)
 (bif (vR==(p1.length:Int)) then
 some true
 else
 ah (bP p1 vR) fun Z0=>
 some (!(o8 Z0.Key p0.Key || Z0.Key==p0.Key)))
 fun Ko=>
 bif Ko then
 ah (jH (aU.mk p0.Key false ([]:List UInt8) (0:UInt64) false ([]:List UInt8)) p0) fun wI=>
 ah (pY wI) fun Wn=>
 bif (!Wn) then
 bif decide ((zZ.length+[wI].length)*72≤room) then
 some ((zZ++[wI]),true)
 else none
 else
 some (zZ,true)
 else
 some (zZ,true)
 else
 some (zZ,VF))
 fun (Dl,Q7)=>
 bif (vR==(p1.length:Int)) then
 some (Sum.inr Dl)
 else
 ah (bP p1 vR) fun Fp=>
 ah (α:=aU)
 (ah (α:=Bool)
 (bif (p0.Kind==(4:Int)) then
 some true
 else
 some (Fp.Key==p0.Key))
 fun ae5=>
 bif ae5 then
 ah (jH Fp p0) fun aaz=>
 some aaz
 else
 some Fp)
 fun Dk=>
 ah (pY Dk) fun afv=>
 bif (!afv) then
 bif decide ((Dl.length+[Dk].length)*72≤room) then
 some (Sum.inl ((Dl++[Dk]),Q7))
 else none
 else
 some (Sum.inl (Dl,Q7)))
 (fun (ae8,ae7)=>
 some (Sum.inl (ae8,ae7,(bL (vR+(1:Int))))))
 (fun e=>some (Sum.inr e))
 else
 some (Sum.inr zZ)) (([]:List aU),(p0.Kind==(4:Int)),(0:Int)))
 (fun e=>some e))
 fun ZI=>
 some ZI
theorem qU (p0:mD) (p1:List aU) (r:(List aU)) (h0:gQ p0 p1=some r):aT Tryz.prog 23 [.ref 0 0 0,.d (gU p0)] [.box (.d (.agg [((eL 6 bC) p1)]))] (.tuple []) [.box (.agg [.slc 1 6 0 r.length none]),.row 6 (List.map bC r) true]:=by
 unfold gQ at h0
 refine fn0 [0,1] Tryz.func23 U U U U U ?_
 refine sr (s1 (nN (k:=1) U U U) (sn (sr (s1 (jA (v:=.d .dB) U) (sn (sr (s1 (far (k:=1) U Ib dH U) (s1 (bK U (ak dH gV U U)) (s1 (bi U U bD) ?_)))))))))
 refine sa U (sn (SC.dw h0 (fun y=>⟨mk 115 [(0,.ref 0 0 0),(4,.slc 1 6 0 y.length none)],[.box (.d (.agg [((eL 6 bC) p1)])),.row 6 (List.map bC y) true]⟩) ?_ ?_))
 ·intro apM h1
  obtain ⟨apE,h2,h1⟩:=ob h1
  refine sr (sa U (sn (SC.blk (SC.eH h2 (fun y=>⟨mk 115 [(0,.ref 0 0 0),(3,.ref 1 0 0),(4,.slc 2 6 0 y.1.length none),(5,.d (eB y.2.1)),(6,.d (eI y.2.2))],[.box (.d (.agg [((eL 6 bC) p1)])),.box (.d (gU p0)),.row 6 (List.map bC y.1) true]⟩) (Wk.trans (Wk.nI (σ':=[.box (.d (.agg [((eL 6 bC) p1)])),.box (.d (gU p0)),.row 6 (List.map bC ([]:List aU)) true]) (.row 6 [] true) (fun _ hh=>by cases hh) U) (Wk.trans (Wk.env (e':=[(0,.ref 0 0 0),(3,.ref 1 0 0),(4,.slc 2 6 0 (([]:List aU).length) none),(5,.d (eB (p0.Kind==(4:Int)))),(6,.d (eI (0:Int)))]) (EW.cons (AW.refl _) (EW.cons (AW.refl _) (EW.cons (AW.mH _ _ _) (EW.cons (AW.refl _) (EW.cons (AW.refl _) EW.nil)))))) (wq U))) ?_))))
  intro au5
  rintro ⟨zZ,VF,vR⟩ ao8 h3 hv3
  refine sq (sr (sm U (sm U (s1 (lu U) (s1 (far (k:=0) U rG oP U) (s1 (bK U (ak oP Dq U U)) (s1 (len U U U (bN qp)) (s1 (bi U U qA) (sn ?_)))))))))
  refine cB h3 U (fun h3=>?_) (fun h3=>?_)
  ·refine sk (SC.seqB h3 (fun y=>⟨mk 115 [(0,.ref 0 0 0),(3,.ref 1 0 0),(4,.slc 2 6 0 y.1.length none),(5,.d (eB y.2)),(6,.d (eI vR))],[.box (.d (.agg [((eL 6 bC) p1)])),.box (.d (gU p0)),.row 6 (List.map bC y.1) true]⟩) ?_ ?_)
   ·intro apx h4 h3
    refine SC.blk (SC.dw h4 (fun y=>⟨mk 115 [(0,.ref 0 0 0),(3,.ref 1 0 0),(4,.slc 2 6 0 y.1.length none),(5,.d (eB y.2)),(6,.d (eI vR))],[.box (.d (.agg [((eL 6 bC) p1)])),.box (.d (gU p0)),.row 6 (List.map bC y.1) true]⟩) ?_ ?_)
    ·intro apn h5
     refine SC.dw h5 (fun y=>⟨mk 115 [(0,.ref 0 0 0),(3,.ref 1 0 0),(4,.slc 2 6 0 zZ.length none),(5,.d (eB VF)),(6,.d (eI vR)),(44,.d (eB y))],[.box (.d (.agg [((eL 6 bC) p1)])),.box (.d (gU p0)),.row 6 (List.map bC zZ) true]⟩) ?_ ?_
     ·intro aph h6
      refine SC.draws (by kernel_rfl) (t1 aH (mv U) U (t1 aH (nt U) U (t1 aH (mv U) U (tp h6 (fun h6=>?_) (fun h6=>?_)))))
      ·refine u1 aH (ww U) (mv U) U (u1 aH (ww U) (mv U) U (u1 aH (ww U) (lu U) U (u1 aH (ww U) (far (k:=0) U rG oP U) U (u1 ([0],false) (ww U) (bK U (ak oP Dq U U)) U (u1 aH (ww U) (len U U U (bN qp)) U (u1 aH (ww U) (bi U U bD) U (u1 aH (ww U) (mv U) U (tp h6 (fun h6=>?_) (fun h6=>?_)))))))))
       ·have q:=si h6;subst q
        refine jw U (jw U (jw U (jw U (jw U (jw U (jw U (jw U (jw U (jw U ?_)))))))))
        refine jw U (u1 aH (ww U) (pkt U U) U (t1 aH (pkt U U) U (ST.nil (And.intro (by decide +kernel) ?_))))
        exact (wq U)
       ·obtain ⟨afg,abr,h6⟩:=ob h6;have q:=si h6;subst q
        refine u1 aH (ww U) (mv U) U (u1 aH (ww U) (lu U) U (u1 aH (ww U) (far (k:=0) U rG oP U) U (u1 ([0],false) (ww U) (bK U (ak oP Dq U U)) U (u1 aH (ww U) (mv U) U (u1 aH (ww U) (kV U U qp pq (aB abr).1 (bI (aB abr).2) U) U (u1 aH (ww U) (fap U CP iA U) U (u1 aH (ww U) (bK U (bY iA qw U)) U (u1 aH (ww U) (far (k:=2) U Qg iA U) U (u1 ([1],false) (ww U) (bK U (ak iA qw U U)) U ?_)))))))))
        refine u1 aH (ww U) (bi U U N8) U (u1 aH (ww U) (eT U U) U (t1 aH (pkt U U) U (ST.nil (And.intro (by decide +kernel) ?_))))
        exact (wq U)
      ·have q:=si h6;subst q
       refine jw U (jw U (jw U (jw U (jw U (jw U (jw U (jw U (jw U (jw U ?_)))))))))
       refine jw U (jw U (jw U (jw U (jw U (jw U (jw U (jw U (jw U (jw U ?_)))))))))
       refine t1 aH (eT U U) U (ST.nil (And.intro (by decide +kernel) ?_))
       exact (wq U)
     ·rintro ae6 h5
      refine cB h5 U (fun h5=>?_) (fun h5=>?_)
      ·refine sr (sa U (sn (SC.dw h5 (fun y=>⟨mk 115 [(0,.ref 0 0 0),(3,.ref 1 0 0),(4,.slc 2 6 0 zZ.length none),(5,.d (eB true)),(6,.d (eI vR)),(64,.d (eB y))],[.box (.d (.agg [((eL 6 bC) p1)])),.box (.d (gU p0)),.row 6 (List.map bC zZ) true]⟩) ?_ ?_)))
       ·intro apg h6
        refine SC.draws (by kernel_rfl) (t1 aH (mv U) U (t1 aH (mv U) U (t1 aH (lu U) U (t1 aH (far (k:=0) U rG oP U) U (t1 ([0],false) (bK U (ak oP Dq U U)) U (t1 aH (len U U U (bN qp)) U (t1 aH (bi U U bD) U (t1 aH (mv U) U (tp h6 (fun h6=>?_) (fun h6=>?_))))))))))
        ·have q:=si h6;subst q
         refine jw U (jw U (jw U (jw U (jw U (jw U (jw U (jw U (jw U (jw U ?_)))))))))
         refine jw U (t1 aH (pkt U U) U (ST.nil (And.intro (by decide +kernel) ?_)))
         exact (wq U)
        ·obtain ⟨Z0,abq,h6⟩:=ob h6;have q:=si h6;subst q
         refine u1 aH (ww U) (mv U) U (u1 aH (ww U) (lu U) U (u1 aH (ww U) (far (k:=0) U rG oP U) U (u1 ([0],false) (ww U) (bK U (ak oP Dq U U)) U (u1 aH (ww U) (mv U) U (u1 aH (ww U) (kV U U qp pq (aB abq).1 (bI (aB abq).2) U) U (u1 aH (ww U) (fap U CP iA U) U (u1 aH (ww U) (bK U (bY iA qw U)) U (u1 aH (ww U) (far (k:=2) U Qg iA U) U (u1 ([1],false) (ww U) (bK U (ak iA qw U U)) U ?_)))))))))
         refine u1 aH (ww U) (bi U U Yg) U (t1 aH (eT U U) U (ST.nil (And.intro (by decide +kernel) ?_)))
         exact (wq U)
       ·rintro Ko h5
        refine cB h5 U (fun h5=>?_) (fun h5=>?_)
        ·obtain ⟨wI,aib,h5⟩:=ob h5;obtain ⟨Wn,aia,h5⟩:=ob h5
         refine sr (s1 (far (k:=2) U Qg iA U) (s1 (bK U (ak iA qw U U)) (s1 (vg U (aeB p0.Key)) (s1 (bK (v:=.d (gU p0)) U (ak XI XK U U)) (cq [] [3] (Bu (aU.mk p0.Key false ([]:List UInt8) (0:UInt64) false ([]:List UInt8)) p0 _ aib) wf U U U anM U U U U U U U U (s1 (yA (k:=4) Vw U) (s0 (jF U U (sB (d':=.d (bC wI)) pq U U U U U U U)) (sn (sr ?_)))))))))
         refine s1 (bK (v:=.d (bC wI)) U (ak pq FD U U)) (c0 (Dy wI _ aia) wf U U U anL U (fun _=>rfl) (fun _=>rfl) (s1 (nt U) (sn (cB h5 U (fun h5=>?_) (fun h5=>?_)))))
         ·obtain ⟨aiD,h5⟩:=gd h5;have q:=si h5;subst q
          exact aO (sm U (s1 (bK (v:=.d (bC wI)) U (ak pq FD U U)) (s1 (rX (k:=5) (ds:=List.map bC [wI]) (off:=0) (l':=[wI].length) U qp Ou U U (by rfl) U U U) (s1 (app U U U U acz (aF (f:=bC) (xs:=zZ) (k:=6) U qp Ou U (dU (xs:=[wI]) U) aiD U)) (sa U (SO.nil ((aC [0,1,6] [0,0,1,6] U))))))))
         ·have q:=si h5;subst q
          exact bR ((aC [0,1,2] [0,0,1,2] U))
        ·have q:=si h5;subst q
         exact bR ((wq U))
      ·have q:=si h5;subst q
       exact bR ((wq U))
    ·rintro ⟨Dl,Q7⟩ h4
     refine sq (sr (sm U (sm U (s1 (lu U) (s1 (far (k:=0) U rG oP U) (s1 (bK U (ak oP Dq U U)) (s1 (len U U U (bN qp)) (s1 (bi U U bD) (sn ?_)))))))))
     refine cB h4 U (fun h4=>?_) (fun h4=>?_)
     ·have q:=si h4;subst q;have q:=si h3;subst q;have q:_=_:=hv3;subst q;have q:=si h1;subst q
      exact bZ ((aC [0,2] [0,0,2] U))
     ·obtain ⟨Fp,abp,h4⟩:=ob h4
      refine sk (sr (sm U (s1 (lu U) (s1 (far (k:=0) U rG oP U) (s1 (bK U (ak oP Dq U U)) (sm U (s1 (kV U U qp pq (aB abp).1 (bI (aB abp).2) U) (s1 (bK (v:=.d (bC Fp)) U (bY pq FD U)) (s1 (yA (k:=3) Vw U) ?_)))))))))
      refine s0 (jF U U (sB (d':=.d (bC Fp)) pq U U U U U U U)) (sn (SC.dw h4 (fun y=>⟨mk 115 [(0,.ref 0 0 0),(3,.ref 1 0 0),(4,.slc 2 6 0 Dl.length none),(5,.d (eB Q7)),(6,.d (eI vR)),(8,.ref 3 0 0)],[.box (.d (.agg [((eL 6 bC) p1)])),.box (.d (gU p0)),.row 6 (List.map bC Dl) true,.box (.d (bC y))]⟩) ?_ ?_))
      ·intro apm h5
       refine SC.dw h5 (fun y=>⟨mk 115 [(0,.ref 0 0 0),(3,.ref 1 0 0),(4,.slc 2 6 0 Dl.length none),(5,.d (eB Q7)),(6,.d (eI vR)),(8,.ref 3 0 0),(100,.d (eB y))],[.box (.d (.agg [((eL 6 bC) p1)])),.box (.d (gU p0)),.row 6 (List.map bC Dl) true,.box (.d (bC Fp))]⟩) ?_ ?_
       ·intro apf h6
        refine aO (s1 (far (k:=1) U Ib dH U) (s1 (bK U (ak dH gV U U)) (s1 (bi U U bD) (sm U (sp h6 (fun h6=>?_) (fun h6=>?_))))))
        ·have q:=si h6;subst q
         exact kw U (kw U (kw U (kw U (kw U (s1 (pkt U U) (SO.nil ((wq U))))))))
        ·have q:=si h6;subst q
         exact gw U (far (k:=0) U CP iA U) (gw U (bK U (ak iA qw U U)) (gw U (far (k:=2) U Qg iA U) (gw U (bK U (ak iA qw U U)) (gw U (bi U U mV) (s1 (eT U U) (SO.nil ((wq U))))))))
       ·rintro ae5 h5
        refine cB h5 U (fun h5=>?_) (fun h5=>?_)
        ·obtain ⟨aaz,ah9,h5⟩:=ob h5;have q:=si h5;subst q
         exact aO (s1 (bK (v:=.d (bC Fp)) U (ak pq FD U U)) (s1 (bK (v:=.d (gU p0)) U (ak XI XK U U)) (cq [] [4] (Bu Fp p0 _ ah9) wf U U U anM U U U U U U U U (s0 (jF U U (sB (d':=.d (bC aaz)) pq U U U U U U U)) (SO.nil ((aC [0,1,2,3] [0,0,1,2,3] U)))))))
        ·have q:=si h5;subst q
         exact bR ((wq U))
      ·rintro Dk h4
       obtain ⟨afv,ah8,h4⟩:=ob h4
       refine sr (s1 (bK (v:=.d (bC Dk)) U (ak pq FD U U)) (c0 (Dy Dk _ ah8) wf U U U anL U (fun _=>rfl) (fun _=>rfl) (s1 (nt U) (sn (cB h4 U (fun h4=>?_) (fun h4=>?_))))))
       ·obtain ⟨aiC,h4⟩:=gd h4;have q:=si h4;subst q
        exact aO (sm U (s1 (bK (v:=.d (bC Dk)) U (ak pq FD U U)) (s1 (rX (k:=4) (ds:=List.map bC [Dk]) (off:=0) (l':=[Dk].length) U qp Ou U U (by rfl) U U U) (s1 (app U U U U acz (aF (f:=bC) (xs:=Dl) (k:=5) U qp Ou U (dU (xs:=[Dk]) U) aiC U)) (sa U (SO.nil (lf (aC [0,1,5] [0,0,1,5] U))))))))
       ·have q:=si h4;subst q
        exact bR (lf (aC [0,1,2] [0,0,1,2] U))
   ·rintro ⟨ae8,ae7⟩ h3
    have q:=si h3;subst q
    exact aO (sm U (s1 (bi U U bH) (sa U (SO.nil (lf (wq U))))))
  ·have q:=si h3;subst q;have q:_=_:=hv3;subst q;have q:=si h1;subst q
   exact bZ ((aC [0,2] [0,0,2] U))
 ·rintro ZI h0
  have q:=si h0;subst q
  exact aO (sm U (sm U (s1 (lu U) (s1 (far (k:=0) U rG oP U) (s0 (jF U U (sB (d':=.agg [.slc 1 6 0 ZI.length none]) oP U U U U U U U)) (SO.nil (vH (Wk.refl _) aW U)))))))
noncomputable def uw (p0:bT) (p1:List aj):Option ((List UInt8)×Bool):=
 ah (qx p0.Parts p1) fun (Uw,r11)=>
 some (Uw,r11)
theorem KS (p0:bT) (p1:List aj) (r:(List UInt8)×Bool) (h0:uw p0 p1=some r):aT Tryz.prog 86 [.d (bF p0),.d ((eL 3 au) p1)] [] (.tuple [.d (eS r.1),.d (eB r.2)]) []:=by
 unfold uw at h0
 refine fn0 [0,1] Tryz.func86 U U U U U ?_
 obtain ⟨⟨Uw,r11⟩,hq9,h0⟩:=ob h0;have q:=si h0;subst q
 refine sr (s1 (nN (k:=0) U U U) (s1 (jA (v:=.d (eS ([]:List UInt8))) U) (sa U (sn (sr (s1 (far (k:=1) U Cg vo U) (s1 (bK U (ak vo KF U U)) (sm U (c0 (Br p0.Parts p1 _ hq9) wf U U U anF U (fun _=>rfl) (fun _=>rfl) ?_)))))))))
 exact s1 (ext U U) (s1 (ext U U) (sa U (sa U (sn (aM (bM (aC (e':=[(4,.d (eS Uw)),(5,.d (eB r11))]) [] [] U) (bq U (bq U aW)) U))))))
noncomputable def uy (p0:aL) (p1:bT) (p2:List aj):Option dh:=
 ah (uw p1 p2) fun (JB,asE)=>
 ah (fu p0 p2) fun JA=>
 bif decide (JB.length+JA.length≤9223372036854775807) then
 ah (α:=dh)
 (bif (decide ((p1.Extra.length:Int) > (0:Int))) then
 ah (α:=(List aj))
 (ah (α:=(List aj))
 (loop (Y:=(List aj)×Int) (W:=(List aj)) (fun (ZC,adq)=>
 bif (decide (adq < (p1.Extra.length:Int))) then
 ah (bP p1.Extra adq) fun v236=>
 ah (bP p2 v236) fun Ud=>
 bif decide ((ZC.length+[Ud].length)*32≤room) then
 some (Sum.inl ((ZC++[Ud]),(bL (adq+(1:Int)))))
 else none
 else
 some (Sum.inr ZC)) (([]:List aj),(0:Int)))
 (fun e=>some e))
 fun ZE=>
 ah (qy ZE) fun ahr=>
 some (dh.mk (JB++JA) ahr)
 else
 some (dh.mk (JB++JA) ([]:List UInt8)))
 fun ads=>
 some ads
 else none
theorem KU (p0:aL) (p1:bT) (p2:List aj) (r:dh) (h0:uy p0 p1 p2=some r):aT Tryz.prog 44 [.d (bE p0),.d (bF p1),.d ((eL 3 au) p2)] [] (.d (dS r)) [.box (.d (dS r))]:=by
 unfold uy at h0
 refine fn0 [0,1,2] Tryz.func44 U U U U U ?_
 obtain ⟨⟨JB,asE⟩,ama,h0⟩:=ob h0;obtain ⟨JA,al9,h0⟩:=ob h0;obtain ⟨anc,h0⟩:=gd h0
 refine sr (s1 (nN (k:=0) U U U) (s1 (nN (k:=1) U U U) (s1 (yA (k:=2) ac1 U) (sn (sr (s1 (bK (v:=.d (bF p1)) U (ak DZ XL U U)) (sm U (c0 (KS p1 p2 _ ama) wf U U U atG U (fun _=>rfl) (fun _=>rfl) (sm U ?_)))))))))
 refine s1 (ext U U) (s1 (ext U U) (sa U (sa U (sn (sr (sm U (s1 (bK (v:=.d (bE p0)) U (ak oU uQ U U)) (sm U (c0 (ou p0 p2 _ al9) wf U U U aez U (fun _=>rfl) (fun _=>rfl) ?_)))))))))
 refine s1 (bi (v:=.d (eS (JB++JA))) U U (fun X Y=>Ir _ X Y JB JA anc)) (s1 (vg U (ajb (JB++JA))) (s1 (yA (k:=3) ac1 U) (s0 (jF U U (sB (d':=.d (dS (dh.mk (JB++JA) ([]:List UInt8)))) Rf U U U U U U U)) (sn (SC.dw h0 (fun y=>⟨mk 50 [(6,.ref 0 0 0),(9,.ref 1 0 0)],[.box (.d (dS (dh.mk ([]:List UInt8) ([]:List UInt8)))),.box (.d (dS y))]⟩) ?_ ?_)))))
 ·intro arY h1
  refine sr (s1 (far (k:=2) U zO jf U) (s1 (bK U (ak jf vB U U)) (s1 (len U U U (bN iJ)) (s1 (bi U U dx) (sn (cB h1 U (fun h1=>?_) (fun h1=>?_)))))))
  ·refine sr (s1 (jA (v:=.d .dB) U) (sn (SC.dw h1 (fun y=>⟨mk 50 [(6,.ref 0 0 0),(9,.ref 1 0 0),(10,.slc 2 3 0 y.length none)],[.box (.d (dS (dh.mk ([]:List UInt8) ([]:List UInt8)))),.box (.d (dS (dh.mk (JB++JA) ([]:List UInt8)))),.row 3 (List.map au y) true]⟩) ?_ ?_)))
   ·intro arn h2
    obtain ⟨aq1,h3,h2⟩:=ob h2
    refine sr (sa U (sn (SC.blk (SC.eH h3 (fun y=>⟨mk 50 [(2,.d ((eL 3 au) p2)),(4,.ref 0 0 0),(6,.ref 1 0 0),(9,.ref 2 0 0),(10,.slc 3 3 0 y.1.length none),(11,.d (eI y.2))],[.box (.d (bF p1)),.box (.d (dS (dh.mk ([]:List UInt8) ([]:List UInt8)))),.box (.d (dS (dh.mk (JB++JA) ([]:List UInt8)))),.row 3 (List.map au y.1) true]⟩) (Wk.trans (Wk.nI (σ':=[.box (.d (bE p0)),.box (.d (bF p1)),.box (.d (dS (dh.mk ([]:List UInt8) ([]:List UInt8)))),.box (.d (dS (dh.mk (JB++JA) ([]:List UInt8)))),.row 3 (List.map au ([]:List aj)) true]) (.row 3 [] true) (fun _ hh=>by cases hh) U) (Wk.trans (Wk.env (e':=[(2,.d ((eL 3 au) p2)),(4,.ref 1 0 0),(6,.ref 2 0 0),(9,.ref 3 0 0),(10,.slc 4 3 0 (([]:List aj).length) none),(11,.d (eI (0:Int)))]) (EW.cons (AW.refl _) (EW.cons (AW.refl _) (EW.cons (AW.refl _) (EW.cons (AW.refl _) (EW.cons (AW.mH _ _ _) (EW.cons (AW.refl _) EW.nil))))))) (aC [1,2,3,4] [1,2,3,4] U))) ?_))))
    intro n239
    rintro ⟨ZC,adq⟩ ap0 h4 hv4
    refine sq (sr (sm U (s1 (far (k:=2) U zO jf U) (s1 (bK U (ak jf vB U U)) (s1 (len U U U (bN iJ)) (s1 (bi U U bB) (sn (cB h4 U (fun h4=>?_) (fun h4=>?_)))))))))
    ·obtain ⟨v236,af9,h4⟩:=ob h4;obtain ⟨Ud,af8,h4⟩:=ob h4;obtain ⟨am7,h4⟩:=gd h4
     refine sk (sq (SC.blk (aO (sm U (sm U (s1 (far (k:=2) U zO jf U) (s1 (bK U (ak jf vB U U)) (sm U (s1 (kV U U iJ dH (aB af9).1 (bI (aB af9).2) U) ?_)))))))))
     refine s1 (bK U (bY dH gV U)) (s1 (kV U U jJ gK (aB af8).1 (bI (aB af8).2) U) (s1 (bK (v:=.d (au Ud)) U (bY gK ny U)) (s1 (rX (k:=4) (ds:=List.map au [Ud]) (off:=0) (l':=[Ud].length) U jJ EO U U (by rfl) U U U) (s1 (app U U U U YM (aF (f:=au) (xs:=ZC) (k:=5) U jJ EO U (dU (xs:=[Ud]) U) am7 U)) (sa U (SO.nil ?_))))))
     change SC _ _ _ _ _
     have q:=si h4;subst q
     exact aO (sm U (s1 (bi U U bH) (sa U (SO.nil (lf (aC [0,1,2,5] [0,1,2,5] U))))))
    ·have q:=si h4;subst q;have q:_=_:=hv4;subst q;have q:=si h2;subst q
     exact bZ ((aC [1,2,3] [1,2,3] U))
   ·rintro ZE h1
    obtain ⟨ahr,al6,h1⟩:=ob h1;have q:=si h1;subst q
    exact aO (sm U (cq (args':=[.slc 0 3 0 ZE.length none]) (lF:=[.row 3 (List.map au ZE) true]) [2] [] (aT.og (iX.og (fF U U U) (iX.nil _)) (fq [] [] (Bv ZE _ al6) U U U U U U U U)) wf U U U anN U U U U U U U U (s1 (far (k:=1) U U1 iA U) (s0 (jF U U (sB (d':=.d (dS (dh.mk (JB++JA) ahr))) iA U U U U U U U)) (SO.nil ((aC [0,1] [0,1] U)))))))
  ·have q:=si h1;subst q
   exact bR ((aC [2,3] [2,3] U))
 ·rintro ads h0
  have q:=si h0;subst q
  exact sr (s1 (bK (v:=.d (dS ads)) U (ak Rf ahi U U)) (s0 (jF U U (sB (d':=.d (dS ads)) Rf U U U U U U U)) (sn (aM (bM (aC (e':=[(6,.ref 0 0 0)]) [0] [0] U) (xE U (ak Rf ahi U U) aW) U)))))
noncomputable def nQ (p0:aL) (p1:List (List aj)):Option (List Int×List dY):=
 dem ([]:List (Nat×List aU)) (fun DT=>
 ah (α:=(List (Nat×List aU)))
 (ah (α:=(List (Nat×List aU)))
 (loop (Y:=(List (Nat×List aU))×Int) (W:=(List (Nat×List aU))) (fun (VB,Q6)=>
 bif (decide (Q6 < (p1.length:Int))) then
 ah (bP [DT] (0:Int)) fun ZY=>
 ah (bP p1 Q6) fun ZX=>
 ah (fu p0 ZX) fun Wi=>
 ah (bP p1 Q6) fun ZW=>
 ah (qy ZW) fun Wh=>
 ah (FZ VB ZY) fun ZV=>
 ah (gQ (mD.mk (0:UInt64) (1:Int) Wi (0:UInt64) Wh (0:Int) (0:UInt64)) ZV) fun afu=>
 some (Sum.inl ((JE VB ZY afu),(bL (Q6+(1:Int)))))
 else
 some (Sum.inr VB)) ((([]:List (Nat×List aU))++[(DT,([]:List aU))]),(0:Int)))
 (fun e=>some e))
 fun ae3=>
 cps (Y:=(List (Nat×List aU))×(List Int)×(List Nat)) (fun κ=>
 LC (Y:=(List (Nat×List aU))×(List Int)×(List Nat)×Int) (fun ρ=>
 fun (Vy,zY,zX,Di)=>
 bif (decide (Di < (p0.bn.length:Int))) then
 cps (Y:=(List (Nat×List aU))×(List Int)×(List Nat)) (fun κ=>
 dem Vy (fun Ar=>
 ah (α:=(List (Nat×List aU)))
 (ah (α:=(List (Nat×List aU)))
 (loop (Y:=(List (Nat×List aU))×Int) (W:=(List (Nat×List aU))) (fun (QZ,QY)=>
 ah (α:=Bool)
 (bif (decide (QY < (p1.length:Int))) then
 ah (bP p0.bn Di) fun aff=>
 some aff.Ready
 else
 some false)
 fun aeX=>
 bif aeX then
 ah (bP p0.bn Di) fun VQ=>
 ah (bP p1 QY) fun ZU=>
 ah (uy p0 VQ ZU) fun IZ=>
 ah (FZ QZ Ar) fun ZT=>
 ah (gQ (mD.mk (0:UInt64) (1:Int) IZ.Key (0:UInt64) IZ.Val (0:Int) (0:UInt64)) ZT) fun aft=>
 some (Sum.inl ((JE QZ Ar aft),(bL (QY+(1:Int)))))
 else
 some (Sum.inr QZ)) ((Vy++[(Ar,([]:List aU))]),(0:Int)))
 (fun e=>some e))
 fun aeY=>
 ah (bP p0.bn Di) fun NM=>
 bif decide ((zY.length+[NM.Tree].length)*8≤room) then
 bif decide ((zX.length+[Ar].length)*8≤room) then
 κ (aeY,(zY++[NM.Tree]),(zX++[Ar]))
 else none
 else none))
 (fun (ae1,ae0,aeZ)=>
 ρ (ae1,ae0,aeZ,(bL (Di+(1:Int)))))
 else
 κ (Vy,zY,zX)) 1000 (ae3,[p0.Tree],[DT],(0:Int)))
 (fun (ae2,VA,Vz)=>
 ah (List.mapM (FZ ae2) Vz) fun zz=>some (VA,List.map dY.mk zz)))
theorem Bq (p0:aL) (p1:List (List aj)) (r:List Int×List dY) (h0:nQ p0 p1=some r):aT Tryz.prog 14 [.d (bE p0),.d ((eL 1 (eL 3 au)) p1)] [] (.tuple [.d ((eL 1 eI) r.1),.d ((eL 1 (eP kG)) r.2)]) []:=by
 unfold nQ at h0
 refine fnz [0,1] Tryz.func14 U U U U U ?_
 refine srp (s1 (nN (k:=0) U U U) (s1 (jA (v:=.d .dB) U) (s1 (jA (v:=.d .dB) U) (snp (srp (s1 (far (k:=4) U U6 dH U) (s1 (bK U (ak dH gV U U)) (s1 (rX (k:=1) (ds:=List.map eI [p0.Tree]) (off:=0) (l':=[p0.Tree].length) U iJ TV U U (by rfl) U U U) (sa U ?_)))))))))
 refine snp (srQ (XR 0 U (by intro j w hh;cases hh <;> decide) (s1 (vg U (acy )) (SO.nil (XR 1 U (by intro j w hh;cases hh <;> decide) (s1 (nN (k:=2) U U U) (SO.nil ?_)))))))
 (refine plR (f:=(eL 6 bC)) (z:=([]:List aU)) (k:=2) (σ:=[.box (.d (bE p0)),.row 1 (List.map eI [p0.Tree]) true]) (v:=.d (.agg [.dB])) h0 U U U (jX.cons (AW.nl _) jX.nil) U U (fun DT h0=>?_))
 refine XR 2 U (by intro j w hh;cases hh <;> decide) (s1 (rX (k:=2) (ds:=List.map D.y7 [DT]) (off:=0) (l':=[DT].length) U aag ai1 U U (by rfl) U U U) (SO.nil (XR 3 U (by intro j w hh;cases hh <;> decide) (sa U (SO.nil (Jh.nil (gW.dw h0 (fun y=>(⟨mk 97 [(1,.d ((eL 1 (eL 3 au)) p1)),(2,.ref 0 0 0),(6,.slc 1 1 0 ([p0.Tree].length) none),(7,.slc 2 1 0 ([DT].length) none)],[.box (.d (bE p0)),.row 1 (List.map eI [p0.Tree]) true,.row 1 (List.map D.y7 [DT]) true]⟩,(QO (eL 6 bC)) y)) ?_ ?_)))))))
 ·intro apK h1
  obtain ⟨apC,h2,h1⟩:=ob h1
  refine srp (sa U (snp (gW.blk (gW.eH h2 (fun y=>(⟨mk 97 [(1,.d ((eL 1 (eL 3 au)) p1)),(2,.ref 0 0 0),(6,.slc 1 1 0 ([p0.Tree].length) none),(7,.slc 2 1 0 ([DT].length) none),(8,.d (eI y.2))],[.box (.d (bE p0)),.row 1 (List.map eI [p0.Tree]) true,.row 1 (List.map D.y7 [DT]) true]⟩,(QO (eL 6 bC)) y.1)) (zU.of (wq U) U) ?_))))
  intro au2
  rintro ⟨VB,Q6⟩ ao6 h3 hv3
  refine sqp (srp (sm U (sm U (s1 (len U U U (bN mZ)) (s1 (bi U U bB) (snp (cBp h3 U (fun h3=>?_) (fun h3=>?_))))))))
  ·obtain ⟨ZY,abh,h3⟩:=ob h3;obtain ⟨ZX,abg,h3⟩:=ob h3;obtain ⟨Wi,ah1,h3⟩:=ob h3;obtain ⟨ZW,abf,h3⟩:=ob h3;obtain ⟨Wh,ah0,h3⟩:=ob h3;obtain ⟨ZV,ahN,h3⟩:=ob h3;obtain ⟨afu,ahZ,h3⟩:=ob h3
   refine skp (sqp (gW.blk (drL 15 (by kernel_rfl) U (by kernel_rfl) (t1 aH (mv U) U (t1 aH (Yz U U aag adJ (pO abh)) U (t1 ([2],false) (bK U (jD adJ akq U (bI (aB abh).2) U)) U (t1 ([0],false) (bK (v:=.d (bE p0)) U (ak oU uQ U U)) U (t1 aH (mv U) U (t1 aH (mv U) U ?_)))))))))
   refine t1 aH (kV U U mZ ni (aB abg).1 (bI (aB abg).2) U) U (t1 aH (bK U (bY ni zk U)) U (Hg (ou p0 ZX _ ah1) wf U U U aez U (fun _=>rfl) (fun _=>rfl) (t1 aH (mv U) U (t1 aH (mv U) U (t1 aH (kV U U mZ ni (aB abf).1 (bI (aB abf).2) U) U (t1 aH (bK U (bY ni zk U)) U (Hg (Bv ZW _ ah0) wf U U U anN U (fun _=>rfl) (fun _=>rfl) (t1 aH (vg U (Mf (1:Int) Wi Wh)) U (tnL (by decide +kernel) ?_)))))))))
   refine pcQ (MJ.inj (aT.anp (qU (mD.mk (0:UInt64) (1:Int) Wi (0:UInt64) Wh (0:Int) (0:UInt64)) ZV _ ahZ) U (yO U U) U) U U (Wu ahN) U U Wt) wf U U U anZ U U id (Jh.nil ?_)
   change gW _ _ _ _ _ _
   have q:=si h3;subst q
   exact gW.region (sm U (s1 (bi U U bH) (sa U (SO.nil (lfp (wq U) U)))))
  ·have q:=si h3;subst q;have q:_=_:=hv3;subst q;have q:=si h1;subst q
   exact gW.exit (zU.of (wq U) U)
 ·rintro ae3 h0
  refine gW.akz h0 (fun y=>(⟨mk 97 [(6,.slc 0 1 0 y.2.1.length none),(7,.slc 1 1 0 y.2.2.length none)],[.row 1 (List.map eI y.2.1) true,.row 1 (List.map D.y7 y.2.2) true]⟩,(QO (eL 6 bC)) y.1)) ?_ ?_
  ·intro κ h0
   refine srp (sa U (snp (gW.blk (gW.ak2 h0 (fun y=>(⟨mk 97 [(1,.d ((eL 1 (eL 3 au)) p1)),(2,.ref 0 0 0),(6,.slc 1 1 0 y.2.1.length none),(7,.slc 2 1 0 y.2.2.1.length none),(9,.d (eI y.2.2.2))],[.box (.d (bE p0)),.row 1 (List.map eI y.2.1) true,.row 1 (List.map D.y7 y.2.2.1) true]⟩,(QO (eL 6 bC)) y.1)) (zU.of (wq U) U) ?_))))
   intro ρ
   rintro ⟨Vy,zY,zX,Di⟩ h0
   refine sqp (srp (sm U (s1 (far (k:=3) U sV uh U) (s1 (bK U (ak uh Js U U)) (s1 (len U U U (bN Fv)) (s1 (bi U U bB) (snp (cBp h0 U (fun h0=>?_) (fun h0=>?_)))))))))
   ·refine skp (gW.akz h0 (fun y=>(⟨mk 97 [(1,.d ((eL 1 (eL 3 au)) p1)),(2,.ref 0 0 0),(6,.slc 1 1 0 y.2.1.length none),(7,.slc 2 1 0 y.2.2.length none),(9,.d (eI Di))],[.box (.d (bE p0)),.row 1 (List.map eI y.2.1) true,.row 1 (List.map D.y7 y.2.2) true]⟩,(QO (eL 6 bC)) y.1)) ?_ ?_)
    ·intro κ h0
     refine gW.blk (srQ (XR 0 U (by intro j w hh;cases hh <;> decide) (s1 (vg U (acy )) (SO.nil (XR 1 U (by intro j w hh;cases hh <;> decide) (s1 (nN (k:=3) U U U) (SO.nil ?_)))))))
     (refine plR (f:=(eL 6 bC)) (z:=([]:List aU)) (k:=3) (σ:=[.box (.d (bE p0)),.row 1 (List.map eI zY) true,.row 1 (List.map D.y7 zX) true]) (v:=.d (.agg [.dB])) h0 U U U (jX.cons (AW.nl _) jX.nil) U U (fun Ar h0=>?_))
     refine XR 2 U (by intro j w hh;cases hh <;> decide) (sa U (SO.nil (Jh.nil (gW.dw h0 (fun y=>(⟨mk 97 [(1,.d ((eL 1 (eL 3 au)) p1)),(2,.ref 0 0 0),(6,.slc 1 1 0 zY.length none),(7,.slc 2 1 0 zX.length none),(9,.d (eI Di)),(10,.d (D.y7 Ar))],[.box (.d (bE p0)),.row 1 (List.map eI zY) true,.row 1 (List.map D.y7 zX) true]⟩,(QO (eL 6 bC)) y)) ?_ ?_))))
     ·intro apJ h1
      obtain ⟨apB,h2,h1⟩:=ob h1
      refine srp (sa U (snp (gW.blk (gW.eH h2 (fun y=>(⟨mk 97 [(1,.d ((eL 1 (eL 3 au)) p1)),(2,.ref 0 0 0),(6,.slc 1 1 0 zY.length none),(7,.slc 2 1 0 zX.length none),(9,.d (eI Di)),(10,.d (D.y7 Ar)),(11,.d (eI y.2))],[.box (.d (bE p0)),.row 1 (List.map eI zY) true,.row 1 (List.map D.y7 zX) true]⟩,(QO (eL 6 bC)) y.1)) (zU.of (wq U) U) ?_))))
      intro au1
      rintro ⟨QZ,QY⟩ ao5 h3 hv3
      refine sqp (gW.dw h3 (fun y=>(⟨mk 97 [(1,.d ((eL 1 (eL 3 au)) p1)),(2,.ref 0 0 0),(6,.slc 1 1 0 zY.length none),(7,.slc 2 1 0 zX.length none),(9,.d (eI Di)),(10,.d (D.y7 Ar)),(11,.d (eI QY)),(61,.d (eB y))],[.box (.d (bE p0)),.row 1 (List.map eI zY) true,.row 1 (List.map D.y7 zX) true]⟩,(QO (eL 6 bC)) QZ)) ?_ ?_)
      ·intro apu h4
       refine gW.region (sm U (sm U (s1 (len U U U (bN mZ)) (s1 (bi U U bB) (sm U (sp h4 (fun h4=>?_) (fun h4=>?_)))))))
       ·obtain ⟨aff,abe,h4⟩:=ob h4;have q:=si h4;subst q
        exact gw U (far (k:=3) U sV uh U) (gw U (bK U (ak uh Js U U)) (gw U (mv U) (gw U (kV U U Fv DZ (aB abe).1 (bI (aB abe).2) U) (gw U (fap U aiN nu U) (gw U (bK U (bY nu FB U)) (s1 (pkt U U) (SO.nil (zU.of (wq U) U))))))))
       ·have q:=si h4;subst q
        exact kw U (kw U (kw U (kw U (kw U (kw U (s1 (eT U U) (SO.nil (zU.of (wq U) U))))))))
      ·rintro aeX h3
       refine cBp h3 U (fun h3=>?_) (fun h3=>?_)
       ·obtain ⟨VQ,abd,h3⟩:=ob h3;obtain ⟨ZU,abb,h3⟩:=ob h3;obtain ⟨IZ,ahY,h3⟩:=ob h3;obtain ⟨ZT,ahM,h3⟩:=ob h3;obtain ⟨aft,ahX,h3⟩:=ob h3
        refine skp (sqp (gW.blk (sdp (by kernel_rfl) (t1 ([0],false) (bK (v:=.d (bE p0)) U (ak oU uQ U U)) U (t1 aH (far (k:=3) U sV uh U) U (t1 ([0],false) (bK U (ak uh Js U U)) U (t1 aH (mv U) U (t1 aH (kV U U Fv DZ (aB abd).1 (bI (aB abd).2) U) U (t1 aH (bK (v:=.d (bF VQ)) U (bY DZ XL U)) U ?_)))))))))
        refine t1 aH (mv U) U (t1 aH (mv U) U (t1 aH (kV U U mZ ni (aB abb).1 (bI (aB abb).2) U) U (t1 aH (bK U (bY ni zk U)) U (tq [] [3] ([3],true) (KU p0 VQ ZU _ ahY) wf U U U atY U U U U U U U U U (t1 ([4],true) (yA (k:=4) ac1 U) U (t0 ([4],true) (jF U U (sB (d':=.d (dS IZ)) Rf U U U U U U U)) U (tnp (by decide +kernel) (gW.Pk (XR 0 U (by intro j w hh;cases hh <;> decide) ?_)))))))))
        refine sm U (SO.nil (XR 1 U (by intro j w hh;cases hh <;> decide) (s1 (far (k:=0) U aiL iA U) (SO.nil (XR 2 U (by intro j w hh;cases hh <;> decide) (s1 (bK U (ak iA qw U U)) (SO.nil (XR 3 U (by intro j w hh;cases hh <;> decide) (s1 (far (k:=1) U U1 iA U) ?_)))))))))
        refine SO.nil (XR 4 U (by intro j w hh;cases hh <;> decide) (s1 (bK U (ak iA qw U U)) (SO.nil (XR 5 U (by intro j w hh;cases hh <;> decide) (s1 (vg U (Mf (1:Int) IZ.Key IZ.Val)) (SO.nil (pcQ (MJ.inj (aT.anp (qU (mD.mk (0:UInt64) (1:Int) IZ.Key (0:UInt64) IZ.Val (0:Int) (0:UInt64)) ZT _ ahX) U (yO U U) U) U U (Wu ahM) U U Wt) wf U U U anZ U U id (Jh.nil ?_))))))))
        change gW _ _ _ _ _ _
        have q:=si h3;subst q
        exact gW.region (sm U (s1 (bi U U bH) (sa U (SO.nil (lfp (aC [0,1,2] [0,1,2] U) U)))))
       ·have q:=si h3;subst q;have q:_=_:=hv3;subst q;have q:=si h1;subst q
        exact gW.exit (zU.of (wq U) U)
     ·rintro aeY h0
      obtain ⟨NM,aa9,h0⟩:=ob h0;obtain ⟨aiz,h0⟩:=gd h0;obtain ⟨aiy,h0⟩:=gd h0
      refine srp (sm U (s1 (far (k:=3) U sV uh U) (s1 (bK U (ak uh Js U U)) (sm U (s1 (kV U U Fv DZ (aB aa9).1 (bI (aB aa9).2) U) (s1 (fap U abV dH U) (s1 (bK U (bY dH gV U)) (s1 (rX (k:=3) (ds:=List.map eI [NM.Tree]) (off:=0) (l':=[NM.Tree].length) U iJ TV U U (by rfl) U U U) (s1 (app U U U U YN (aF (f:=eI) (xs:=zY) (k:=4) U iJ TV U (dU (xs:=[NM.Tree]) U) aiz U)) ?_)))))))))
      exact sa U (snp (gW.region (sm U (sm U (s1 (rX (k:=5) (ds:=List.map D.y7 [Ar]) (off:=0) (l':=[Ar].length) U aag ai1 U U (by rfl) U U U) (s1 (app U U U U bc42 (aF (f:=D.y7) (xs:=zX) (k:=6) U aag ai1 U (dU (xs:=[Ar]) U) aiy U)) (sa U (SO.nil (lfc h0 (aC [0,4,6] [0,4,6] U) U)))))))))
    ·rintro ⟨ae1,ae0,aeZ⟩ h0
     exact gW.region (sm U (s1 (bi U U bH) (sa U (SO.nil (lfc h0 (wq U) U)))))
   ·exact gW.exit (lfc h0 (aC [1,2] [1,2] U) U)
  ·rintro ⟨ae2,VA,Vz⟩ h0
   obtain ⟨zz,hz,h0⟩:=ob h0;have q:=si h0;subst q
   exact srp (sm U (sm U (sa U (sa U (snp (gW.ret (anq (Wk.trans (Wk.og (i:=4) (x:=.slc 0 1 0 VA.length none) U U (fF U U U)) (Wk.trans (Wk.og (i:=5) (x:=.slc 1 1 0 Vz.length none) U U (fF U U U)) (aC (e':=[(4,.d ((eL 1 eI) VA)),(5,.d ((eL 1 D.y7) Vz))]) [] [] U))) (bq U (bq U aW)) U (Vu.asb (Vu.refl _) (Vu.aus (F:=kG) (T:=dY.mk) (fun _=>rfl) hz)))))))))
noncomputable def kF (p0:ay):Option Unit:=
 some ()
theorem yN (p0:ay) (r:Unit) (h0:kF p0=some r):aT Tryz.prog 264 [.ref 0 0 0] [.box (.d (aI p0))] (.d (eB ((bL (p0.calls+(1:Int)))==p0.fail))) [.box (.d (aI (ay.mk p0.no p0.trees (bL (p0.calls+(1:Int))) p0.fail)))]:=by
 unfold kF at h0
 refine fn0 [0] Tryz.func264 U U U U U ?_
 have q:=si h0;subst q
 refine sr (sa U (sn (sr (sm U (s1 (lu U) (s1 (far (k:=2) U U4 dH U) (s1 (bK U (ak dH gV U U)) (s1 (bi U U bH) (s1 (lu U) ?_)))))))))
 refine s1 (far (k:=2) U U4 dH U) (s0 (jF U U (sB (d':=.d (aI (ay.mk p0.no p0.trees (bL (p0.calls+(1:Int))) p0.fail))) dH U U U U U U U)) (sn (sd (by kernel_rfl) (t1 aH (mv U) U (t1 aH (lu U) U (t1 aH (far (k:=2) U U4 dH U) U (t1 ([0],false) (bK U (ak dH gV U U)) U (t1 aH (mv U) U (t1 aH (lu U) U ?_)))))))))
 exact t1 aH (far (k:=3) U aiO dH U) U (t1 ([0],false) (bK U (ak dH gV U U)) U (t1 aH (bi U U bD) U (t1 aH (jA U) U (tn (by decide +kernel) (aM (bM (Wk.refl _) (bq U aW) U))))))
noncomputable def yI (p0:dG) (p1:List UInt8):Option Bool:=
 ah (α:=Bool)
 (bif (!(o8 p1 p0.Lo)) then
 bif p0.Open then
 some true
 else
 some (o8 p1 p0.Hi)
 else
 some false)
 fun y6=>
 some y6
theorem RB (p0:dG) (p1:List UInt8) (r:Bool) (h0:yI p0 p1=some r):aT Tryz.prog 26 [.d (iQ p0),.d (eS p1)] [] (.d (eB r)) []:=by
 unfold yI at h0
 refine fn0 [0,1] Tryz.func26 U U U U U ?_
 refine sr (s1 (nN (k:=0) U U U) (sa U (sn (SC.dw h0 (fun y=>⟨mk 19 [(4,.d (eB y))],[]⟩) ?_ ?_))))
 ·intro aaj h1
  refine aO (sm U (s1 (far (k:=0) U aiT iA U) (s1 (bK U (ak iA qw U U)) (s1 (bi U U N8) (sm U (sp h1 (fun h1=>?_) (fun h1=>?_)))))))
  ·refine gw U (far (k:=2) U aiR nu U) (gw U (bK U (ak nu FB U U)) (gw U (mv U) (sp h1 (fun h1=>?_) (fun h1=>?_))))
   ·have q:=si h1;subst q
    exact kw U (kw U (kw U (kw U (gw U (pkt U U) (s1 (pkt U U) (sa U (SO.nil ((aC [] [] U)))))))))
   ·have q:=si h1;subst q
    exact gw U (mv U) (gw U (far (k:=1) U aiS iA U) (gw U (bK U (ak iA qw U U)) (gw U (bi U U N7) (gw U (eT U U) (s1 (pkt U U) (sa U (SO.nil ((aC [] [] U)))))))))
  ·have q:=si h1;subst q
   refine kw U (kw U (kw U (kw U (kw U (kw U (kw U (kw U (s1 (eT U U) (sa U ?_)))))))))
   exact SO.nil ((aC [] [] U))
 ·rintro y6 h0
  have q:=si h0;subst q
  exact aM (bM (Wk.refl _) (bq U aW) U)
end Lv
