/- Part of the proof of a law. -/
import Derived.Calls
import Derived.Below
import Derived.Laws.Cells
import Derived.Laws.IdiomCopy
import Derived.WideLaws
import Derived.Laws.BytesString
import Derived.Lib.ConvBytes
import Derived.Laws.StructEq
set_option linter.unnecessarySimpa false
set_option linter.unusedVariables false
set_option linter.unusedSimpArgs false
set_option linter.unusedSectionVars false
/- Abstract values and memory for a deterministic evaluator of Go code, and how they stand to the machine's values and world. -/
namespace Lv
open Go
inductive D where
 | int (k:IntKind) (n:Int)
 | bool (b:Bool)
 | str (s:ByteArray)
 | Ga | dB | R8 | wO | Nt
 | agg (cs:List D)
 | y8 (sz:Nat) (xs:List D)
 | y7 (b:Nat)
 | ptr (cs:List D)
 deriving Inhabited
def D.cells:D→List D
 | .agg cs=>cs
 | x=>[x]
def D.isAgg:D→Bool
 | .agg _=>true
 | _=>false
def D.F8 (sz:Nat) (x:D):Prop:=x.cells.length=sz∧∀c∈x.cells,c.isAgg=false
inductive AV where
 | undef
 | d (x:D)
 | ref (id idx off:Nat)
 | rop (cs:List D)
 | slc (id sz off len:Nat) (cap:Option Nat)
 | agg (cs:List AV)
 | tuple (vs:List AV)
 | fn (f:Fn) (first caps:List AV)
 | uW (id:Nat)
 | iface (t:TypeId) (v:AV)
 deriving Inhabited
def AV.cells:AV→List AV
 | .d (.agg cs)=>cs.map .d
 | .agg cs=>cs
 | x=>[x]
def AV.isAgg:AV→Bool
 | .d (.agg _)=>true
 | .agg _=>true
 | _=>false
def AV.one:AV→Bool
 | .d x=> !x.isAgg
 | .ref _ _ _=>true
 | .rop _=>true
 | .slc _ _ _ _ _=>true
 | .fn _ _ _=>true
 | .uW _=>true
 | .iface _ _=>true
 | _=>false
inductive Ob where
 | dead
 | box (x:AV)
 | row (sz:Nat) (xs:List D) (wr:Bool)
 | map (es:List (D×D))
 deriving Inhabited
def Ob.live:Ob→Bool
 | .dead=>false
 | _=>true
def Ob.wr:Ob→Bool
 | .dead=>false
 | .box _=>true
 | .row _ _ w=>w
 | .map _=>true
theorem Ob.gT {o:Ob} (h:o.wr=true):o.live=true:=by cases o <;> simp_all [Ob.wr,Ob.live]
abbrev Ro:=Addr→Option Value
def cellAt (b o:Nat):Addr:=⟨b,o,none⟩
inductive DR (ro:Ro):D→Value→Prop
 | int (k n):DR ro (.int k n) (.int k n)
 | bool (b):DR ro (.bool b) (.bool b)
 | str (s):DR ro (.str s) (.string s)
 | Ga:DR ro .Ga (.pointer none)
 | dB:DR ro .dB (.slice none 0 0)
 | R8:DR ro .R8 (.map none)
 | wO:DR ro .wO .nilFunc
 | Nt:DR ro .Nt .nilIface
 | nl (sz:Nat):DR ro (.y8 sz []) (.slice none 0 0)
 | y7 (b:Nat):DR ro (.y7 b) (.pointer (some (cellAt b 0)))
 | ptr (cs:List D) (b o:Nat) (g:Nat→Value) (h1:∀(j:Nat) (c:D),cs[j]?=some c→ro (cellAt b (o+j))=some (g j)) (h2:∀(j:Nat) (c:D),cs[j]?=some c→DR ro c (g j)):DR ro (.ptr cs) (.pointer (some (cellAt b o)))
 | agg (cs:List D) (vs:Array Value) (hs:vs.size=cs.length) (h:∀(i:Nat) (x:D) (v:Value),cs[i]?=some x→vs[i]?=some v→DR ro x v):DR ro (.agg cs) (.agg vs)
 | y8 (sz:Nat) (xs:List D) (a:Addr) (cap:Nat) (g:Nat→Value) (hc:xs.length≤cap) (ha:xs≠[]→a.spot=none)
   (hz:∀(i:Nat) (x:D),xs[i]?=some x→x.F8 sz)
   (h1:∀(i:Nat) (x:D) (j:Nat) (c:D),xs[i]?=some x→x.cells[j]?=some c→ro (cellAt a.block (a.off+(i*sz+j)))=some (g (i*sz+j)))
   (h2:∀(i:Nat) (x:D) (j:Nat) (c:D),xs[i]?=some x→x.cells[j]?=some c→DR ro c (g (i*sz+j))):DR ro (.y8 sz xs) (.slice (some a) xs.length cap)
theorem DR.mono {ro ro':Ro} (hr:∀a v,ro a=some v→ro' a=some v) {x:D} {v:Value} (h:DR ro x v):DR ro' x v:=by
 induction h with
 | int k n=>exact .int k n
 | bool b=>exact .bool b
 | str s=>exact .str s
 | Ga=>exact .Ga
 | dB=>exact .dB
 | R8=>exact .R8
 | wO=>exact .wO
 | Nt=>exact .Nt
 | nl sz=>exact .nl sz
 | y7 b=>exact .y7 b
 | ptr cs b o g h1 _ ih=>exact .ptr cs b o g (fun j c hj=>hr _ _ (h1 j c hj)) ih
 | agg cs vs hs _ ih=>exact .agg cs vs hs ih
 | y8 sz xs a cap g hc ha hz h1 _ ih=>exact .y8 sz xs a cap g hc ha hz (fun i x j c hx hj=>hr _ _ (h1 i x j c hx hj)) ih
structure Loc where
 blk:Nat
 base:Nat
 sz:Nat
 lim:Nat
abbrev Mu:=Nat→Option Loc
inductive VR (ro:Ro) (μ:Mu):AV→Value→Prop
 | undef (v):VR ro μ .undef v
 | d (x v) (h:DR ro x v):VR ro μ (.d x) v
 | ref (id idx off:Nat) (L:Loc) (h:μ id=some L):VR ro μ (.ref id idx off) (.pointer (some (cellAt L.blk (L.base+idx*L.sz+off))))
 | rop (cs:List D) (b o:Nat) (g:Nat→Value) (h1:∀(j:Nat) (c:D),cs[j]?=some c→ro (cellAt b (o+j))=some (g j)) (h2:∀(j:Nat) (c:D),cs[j]?=some c→DR ro c (g j)):VR ro μ (.rop cs) (.pointer (some (cellAt b o)))
 | slc (id sz off len:Nat) (cap:Option Nat) (L:Loc) (c:Nat) (a:Addr) (h:μ id=some L) (hsz:L.sz=sz) (hl:len≤c) (hc:∀k,cap=some k→c=k)
   (ha:c≠0→a=cellAt L.blk (L.base+off*sz)∧off*sz+c*sz≤L.lim):VR ro μ (.slc id sz off len cap) (.slice (some a) len c)
 | mH (id sz off:Nat):VR ro μ (.slc id sz off 0 none) (.slice none 0 0)
 | agg (cs:List AV) (vs:Array Value) (hs:vs.size=cs.length) (h:∀(i:Nat) (x:AV) (v:Value),cs[i]?=some x→vs[i]?=some v→VR ro μ x v):VR ro μ (.agg cs) (.agg vs)
 | tuple (cs:List AV) (vs:Array Value) (hs:vs.size=cs.length) (h:∀(i:Nat) (x:AV) (v:Value),cs[i]?=some x→vs[i]?=some v→VR ro μ x v):VR ro μ (.tuple cs) (.tuple vs)
 | fn (f) (cs ds:List AV) (vs us:Array Value) (hs:vs.size=cs.length) (ht:us.size=ds.length) (h:∀(i:Nat) (x:AV) (v:Value),cs[i]?=some x→vs[i]?=some v→VR ro μ x v)
   (k:∀(i:Nat) (x:AV) (v:Value),ds[i]?=some x→us[i]?=some v→VR ro μ x v):VR ro μ (.fn f cs ds) (.func f vs us)
 | uW (id:Nat) (L:Loc) (h:μ id=some L):VR ro μ (.uW id) (.map (some L.blk))
 | iface (t x v) (h:VR ro μ x v):VR ro μ (.iface t x) (.iface t v)
theorem VR.mono {ro ro':Ro} {μ μ':Mu} (hr:∀a v,ro a=some v→ro' a=some v) (hm:∀i L,μ i=some L→μ' i=some L) {x:AV} {v:Value} (h:VR ro μ x v):VR ro' μ' x v:=by
 induction h with
 | undef v=>exact .undef v
 | d x v h=>exact .d x v (h.mono hr)
 | ref id idx off L h=>exact .ref id idx off L (hm _ _ h)
 | rop cs b o g h1 h2=>exact .rop cs b o g (fun j c hj=>hr _ _ (h1 j c hj)) (fun j c hj=>(h2 j c hj).mono hr)
 | slc id sz off len cap L c a h hsz hl hc ha=>exact .slc id sz off len cap L c a (hm _ _ h) hsz hl hc ha
 | mH id sz off=>exact .mH id sz off
 | agg cs vs hs _ ih=>exact .agg cs vs hs ih
 | tuple cs vs hs _ ih=>exact .tuple cs vs hs ih
 | fn f cs ds vs us hs ht _ _ ih ih'=>exact .fn f cs ds vs us hs ht ih ih'
 | uW id L h=>exact .uW id L (hm _ _ h)
 | iface t x v _ ih=>exact .iface t x v ih
structure oo (ro:Ro) (μ:Mu) (xs:List AV) (vs:Array Value):Prop where
 size:vs.size=xs.length
 get:∀(i:Nat) (x:AV) (v:Value),xs[i]?=some x→vs[i]?=some v→VR ro μ x v
theorem oo.mono {ro ro':Ro} {μ μ':Mu} (hr:∀a v,ro a=some v→ro' a=some v) (hm:∀i L,μ i=some L→μ' i=some L) {x:List AV} {v:Array Value} (h:oo ro μ x v):oo ro' μ' x v:=
 ⟨h.size,fun i x v hx hv=>(h.get i x v hx hv).mono hr hm⟩
def vW (fz:Nat×Nat) (n:Nat):Prop:=fz.1≤fz.2∧∀o,o < n→¬(fz.1≤o∧o < fz.2)
structure MR (ro:Ro) (es:List (D×D)) (E:Array MapEntry):Prop where
 size:E.size=es.length
 get:∀(i:Nat) (x:D×D) (e:MapEntry),es[i]?=some x→E[i]?=some e→DR ro x.1 e.key∧DR ro x.2 e.val
theorem MR.mono {ro ro':Ro} (hr:∀a v,ro a=some v→ro' a=some v) {es:List (D×D)} {E:Array MapEntry} (h:MR ro es E):MR ro' es E:=
 ⟨h.size,fun i x e hx he=>⟨(h.get i x e hx he).1.mono hr,(h.get i x e hx he).2.mono hr⟩⟩
def OR (ro:Ro) (μ:Mu) (w:World) (id:Nat):Ob→Prop
 | .dead=>True
 | .box x=>∀L,μ id=some L→∃C T fz,L.base=0∧w.heap[L.blk]?=some (.cells C T fz)∧vW fz C.size∧oo ro μ x.cells C
 | .row sz xs wr=>∀L,μ id=some L→∃C T fz,L.sz=sz∧w.heap[L.blk]?=some (.cells C T fz)∧vW fz C.size∧C.size=L.base+L.lim∧xs.length*sz≤L.lim∧
   (wr=false→∀o v,C[o]?=some v→ro (cellAt L.blk o)=some v)∧
   (∀(i:Nat) (x:D),xs[i]?=some x→x.F8 sz)∧
   (∀(i:Nat) (x:D) (j:Nat) (c:D),xs[i]?=some x→x.cells[j]?=some c→∃v,C[L.base+(i*sz+j)]?=some v∧DR ro c v)
 | .map es=>∀L,μ id=some L→∃E c,w.heap[L.blk]?=some (.map E c)∧MR ro es E
abbrev Hp:=Nat→Ob
def hp (σ:List Ob):Hp:=fun i=>match σ[i]? with
 | some o=>o
 | none=>.dead
def WB (H:Hp) (μ:Mu) (b:Nat):Prop:=∃(id:Nat) (L:Loc),(H id).wr=true∧μ id=some L∧L.blk=b
def LB (H:Hp) (μ:Mu) (b:Nat):Prop:=∃(id:Nat) (L:Loc),(H id).live=true∧μ id=some L∧L.blk=b
theorem WB.lb {H:Hp} {μ:Mu} {b:Nat} (h:WB H μ b):LB H μ b:=let ⟨i,L,h1,h2,h3⟩:=h;⟨i,L,Ob.gT h1,h2,h3⟩
class bJ where
 tab:Ro
variable [bJ]
structure Good (ro:Ro) (μ:Mu) (w:World) (H:Hp):Prop where
 qJ:∀a v,ro a=some v→w.cell? a=some v
 ob:∀(id:Nat),OR ro μ w id (H id)
 apart:∀(id id':Nat) (L L':Loc),(H id).wr=true→(H id').live=true→μ id=some L→μ id'=some L'→L.blk=L'.blk→id=id'
 gu:∀b,WB H μ b→∀a,a.block=b→ro a=none
 base:∀a v,bJ.tab a=some v→ro a=some v
theorem OR.lt {ro:Ro} {μ:Mu} {w:World} {id:Nat} {o:Ob} {L:Loc} (h:OR ro μ w id o) (ho:o.live=true) (hm:μ id=some L):L.blk < w.heap.size:=by
 have key:∀C T fz,w.heap[L.blk]?=some (Obj.cells C T fz)→L.blk < w.heap.size:=by
  intro C T fz e
  rcases Nat.lt_or_ge L.blk w.heap.size with h | h
  ·exact h
  ·simp [Array.getElem?_eq_none h] at e
 cases o with
 | dead=>simp [Ob.live] at ho
 | box x=>obtain ⟨C,T,fz,_,e,_⟩:=h L hm;exact key _ _ _ e
 | row sz xs wr=>obtain ⟨C,T,fz,_,e,_⟩:=h L hm;exact key _ _ _ e
 | map es=>
  obtain ⟨E,c,e,_⟩:=h L hm
  rcases Nat.lt_or_ge L.blk w.heap.size with h | h
  ·exact h
  ·simp [Array.getElem?_eq_none h] at e
theorem Good.lt {ro:Ro} {μ:Mu} {w:World} {H:Hp} (h:Good ro μ w H) {b:Nat} (hb:LB H μ b):b < w.heap.size:=by
 obtain ⟨id,L,h1,h2,rfl⟩:=hb
 exact (h.ob id).lt h1 h2
structure Ext (ro:Ro) (μ:Mu) (w:World) (H:Hp) (ro':Ro) (μ':Mu) (w':World) (H':Hp):Prop where
 Ll:∀i L,μ i=some L→μ' i=some L
 jC:∀a v,ro a=some v→ro' a=some v
 kr:∀a v,ro' a=some v→ro a=some v∨w.heap.size≤a.block∨WB H μ a.block
 jE:∀b,WB H' μ' b→w.heap.size≤b∨WB H μ b
 lJ:∀b,LB H' μ' b→w.heap.size≤b∨LB H μ b
 frame:∀b,b < w.heap.size→¬WB H μ b→w'.heap[b]?=w.heap[b]?
 size:w.heap.size≤w'.heap.size
 os:w'.os=w.os
 tape:w'.tape=w.tape
 output:w'.output=w.output
theorem Ext.refl (ro:Ro) (μ:Mu) (w:World) (H:Hp):Ext ro μ w H ro μ w H:=
 ⟨fun _ _ h=>h,fun _ _ h=>h,fun _ _ h=>.inl h,fun _ h=>.inr h,fun _ h=>.inr h,fun _ _ _=>rfl,Nat.le_refl _,rfl,rfl,rfl⟩
theorem Ext.trans {ro qK Rx:Ro} {μ y9 MK:Mu} {w w1 w2:World} {H H1 H2:Hp} (h:Ext ro μ w H qK y9 w1 H1) (k:Ext qK y9 w1 H1 Rx MK w2 H2):Ext ro μ w H Rx MK w2 H2 where
 Ll i L hi:=k.Ll _ _ (h.Ll _ _ hi)
 jC a v hi:=k.jC _ _ (h.jC _ _ hi)
 kr a v hi:=by
  rcases k.kr a v hi with h1 | h1 | h1
  ·exact h.kr a v h1
  ·exact .inr (.inl (Nat.le_trans h.size h1))
  ·exact .inr (h.jE _ h1)
 jE b hb:=by
  rcases k.jE b hb with h1 | h1
  ·exact .inl (Nat.le_trans h.size h1)
  ·exact h.jE _ h1
 lJ b hb:=by
  rcases k.lJ b hb with h1 | h1
  ·exact .inl (Nat.le_trans h.size h1)
  ·exact h.lJ _ h1
 frame b hb hn:=by
  rw [k.frame b (Nat.lt_of_lt_of_le hb h.size) (fun hw=>(h.jE b hw).elim (fun x=>by omega) hn)]
  exact h.frame b hb hn
 size:=Nat.le_trans h.size k.size
 os:=k.os.trans h.os
 tape:=k.tape.trans h.tape
 output:=k.output.trans h.output
theorem mY {w w':World} {a:Addr} (h:w'.heap[a.block]?=w.heap[a.block]?):w'.cell? a=w.cell? a:=by
 unfold World.cell?;rw [h]
theorem OR.keep {ro ro':Ro} {μ μ':Mu} {w w':World} {id:Nat} {o:Ob} (h:OR ro μ w id o) (hr:∀a v,ro a=some v→ro' a=some v) (hm:∀i L,μ i=some L→μ' i=some L)
  (he:μ' id=μ id) (hb:∀L,μ id=some L→w'.heap[L.blk]?=w.heap[L.blk]?):OR ro' μ' w' id o:=by
 cases o with
 | dead=>trivial
 | box x=>
  intro L hL
  rw [he] at hL
  obtain ⟨C,T,fz,h0,e,hf,hv⟩:=h L hL
  exact ⟨C,T,fz,h0,(hb L hL).trans e,hf,hv.mono hr hm⟩
 | row sz xs wr=>
  intro L hL
  rw [he] at hL
  obtain ⟨C,T,fz,h0,e,hf,hs,hl,hw,hz,hv⟩:=h L hL
  exact ⟨C,T,fz,h0,(hb L hL).trans e,hf,hs,hl,fun k o v hv=>hr _ _ (hw k o v hv),hz,fun i x j c hx hj=>let ⟨v,h1,h2⟩:=hv i x j c hx hj;⟨v,h1,h2.mono hr⟩⟩
 | map es=>
  intro L hL
  rw [he] at hL
  obtain ⟨E,c,e,hm'⟩:=h L hL
  exact ⟨E,c,(hb L hL).trans e,hm'.mono hr⟩
theorem Good.merge {ro ro':Ro} {μ μ':Mu} {w w':World} {H H1 H1':Hp} (D:Nat→Prop) [DecidablePred D] (h:Good ro μ w H)
  (hsub:∀id,H1 id=H id∨H1 id=.dead) (hD:∀id,¬D id→H1 id=.dead∧H1' id=.dead∧μ' id=μ id)
  (g:Good ro' μ' w' H1') (x:Ext ro μ w H1 ro' μ' w' H1'):
  Good ro' μ' w' (fun id=>if D id then H1' id else H id)∧Ext ro μ w H ro' μ' w' (fun id=>if D id then H1' id else H id):=by
 have hwb:∀b,WB H1 μ b→WB H μ b:=by
  rintro b ⟨id,L,h1,h2,h3⟩
  rcases hsub id with e | e
  ·exact ⟨id,L,e▸h1,h2,h3⟩
  ·rw [e] at h1;simp [Ob.wr] at h1
 have hlb:∀b,LB H1 μ b→LB H μ b:=by
  rintro b ⟨id,L,h1,h2,h3⟩
  rcases hsub id with e | e
  ·exact ⟨id,L,e▸h1,h2,h3⟩
  ·rw [e] at h1;simp [Ob.live] at h1
 -- a block of an object outside of D is none that the part may write
 have hout:∀id L,¬D id→(H id).live=true→μ id=some L→¬WB H1 μ L.blk:=by
  rintro id L hd hl hL ⟨id1,L1,h1,h2,h3⟩
  have e1:H1 id1=H id1:=by
   rcases hsub id1 with e | e
   ·exact e
   ·rw [e] at h1;simp [Ob.wr] at h1
  have:=h.apart id1 id L1 L (e1▸h1) hl h2 hL h3
  subst this
  rw [(hD _ hd).1] at h1
  simp [Ob.wr] at h1
 have hout2:∀id L,¬D id→(H id).wr=true→μ id=some L→¬LB H1 μ L.blk:=by
  rintro id L hd hl hL ⟨id1,L1,h1,h2,h3⟩
  have e1:H1 id1=H id1:=by
   rcases hsub id1 with e | e
   ·exact e
   ·rw [e] at h1;simp [Ob.live] at h1
  have:=h.apart id id1 L L1 hl (e1▸h1) hL h2 h3.symm
  subst this
  rw [(hD _ hd).1] at h1
  simp [Ob.live] at h1
 have hlt:∀id L,(H id).live=true→μ id=some L→L.blk < w.heap.size:=fun id L h1 h2=>(h.ob id).lt h1 h2
 refine ⟨⟨g.qJ,fun id=>?_,fun id id' L L' h1 h2 h3 h4 h5=>?_,fun b hb a ha=>?_,g.base⟩,⟨x.Ll,x.jC,fun a v hv=>?_,fun b hb=>?_,fun b hb=>?_,fun b hb hn=>x.frame b hb (fun k=>hn (hwb b k)),x.size,x.os,x.tape,x.output⟩⟩
 ·by_cases hd:D id
  ·simp only [hd,if_true];exact g.ob id
  ·simp only [hd,if_false]
   by_cases hl:(H id).live=true
   ·exact (h.ob id).keep x.jC x.Ll (hD id hd).2.2 (fun L hL=>x.frame _ (hlt id L hl hL) (hout id L hd hl hL))
   ·have:H id=.dead:=by cases e:H id <;> simp [e,Ob.live] at hl ⊢
    rw [this];trivial
 ·by_cases hd:D id <;> by_cases hd':D id' <;> simp only [hd,hd',if_true,if_false] at h1 h2
  ·exact g.apart id id' L L' h1 h2 h3 h4 h5
  ·rw [(hD id' hd').2.2] at h4
   exfalso
   rcases x.jE L.blk ⟨id,L,h1,h3,rfl⟩ with k | k
   ·have:=hlt id' L' h2 h4;omega
   ·exact hout id' L' hd' h2 h4 (h5▸k)
  ·rw [(hD id hd).2.2] at h3
   exfalso
   rcases x.lJ L'.blk ⟨id',L',h2,h4,rfl⟩ with k | k
   ·have:=hlt id L (Ob.gT h1) h3;omega
   ·exact hout2 id L hd h1 h3 (h5▸k)
  ·rw [(hD id hd).2.2] at h3
   rw [(hD id' hd').2.2] at h4
   exact h.apart id id' L L' h1 h2 h3 h4 h5
 ·obtain ⟨id,L,h1,h2,h3⟩:=hb
  by_cases hd:D id <;> simp only [hd,if_true,if_false] at h1
  ·exact g.gu b ⟨id,L,h1,h2,h3⟩ a ha
  ·rw [(hD id hd).2.2] at h2
   have hn:=h.gu b ⟨id,L,h1,h2,h3⟩ a ha
   cases hr:ro' a with
   | none=>rfl
   | some v=>
    exfalso
    rcases x.kr a v hr with k | k | k
    ·rw [hn] at k;cases k
    ·have:=hlt id L (Ob.gT h1) h2;omega
    ·exact hout id L hd (Ob.gT h1) h2 (by rw [h3,← ha];exact k)
 ·rcases x.kr a v hv with k | k | k
  ·exact .inl k
  ·exact .inr (.inl k)
  ·exact .inr (.inr (hwb _ k))
 ·obtain ⟨id,L,h1,h2,h3⟩:=hb
  by_cases hd:D id <;> simp only [hd,if_true,if_false] at h1
  ·exact (x.jE b ⟨id,L,h1,h2,h3⟩).imp (fun z=>z) (hwb b)
  ·rw [(hD id hd).2.2] at h2
   exact .inr ⟨id,L,h1,h2,h3⟩
 ·obtain ⟨id,L,h1,h2,h3⟩:=hb
  by_cases hd:D id <;> simp only [hd,if_true,if_false] at h1
  ·exact (x.lJ b ⟨id,L,h1,h2,h3⟩).imp (fun z=>z) (hlb b)
  ·rw [(hD id hd).2.2] at h2
   exact .inr ⟨id,L,h1,h2,h3⟩
theorem Good.less {ro:Ro} {μ:Mu} {w:World} {H H1:Hp} (h:Good ro μ w H) (hsub:∀id,H1 id=H id∨H1 id=.dead):Good ro μ w H1:=by
 have hw:∀id,(H1 id).wr=true→H1 id=H id:=fun id k=>(hsub id).resolve_right (fun e=>by rw [e] at k;simp [Ob.wr] at k)
 have hl:∀id,(H1 id).live=true→H1 id=H id:=fun id k=>(hsub id).resolve_right (fun e=>by rw [e] at k;simp [Ob.live] at k)
 refine ⟨h.qJ,fun id=>?_,fun id id' L L' h1 h2 h3 h4 h5=>h.apart id id' L L' (hw id h1▸h1) (hl id' h2▸h2) h3 h4 h5,fun b hb a ha=>?_,h.base⟩
 ·rcases hsub id with e | e
  ·rw [e];exact h.ob id
  ·rw [e];trivial
 ·obtain ⟨id,L,h1,h2,h3⟩:=hb
  exact h.gu b ⟨id,L,hw id h1▸h1,h2,h3⟩ a ha
def upd (H:Hp) (id:Nat) (o:Ob):Hp:=fun i=>if i=id then o else H i
theorem oW {σ:List Ob} {id:Nat} {o:Ob} (h:id < σ.length):hp (σ.set id o)=upd (hp σ) id o:=by
 funext i
 simp only [hp,upd,List.getElem?_set]
 by_cases e:id=i
 ·subst e;simp [h]
 ·simp [e,Ne.symm e]
theorem rF {σ:List Ob} {o:Ob}:hp (σ++[o])=upd (hp σ) σ.length o:=by
 funext i
 simp only [hp,upd,List.getElem?_append]
 by_cases e:i=σ.length
 ·subst e;simp
 ·simp only [e,if_false]
  by_cases k:i < σ.length
  ·simp [k]
  ·have:σ.length < i:=by omega
   have e1:σ[i]?=none:=List.getElem?_eq_none (by omega)
   have e2:[o][i - σ.length]?=none:=List.getElem?_eq_none (by simp;omega)
   simp [k,e1,e2]
theorem dR {σ:List Ob} {id:Nat} {o:Ob} (h:σ[id]?=some o):hp σ id=o:=by simp [hp,h]
theorem qg {σ:List Ob} {id:Nat} (h:σ.length≤id):hp σ id=.dead:=by simp [hp,List.getElem?_eq_none h]
def iC (μ:Mu) (n:Nat) (L:Loc):Mu:=fun i=>if i=n then some L else μ i
theorem Good.new {ro:Ro} {μ:Mu} {w w':World} {H:Hp} (g:Good ro μ w H) {n:Nat} (hn:μ n=none) (hH:H n=.dead) {o:Ob} {L:Loc} {b:Obj} (hL:L.blk=w.heap.size)
  (hw:w'.heap=w.heap.push b) (h1:w'.os=w.os) (h2:w'.tape=w.tape) (h3:w'.output=w.output) (ho:OR ro (iC μ n L) w' n o):
  Good ro (iC μ n L) w' (upd H n o)∧Ext ro μ w H ro (iC μ n L) w' (upd H n o):=by
 have up:∀i L',μ i=some L'→iC μ n L i=some L':=by
  intro i L' h
  unfold iC
  split
  ·rename_i e;subst e;rw [hn] at h;cases h
  ·exact h
 have hb:∀k,k < w.heap.size→w'.heap[k]?=w.heap[k]?:=by
  intro k hk
  rw [hw,Array.getElem?_push,if_neg (by omega)]
 have lt:∀i L',(H i).live=true→μ i=some L'→L'.blk < w.heap.size:=fun i L' k1 k2=>(g.ob i).lt k1 k2
 have adV:∀a v,ro a=some v→a.block < w.heap.size:=by
  intro a v h
  have:=g.qJ a v h
  rcases Nat.lt_or_ge a.block w.heap.size with k | k
  ·exact k
  ·simp [World.cell?,Array.getElem?_eq_none k] at this
 have old:∀i,i≠n→iC μ n L i=μ i:=fun i hi=>by simp [iC,hi]
 refine ⟨⟨fun a v h=>?_,fun i=>?_,fun i i' L1 L2 k1 k2 k3 k4 k5=>?_,fun b' hb' a ha=>?_,g.base⟩,⟨up,fun _ _ h=>h,fun _ _ h=>.inl h,fun b' hb'=>?_,fun b' hb'=>?_,fun b' hb' _=>hb b' hb',by rw [hw];simp,h1,h2,h3⟩⟩
 ·rw [mY (hb _ (adV a v h))];exact g.qJ a v h
 ·unfold upd
  split
  ·rename_i e;subst e;exact ho
  ·rename_i e
   by_cases hl:(H i).live=true
   ·exact (g.ob i).keep (fun _ _ h=>h) up (old i e) (fun L' hL'=>hb _ (lt i L' hl hL'))
   ·have:H i=.dead:=by cases e:H i <;> simp [e,Ob.live] at hl ⊢
    rw [this];trivial
 ·by_cases e:i=n <;> by_cases e':i'=n
  ·rw [e,e']
  ·exfalso
   subst e
   simp only [iC,if_true,Option.some.injEq] at k3
   simp only [upd,e',if_false] at k2
   rw [old i' e'] at k4
   have:=lt i' L2 k2 k4
   subst k3
   omega
  ·exfalso
   subst e'
   simp only [iC,if_true,Option.some.injEq] at k4
   simp only [upd,e,if_false] at k1
   rw [old i e] at k3
   have:=lt i L1 (Ob.gT k1) k3
   subst k4
   omega
  ·simp only [upd,e,e',if_false] at k1 k2
   rw [old i e] at k3
   rw [old i' e'] at k4
   exact g.apart i i' L1 L2 k1 k2 k3 k4 k5
 ·obtain ⟨i,L1,k1,k2,rfl⟩:=hb'
  by_cases e:i=n
  ·subst e
   simp only [iC,if_true,Option.some.injEq] at k2
   subst k2
   cases hr:ro a with
   | none=>rfl
   | some v=>have:=adV a v hr;omega
  ·simp only [upd,e,if_false] at k1
   rw [old i e] at k2
   exact g.gu _ ⟨i,L1,k1,k2,rfl⟩ a ha
 ·obtain ⟨i,L1,k1,k2,rfl⟩:=hb'
  by_cases e:i=n
  ·subst e
   simp only [iC,if_true,Option.some.injEq] at k2
   subst k2
   exact .inl (by omega)
  ·simp only [upd,e,if_false] at k1
   rw [old i e] at k2
   exact .inr ⟨i,L1,k1,k2,rfl⟩
 ·obtain ⟨i,L1,k1,k2,rfl⟩:=hb'
  by_cases e:i=n
  ·subst e
   simp only [iC,if_true,Option.some.injEq] at k2
   subst k2
   exact .inl (by omega)
  ·simp only [upd,e,if_false] at k1
   rw [old i e] at k2
   exact .inr ⟨i,L1,k1,k2,rfl⟩
theorem Good.write {ro:Ro} {μ:Mu} {w w':World} {H:Hp} (g:Good ro μ w H) {n:Nat} {o:Ob} {L:Loc} (hH:(H n).wr=true) (hL:μ n=some L)
  (hb:∀b,b≠L.blk→w'.heap[b]?=w.heap[b]?) (hs:w'.heap.size=w.heap.size) (h1:w'.os=w.os) (h2:w'.tape=w.tape) (h3:w'.output=w.output) (ho:OR ro μ w' n o):
  Good ro μ w' (upd H n o)∧Ext ro μ w H ro μ w' (upd H n o):=by
 have hwb:WB H μ L.blk:=⟨n,L,hH,hL,rfl⟩
 have sub:∀i,(upd H n o i).wr=true→(H i).wr=true:=by
  intro i hi
  unfold upd at hi
  split at hi
  ·rename_i e;subst e;exact hH
  ·exact hi
 have M6:∀i,(upd H n o i).live=true→(H i).live=true:=by
  intro i hi
  unfold upd at hi
  split at hi
  ·rename_i e;subst e;exact Ob.gT hH
  ·exact hi
 refine ⟨⟨fun a v h=>?_,fun i=>?_,fun i i' L1 L2 k1 k2 k3 k4 k5=>g.apart i i' L1 L2 (sub i k1) (M6 i' k2) k3 k4 k5,fun b' hb' a ha=>?_,g.base⟩,⟨fun _ _ h=>h,fun _ _ h=>h,fun _ _ h=>.inl h,fun b' hb'=>?_,fun b' hb'=>?_,fun b' hb' hn=>?_,by omega,h1,h2,h3⟩⟩
 ·have:a.block≠L.blk:=by
   intro e
   have:=g.gu _ hwb a e
   rw [this] at h;cases h
  rw [mY (hb _ this)];exact g.qJ a v h
 ·by_cases e:i=n
  ·subst e;simp only [upd,if_true];exact ho
  ·simp only [upd,e,if_false]
   by_cases hl:(H i).live=true
   ·exact (g.ob i).keep (fun _ _ h=>h) (fun _ _ h=>h) rfl (fun L' hL'=>hb _ (fun e'=>e (g.apart n i L L' hH hl hL hL' e'.symm).symm))
   ·have:H i=.dead:=by cases e:H i <;> simp [e,Ob.live] at hl ⊢
    rw [this];trivial
 ·obtain ⟨i,L1,k1,k2,rfl⟩:=hb'
  exact g.gu _ ⟨i,L1,sub i k1,k2,rfl⟩ a ha
 ·obtain ⟨i,L1,k1,k2,rfl⟩:=hb'
  exact .inr ⟨i,L1,sub i k1,k2,rfl⟩
 ·obtain ⟨i,L1,k1,k2,rfl⟩:=hb'
  exact .inr ⟨i,L1,M6 i k1,k2,rfl⟩
 ·exact hb b' (fun e=>hn (e▸hwb))
theorem Good.freeze {ro:Ro} {μ:Mu} {w:World} {H:Hp} (g:Good ro μ w H) {n sz:Nat} {xs:List D} {wr:Bool} {L:Loc} (hH:H n=.row sz xs wr) (hL:μ n=some L):
  ∃ro',Good ro' μ w (upd H n (.row sz xs false))∧Ext ro μ w H ro' μ w (upd H n (.row sz xs false))∧
   (∀C T fz,w.heap[L.blk]?=some (.cells C T fz)→∀o v,C[o]?=some v→ro' (cellAt L.blk o)=some v):=by
 have w9:=g.ob n
 rw [hH] at w9
 obtain ⟨C,T,fz,h0,e,hf,hs,hl,hw,hz,hv⟩:=w9 L hL
 have sub:∀i,(upd H n (.row sz xs false) i).wr=true→i≠n∧(H i).wr=true:=by
  intro i hi
  unfold upd at hi
  split at hi
  ·simp [Ob.wr] at hi
  ·rename_i e;exact ⟨e,hi⟩
 have M6:∀i,(upd H n (.row sz xs false) i).live=true→(H i).live=true:=by
  intro i hi
  unfold upd at hi
  split at hi
  ·rename_i e;subst e;rw [hH];rfl
  ·exact hi
 cases wr with
 | false=>
  refine ⟨ro,⟨g.qJ,fun i=>?_,fun i i' L1 L2 k1 k2 k3 k4 k5=>g.apart i i' L1 L2 (sub i k1).2 (M6 i' k2) k3 k4 k5,fun b' hb' a ha=>?_,g.base⟩,⟨fun _ _ h=>h,fun _ _ h=>h,fun _ _ h=>.inl h,fun b' hb'=>?_,fun b' hb'=>?_,fun _ _ _=>rfl,Nat.le_refl _,rfl,rfl,rfl⟩,fun C' T' fz' e'=>?_⟩
  ·have:upd H n (.row sz xs false) i=H i:=by
    unfold upd;split
    ·rename_i e;subst e;exact hH.symm
    ·rfl
   rw [this];exact g.ob i
  ·obtain ⟨i,L1,k1,k2,rfl⟩:=hb'
   exact g.gu _ ⟨i,L1,(sub i k1).2,k2,rfl⟩ a ha
  ·obtain ⟨i,L1,k1,k2,rfl⟩:=hb'
   exact .inr ⟨i,L1,(sub i k1).2,k2,rfl⟩
  ·obtain ⟨i,L1,k1,k2,rfl⟩:=hb'
   exact .inr ⟨i,L1,M6 i k1,k2,rfl⟩
  ·rw [e] at e';cases e';exact hw rfl
 | true=>
  have hwb:WB H μ L.blk:=⟨n,L,by rw [hH];rfl,hL,rfl⟩
  let ro':Ro:=fun a=>if a.block=L.blk then w.cell? a else ro a
  have up:∀a v,ro a=some v→ro' a=some v:=by
   intro a v h
   have:a.block≠L.blk:=by
    intro e
    have:=g.gu _ hwb a e
    rw [this] at h;cases h
   simp only [ro',this,if_false];exact h
  have hC:∀C' T' fz',w.heap[L.blk]?=some (.cells C' T' fz')→∀o v,C'[o]?=some v→ro' (cellAt L.blk o)=some v:=by
   intro C' T' fz' e' o v ho
   simp only [ro',cellAt,if_true]
   simp [World.cell?,e',ho]
  refine ⟨ro',⟨fun a v h=>?_,fun i=>?_,fun i i' L1 L2 k1 k2 k3 k4 k5=>g.apart i i' L1 L2 (sub i k1).2 (M6 i' k2) k3 k4 k5,fun b' hb' a ha=>?_,fun a v h=>up a v (g.base a v h)⟩,⟨fun _ _ h=>h,up,fun a v h=>?_,fun b' hb'=>?_,fun b' hb'=>?_,fun _ _ _=>rfl,Nat.le_refl _,rfl,rfl,rfl⟩,hC⟩
  ·simp only [ro'] at h
   split at h
   ·exact h
   ·exact g.qJ a v h
  ·by_cases e2:i=n
   ·subst e2
    simp only [upd,if_true]
    intro L' hL'
    rw [hL] at hL'
    cases hL'
    exact ⟨C,T,fz,h0,e,hf,hs,hl,fun _=>hC C T fz e,hz,fun i x j c hx hj=>let ⟨v,h1,h2⟩:=hv i x j c hx hj;⟨v,h1,h2.mono up⟩⟩
   ·simp only [upd,e2,if_false]
    exact (g.ob i).keep up (fun _ _ h=>h) rfl (fun _ _=>rfl)
  ·obtain ⟨i,L1,k1,k2,rfl⟩:=hb'
   obtain ⟨k0,k1⟩:=sub i k1
   have hne:L1.blk≠L.blk:=fun e'=>k0 (g.apart i n L1 L k1 (by rw [hH];rfl) k2 hL e')
   simp only [ro',ha,hne,if_false]
   exact g.gu _ ⟨i,L1,k1,k2,rfl⟩ a ha
  ·simp only [ro'] at h
   split at h
   ·rename_i e';exact .inr (.inr (e'▸hwb))
   ·exact .inl h
  ·obtain ⟨i,L1,k1,k2,rfl⟩:=hb'
   exact .inr ⟨i,L1,(sub i k1).2,k2,rfl⟩
  ·obtain ⟨i,L1,k1,k2,rfl⟩:=hb'
   exact .inr ⟨i,L1,M6 i k1,k2,rfl⟩
theorem Good.take {ro:Ro} {μ:Mu} {w w':World} {H:Hp} (g:Good ro μ w H) {m n:Nat} {o:Ob} {L L':Loc} (hH:(H m).wr=true) (hL:μ m=some L) (hn:μ n=none) (hHn:H n=.dead) (hLL:L'.blk=L.blk)
  (hb:∀b,b≠L.blk→w'.heap[b]?=w.heap[b]?) (hs:w'.heap.size=w.heap.size) (h1:w'.os=w.os) (h2:w'.tape=w.tape) (h3:w'.output=w.output) (ho:OR ro (iC μ n L') w' n o):
  Good ro (iC μ n L') w' (upd (upd H m .dead) n o)∧Ext ro μ w H ro (iC μ n L') w' (upd (upd H m .dead) n o):=by
 have hmn:m≠n:=by rintro rfl;rw [hHn] at hH;simp [Ob.wr] at hH
 have hwb:WB H μ L.blk:=⟨m,L,hH,hL,rfl⟩
 have up:∀i L1,μ i=some L1→iC μ n L' i=some L1:=by
  intro i L1 h
  unfold iC
  split
  ·rename_i e;subst e;rw [hn] at h;cases h
  ·exact h
 have old:∀i,i≠n→iC μ n L' i=μ i:=fun i hi=>by simp [iC,hi]
 have hne:∀i L1,i≠m→(H i).live=true→μ i=some L1→L1.blk≠L.blk:=fun i L1 hi hl hL1 e=>hi (g.apart m i L L1 hH hl hL hL1 e.symm).symm
 have val:∀i,i≠n→(upd (upd H m .dead) n o i).live=true→i≠m∧upd (upd H m .dead) n o i=H i:=by
  intro i hi hl
  simp only [upd,hi,if_false] at hl ⊢
  by_cases e:i=m
  ·simp [e,Ob.live] at hl
  ·simp [e]
 refine ⟨⟨fun a v h=>?_,fun i=>?_,fun i i' L1 L2 k1 k2 k3 k4 k5=>?_,fun b' hb' a ha=>?_,g.base⟩,⟨up,fun _ _ h=>h,fun _ _ h=>.inl h,fun b' hb'=>?_,fun b' hb'=>?_,fun b' hb' hnn=>hb b' (fun e=>hnn (e▸hwb)),by omega,h1,h2,h3⟩⟩
 ·have:a.block≠L.blk:=by
   intro e
   have:=g.gu _ hwb a e
   rw [this] at h;cases h
  rw [mY (hb _ this)];exact g.qJ a v h
 ·by_cases e:i=n
  ·subst e;simp only [upd,if_true];exact ho
  ·by_cases e':i=m
   ·subst e';simp only [upd,e,if_false,if_true];trivial
   ·simp only [upd,e,e',if_false]
    by_cases hl:(H i).live=true
    ·exact (g.ob i).keep (fun _ _ h=>h) up (old i e) (fun L1 hL1=>hb _ (hne i L1 e' hl hL1))
    ·have:H i=.dead:=by cases e:H i <;> simp [e,Ob.live] at hl ⊢
     rw [this];trivial
 ·by_cases e:i=n <;> by_cases e':i'=n
  ·rw [e,e']
  ·exfalso
   subst e
   simp only [iC,if_true,Option.some.injEq] at k3
   rw [old i' e'] at k4
   obtain ⟨q1,q2⟩:=val i' e' k2
   rw [q2] at k2
   subst k3
   exact hne i' L2 q1 k2 k4 (by rw [← k5,hLL])
  ·exfalso
   subst e'
   simp only [iC,if_true,Option.some.injEq] at k4
   rw [old i e] at k3
   obtain ⟨q1,q2⟩:=val i e (Ob.gT k1)
   rw [q2] at k1
   subst k4
   exact hne i L1 q1 (Ob.gT k1) k3 (by rw [k5,hLL])
  ·rw [old i e] at k3
   rw [old i' e'] at k4
   obtain ⟨q1,q2⟩:=val i e (Ob.gT k1)
   obtain ⟨q3,q4⟩:=val i' e' k2
   rw [q2] at k1
   rw [q4] at k2
   exact g.apart i i' L1 L2 k1 k2 k3 k4 k5
 ·obtain ⟨i,L1,k1,k2,rfl⟩:=hb'
  by_cases e:i=n
  ·subst e
   simp only [iC,if_true,Option.some.injEq] at k2
   subst k2
   exact g.gu _ hwb a (by rw [ha,hLL])
  ·rw [old i e] at k2
   obtain ⟨q1,q2⟩:=val i e (Ob.gT k1)
   rw [q2] at k1
   exact g.gu _ ⟨i,L1,k1,k2,rfl⟩ a ha
 ·obtain ⟨i,L1,k1,k2,rfl⟩:=hb'
  by_cases e:i=n
  ·subst e
   simp only [iC,if_true,Option.some.injEq] at k2
   subst k2
   exact .inr (hLL▸hwb)
  ·rw [old i e] at k2
   obtain ⟨q1,q2⟩:=val i e (Ob.gT k1)
   rw [q2] at k1
   exact .inr ⟨i,L1,k1,k2,rfl⟩
 ·obtain ⟨i,L1,k1,k2,rfl⟩:=hb'
  by_cases e:i=n
  ·subst e
   simp only [iC,if_true,Option.some.injEq] at k2
   subst k2
   exact .inr (hLL▸hwb.lb)
  ·rw [old i e] at k2
   obtain ⟨q1,q2⟩:=val i e k1
   rw [q2] at k1
   exact .inr ⟨i,L1,k1,k2,rfl⟩
theorem Good.kill {ro:Ro} {μ:Mu} {w:World} {H:Hp} (g:Good ro μ w H) (n:Nat):Good ro μ w (upd H n .dead)∧Ext ro μ w H ro μ w (upd H n .dead):=by
 have hs:∀i,upd H n .dead i=H i∨upd H n .dead i=.dead:=by
  intro i;unfold upd;split
  ·exact .inr rfl
  ·exact .inl rfl
 refine ⟨g.less hs,⟨fun _ _ h=>h,fun _ _ h=>h,fun _ _ h=>.inl h,fun b' hb'=>?_,fun b' hb'=>?_,fun _ _ _=>rfl,Nat.le_refl _,rfl,rfl,rfl⟩⟩
 ·obtain ⟨i,L1,k1,k2,rfl⟩:=hb'
  rcases hs i with e | e
  ·exact .inr ⟨i,L1,e▸k1,k2,rfl⟩
  ·rw [e] at k1;simp [Ob.wr] at k1
 ·obtain ⟨i,L1,k1,k2,rfl⟩:=hb'
  rcases hs i with e | e
  ·exact .inr ⟨i,L1,e▸k1,k2,rfl⟩
  ·rw [e] at k1;simp [Ob.live] at k1
theorem Good.phantom {ro:Ro} {μ:Mu} {w:World} {H:Hp} (g:Good ro μ w H) {n:Nat} (hn:μ n=none) {o:Ob} (ho:∀es,o≠.map es):Good ro μ w (upd H n o)∧Ext ro μ w H ro μ w (upd H n o):=by
 have hw:∀b,WB (upd H n o) μ b→WB H μ b:=by
  rintro b ⟨i,L,h1,h2,h3⟩
  unfold upd at h1
  split at h1
  ·rename_i e;subst e;rw [hn] at h2;cases h2
  ·exact ⟨i,L,h1,h2,h3⟩
 have hl:∀b,LB (upd H n o) μ b→LB H μ b:=by
  rintro b ⟨i,L,h1,h2,h3⟩
  unfold upd at h1
  split at h1
  ·rename_i e;subst e;rw [hn] at h2;cases h2
  ·exact ⟨i,L,h1,h2,h3⟩
 refine ⟨⟨g.qJ,fun i=>?_,fun i i' L L' h1 h2 h3 h4 h5=>?_,fun b hb=>g.gu b (hw b hb),g.base⟩,⟨fun _ _ h=>h,fun _ _ h=>h,fun _ _ h=>.inl h,fun b hb=>.inr (hw b hb),fun b hb=>.inr (hl b hb),fun _ _ _=>rfl,Nat.le_refl _,rfl,rfl,rfl⟩⟩
 ·unfold upd
  split
  ·rename_i e
   subst e
   cases o with
   | dead=>trivial
   | box x=>intro L hL;rw [hn] at hL;cases hL
   | row sz xs wr=>intro L hL;rw [hn] at hL;cases hL
   | map es=>exact absurd rfl (ho es)
  ·exact g.ob i
 ·unfold upd at h1 h2
  split at h1
  ·rename_i e;subst e;rw [hn] at h3;cases h3
  ·split at h2
   ·rename_i e;subst e;rw [hn] at h4;cases h4
   ·exact g.apart i i' L L' h1 h2 h3 h4 h5
end Lv
namespace Lv
theorem U {α:Sort _} {a:α}:a=a:=rfl
abbrev aH {α:Type}:List α×Bool:=([],false)
end Lv
/- A deterministic evaluator of Go code over abstract values and memory. -/
namespace Lv
open Go
def pr (P:Program) {α:Type}:Sem α→Option α
 | .pure a=>some a
 | .program k=>pr P (k P)
 | .mark _ k=>pr P k
 | _=>none
theorem K9 {P:Program} {α:Type} {s:Sem α} {a:α} (h:pr P s=some a) (w:World):s.run P w=.ok a w:=by
 induction s with
 | pure x=>simp only [pr,Option.some.injEq] at h;subst h;rfl
 | program k ih=>exact ih _ h
 | mark m k ih=>exact ih h
 | _=>simp [pr] at h
def D.cval:D→Option Value
 | .int k n=>some (.int k n)
 | .bool b=>some (.bool b)
 | .str s=>some (.string s)
 | .Ga=>some (.pointer none)
 | .dB=>some (.slice none 0 0)
 | .R8=>some (.map none)
 | .wO=>some .nilFunc
 | .Nt=>some .nilIface
 | _=>none
def Te:List D→Option (List Value)
 | []=>some []
 | x::r=>match x.cval,Te r with
  | some v,some vs=>some (v::vs)
  | _,_=>none
def D.val:D→Option Value
 | .agg cs=>match Te cs with
  | some vs=>some (.agg vs.toArray)
  | none=>none
 | x=>x.cval
def Lh:Value→Option D
 | .int k n=>some (.int k n)
 | .bool b=>some (.bool b)
 | .string s=>some (.str s)
 | .pointer none=>some .Ga
 | .slice none 0 0=>some .dB
 | .map none=>some .R8
 | .nilFunc=>some .wO
 | .nilIface=>some .Nt
 | _=>none
def zC:List Value→Option (List D)
 | []=>some []
 | x::r=>match Lh x,zC r with
  | some v,some vs=>some (v::vs)
  | _,_=>none
def nJ:Value→Option D
 | .agg vs=>match zC vs.toList with
  | some ds=>some (.agg ds)
  | none=>none
 | v=>Lh v
def AV.val:AV→Option Value
 | .d x=>x.val
 | _=>none
def oM (env:List AV):Operand→Option AV
 | .tmp t=>env[t]?
 | .const v=>match nJ v with
  | some x=>some (.d x)
  | none=>none
 | .func f=>some (.fn (.func f) [] [])
 | .global _=>none
def AL (env:List AV):List Operand→Option (List AV)
 | []=>some []
 | x::r=>match oM env x,AL env r with
  | some v,some vs=>some (v::vs)
  | _,_=>none
def dF (P:Program) (t:TypeId):Option Nat:=
 match P.info? t with
 | some i=>some i.size
 | none=>none
def jB (P:Program) (t:TypeId):Option Bool:=
 match P.underlying t with
 | some (.struct _)=>some true
 | some (.array _ _)=>some true
 | some _=>some false
 | none=>none
def Zj:List AV→Option (List D)
 | []=>some []
 | .d x::r=>match Zj r with
  | some ds=>some (x::ds)
  | none=>none
 | _::_=>none
def BR (cs:List AV):AV:=match Zj cs with
 | some ds=>.d (.agg ds)
 | none=>.agg cs
def tO (agg:Bool) (n:Nat) (cs:List AV):Option AV:=
 if cs.length=n then
  (if agg then some (BR cs) else match cs with
   | [x]=>some x
   | _=>none)
 else none
def mQ (P:Program) (σ:List Ob) (t:TypeId) (a:AV):Option AV:=
 match dF P t,jB P t with
 | some s,some g=>match a with
  | .ref id idx off=>match σ[id]? with
   | some (.box x)=>if idx=0 then tO g s ((x.cells.drop off).take s) else none
   | some (.row _ xs _)=>match xs[idx]? with
    | some x=>tO g s (((x.cells.map AV.d).drop off).take s)
    | none=>none
   | _=>none
  | .rop cs=>tO g s ((cs.map AV.d).take s)
  | _=>none
 | _,_=>none
def over {α:Type} (xs:List α) (off:Nat) (ys:List α):List α:=xs.take off++(ys++xs.drop (off+ys.length))
def og (σ:List Ob):AV→Option (D×List Ob)
 | .d x=>if x.isAgg then none else some (x,σ)
 | .slc id sz off len _=>match σ[id]? with
  | some (.row sz' xs _)=>if sz'=sz∧off+len≤xs.length then some (.y8 sz ((xs.drop off).take len),σ.set id (.row sz' xs false)) else none
  | _=>none
 | _=>none
def lD (σ:List Ob):List AV→Option (List D×List Ob)
 | []=>some ([],σ)
 | x::r=>match og σ x with
  | some (y,σ1)=>match lD σ1 r with
   | some (ys,σ2)=>some (y::ys,σ2)
   | none=>none
  | none=>none
def mg (P :Program) (σ:List Ob) (t:TypeId) (a y:AV):Option (List Ob):=
 match dF P t with
 | some s =>if y.cells.length=s∧y.cells.all AV.one=true then
   (match a with
   | .ref id idx off=>match σ[id]? with
    | some (.box x)=>if idx=0∧off+s≤x.cells.length then
      (if x.isAgg then some (σ.set id (.box (BR (over x.cells off y.cells)))) else match y.cells with
       | [z]=>some (σ.set id (.box z))
       | _=>none)
      else none
    | some (.row _ _ _)=>match lD σ y.cells with
     | some (ds,σ1)=>match σ1[id]? with
      | some (.row sz xs true)=>match xs[idx]? with
       | some x=>if off+s≤x.cells.length then
         (if x.isAgg then some (σ1.set id (.row sz (xs.set idx (.agg (over x.cells off ds))) true)) else match ds with
          | [z]=>some (σ1.set id (.row sz (xs.set idx z) true))
          | _=>none)
         else none
       | none=>none
      | _=>none
     | none=>none
    | _=>none
   | _=>none)
  else none
 | none=>none
def vI (P:Program) (t:TypeId) (f:Nat):Option Field:=
 match P.underlying t with
 | some (.struct fs)=>fs[f]?
 | _=>none
def om (P:Program) (t:TypeId) (f:Nat):AV→Option AV
 | .ref id idx off=>match vI P t f with
  | some fd=>match dF P fd.type with
   | some s=>if s=0 then none else some (.ref id idx (off+fd.offset))
   | none=>none
  | none=>none
 | .rop cs=>match vI P t f with
  | some fd=>match dF P fd.type with
   | some s=>if s=0 then none else some (.rop (cs.drop fd.offset))
   | none=>none
  | none=>none
 | _=>none
def Vn (P:Program) (t:TypeId) (f:Nat) (x:AV):Option AV:=
 match vI P t f with
 | some fd=>match dF P fd.type,jB P fd.type with
  | some s,some g=>if x.isAgg then tO g s ((x.cells.drop fd.offset).take s) else none
  | _,_=>none
 | none=>none
def mq (P:Program) (t:TypeId) (x i:AV):Option AV:=
 match i with
 | .d (.int _ n)=>match P.underlying t with
  | some (.slice e)=>match dF P e with
   | some s=>match x with
    | .slc id sz off len _=>if 0≤n∧n < (len:Int)∧sz=s then some (.ref id (off+n.toNat) 0) else none
    | .d (.y8 sz xs)=>if 0≤n∧sz=s then (match xs[n.toNat]? with
      | some y=>some (.rop y.cells)
      | none=>none) else none
    | _=>none
   | none=>none
  | some (.array len e)=>match dF P e with
   | some s=>match x with
    | .ref id idx off=>if 0≤n∧n < (len:Int) then some (.ref id idx (off+n.toNat * s)) else none
    | _=>none
   | none=>none
  | _=>none
 | _=>none
def vL:Option AV→Option (Option Nat)
 | none=>some none
 | some (.d (.int _ n))=>if 0≤n then some (some n.toNat) else none
 | _=>none
def reslice (id sz off len:Nat) (cap:Option Nat) (l h:Nat) (hs:Bool):Option Nat→Option AV
 | none=>match cap with
  | some k=>if h≤k then some (.slc id sz (off+l) (h - l) (some (k - l))) else none
  | none=>if h≤len then some (.slc id sz (off+l) (h - l) none) else none
 | some m=>if hs=true∧h≤m∧m≤cap.getD len∧(len≠0∨cap.isSome=true) then some (.slc id sz (off+l) (h - l) (some (m - l))) else none
def aslice (P:Program) (t:TypeId) (x:AV) (lo hi mx:Option AV):Option AV:=
 match P.underlying t with
 | some (.slice e)=>match dF P e,vL lo,vL hi,vL mx with
  | some s,some l,some h,some m=>match x with
   | .slc id sz off len cap=>if sz=s∧l.getD 0≤h.getD len then reslice id sz off len cap (l.getD 0) (h.getD len) h.isSome m else none
   | .d (.y8 sz xs)=>if sz=s∧l.getD 0≤h.getD xs.length∧h.getD xs.length≤xs.length∧m=none then some (.d (.y8 sz ((xs.drop (l.getD 0)).take (h.getD xs.length - l.getD 0)))) else none
   | .d .dB=>if l.getD 0=0∧h.getD 0=0∧m.getD 0=0∧(m.isSome→h.isSome) then some (.d .dB) else none
   | _=>none
  | _,_,_,_=>none
 | some .string=>match x.val,mx with
  | some v,none=>match lo,hi with
   | none,none=>(match pr P (Instr.slice t v none none none) with
    | some u=>(match nJ u with | some y=>some (.d y) | none=>none)
    | none=>none)
   | some l,none=>(match l.val with
    | some lv=>(match pr P (Instr.slice t v (some lv) none none) with
     | some u=>(match nJ u with | some y=>some (.d y) | none=>none)
     | none=>none)
    | none=>none)
   | none,some h=>(match h.val with
    | some hv=>(match pr P (Instr.slice t v none (some hv) none) with
     | some u=>(match nJ u with | some y=>some (.d y) | none=>none)
     | none=>none)
    | none=>none)
   | some l,some h=>(match l.val,h.val with
    | some lv,some hv=>(match pr P (Instr.slice t v (some lv) (some hv) none) with
     | some u=>(match nJ u with | some y=>some (.d y) | none=>none)
     | none=>none)
    | _,_=>none)
  | _,_=>none
 | _=>none
def bytesD (s:ByteArray):List D:=s.data.toList.map fun b=>.int .u8 b.toNat
def byteOf:D→Option UInt8
 | .int .u8 n=>some (UInt8.ofNat n.toNat)
 | _=>none
def bytesOf:List D→Option (List UInt8)
 | []=>some []
 | x::r=>match byteOf x,bytesOf r with
  | some b,some bs=>some (b::bs)
  | _,_=>none
def elems (σ:List Ob) (sz:Nat):AV→Option (List D)
 | .slc id sz' off len _=>match σ[id]? with
  | some (.row Rj xs _)=>if sz'=sz∧Rj=sz∧off+len≤xs.length then some ((xs.drop off).take len) else none
  | _=>none
 | .d (.y8 sz' xs)=>if sz'=sz then some xs else none
 | .d .dB=>some []
 | .d (.str s)=>if sz=1 then some (bytesD s) else none
 | _=>none
def zeroOf (P:Program) (t:TypeId):Option D:=
 match P.info? t with
 | some i=>match i.zero with
  | some v=>nJ v
  | none=>none
 | none=>none
def room:Nat:=2 ^ 47
def jm (P:Program) (σ:List Ob) (t:TypeId) (s x:AV):Option (AV×List Ob):=
 match P.underlying t with
 | some (.slice e)=>match P.info? e with
  | some i=>match elems σ i.size x,zeroOf P e with
   | some ys,some z=>if z.cells.length=i.size∧i.bytes≠0 then (match s with
    | .d .dB=>if ys.length*i.bytes≤room then some (.slc σ.length i.size 0 ys.length none,σ++[.row i.size ys true]) else none
    | .d (.y8 sz xs)=>if ys.length=0 then some (.d (.y8 sz xs),σ) else none
    | .slc id sz off len cap=>match σ[id]? with
     | some (.row sz' xs wr)=>
      if sz=i.size∧sz'=i.size∧off+len≤xs.length∧(len+ys.length)*i.bytes≤room then (match cap with
       | some c=>if len+ys.length≤c then
         (if wr=true∧off+len+ys.length≤xs.length then some (.slc id sz off (len+ys.length) (some c),σ.set id (.row sz (over xs (off+len) ys) true)) else none)
        else some (.slc σ.length sz 0 (len+ys.length) none,σ++[.row sz ((xs.drop off).take len++ys) true])
       | none=>if wr=true then some (.slc σ.length sz 0 (len+ys.length) none,σ.set id .dead++[.row sz ((xs.drop off).take len++ys) true]) else none)
      else none
     | _=>none
    | _=>none) else none
   | _,_=>none
  | none=>none
 | _=>none
def TD (P:Program) (σ:List Ob) (t:TypeId) (s x:AV):Option (AV×List Ob):=
 match P.underlying t with
 | some (.slice e)=>match dF P e with
  | some z=>match elems σ z x with
   | some ys=>match s with
    | .d .dB=>some (.d (.int .i64 0),σ)
    | .slc id sz off len _=>match σ[id]? with
     | some (.row sz' xs true)=>if sz=z∧sz'=z∧off+len≤xs.length then
       some (.d (.int .i64 (Nat.min ys.length len)),σ.set id (.row sz (over xs off (ys.take len)) true)) else none
     | _=>none
    | _=>none
   | none=>none
  | none=>none
 | _=>none
def Mq (P:Program) (t:TypeId) (x:AV):Option AV:=
 match x with
 | .slc _ _ _ len _=>match P.underlying t with
  | some (.slice _)=>some (.d (.int .i64 len))
  | _=>none
 | .d (.y8 _ xs)=>match P.underlying t with
  | some (.slice _)=>some (.d (.int .i64 xs.length))
  | _=>none
 | .d .dB=>match P.underlying t with
  | some (.slice _)=>some (.d (.int .i64 0))
  | _=>none
 | .d (.str s)=>match P.underlying t with
  | some .string=>some (.d (.int .i64 s.size))
  | _=>none
 | _=>none
def vK (P:Program) (s:Sem Value):Option AV:=
 match pr P s with
 | some v=>match nJ v with
  | some x=>some (.d x)
  | none=>none
 | none=>none
def Gb:TypeDesc→AV→AV→Bool
 | .pointer _,.d .Ga,.ref _ _ _=>true
 | .pointer _,.d .Ga,.rop _=>true
 | .pointer _,.ref _ _ _,.d .Ga=>true
 | .pointer _,.rop _,.d .Ga=>true
 | .slice _,.d .dB,.slc _ _ _ len _=>len != 0
 | .slice _,.d .dB,.d (.y8 _ xs)=>xs.length != 0
 | .slice _,.slc _ _ _ len _,.d .dB=>len != 0
 | .slice _,.d (.y8 _ xs),.d .dB=>xs.length != 0
 | .func _ _ _,.fn _ _ _,.d .wO=>true
 | .func _ _ _,.d .wO,.fn _ _ _=>true
 | .map _ _,.uW _,.d .R8=>true
 | .map _ _,.d .R8,.uW _=>true
 | .interface _,.iface _ _,.d .Nt=>true
 | .interface _,.d .Nt,.iface _ _=>true
 | _,_,_=>false
def cO (P:Program) (op:BinOp) (t:TypeId) (x y:Operand) (a b:AV):Option AV:=
 match a.val,b.val with
 | some u,some v=>vK P (do eqGuard op t x y u v;binOp op t u v)
 | _,_=>match P.underlying t with
  | some td=>if Gb td a b then (match op with
   | .eql=>some (.d (.bool false))
   | .neq=>some (.d (.bool true))
   | _=>none) else none
  | none=>none
def gy (P:Program) (σ:List Ob) (src dst:TypeId) (x:AV):Option (AV×List Ob):=
 match P.underlying src,P.underlying dst with
 | some (.slice e),some .string=>match P.underlying e with
  | some (.int .u8)=>match x with
   | .d (.str _)=>none
   | _=>match elems σ 1 x with
    | some xs=>match bytesOf xs with
     | some bs=>some (.d (.str ⟨bs.toArray⟩),σ)
     | none=>none
    | none=>none
  | _=>none
 | some .string,some (.slice e)=>match P.underlying e,dF P e with
  | some (.int .u8),some 1=>match x with
   | .d (.str s)=>some (.slc σ.length 1 0 s.size none,σ++[.row 1 (bytesD s) true])
   | _=>none
  | _,_=>none
 | some (.slice _),some (.slice e)=>match P.underlying e,x with
  | some (.int .u8),.slc id sz off len cap=>match σ[id]? with
   | some (.row _ _ true)=>if src=dst∧len≠0 then some (.slc id sz off len cap,σ) else none
   | _=>none
  | _,_=>none
 | some _,some _=>match x.val with
  | some v=>match vK P (convert src dst v) with
   | some y=>some (y,σ)
   | none=>none
  | none=>none
 | _,_=>none
def OH (place:Nat→Option (Nat×Nat)) (cells:List AV):List (Nat×AV)→Option (List AV)
 | []=>some cells
 | (i,v)::r=>match place i with
  | some (off,s)=>if v.cells.length=s∧off+s≤cells.length∧v.cells.all AV.one=true then OH place (over cells off v.cells) r else none
  | none=>none
def placesOf (P:Program) (fs:Array Field):Option (List (Nat×Nat)):=fs.toList.mapM (fun f=>(P.info? f.type).map fun i=>(f.offset,i.size))
def iD (P:Program) (t:TypeId) (parts:List (Nat×AV)):Option AV:=
 match P.info? t,P.underlying t with
 | some it,some (.struct fs)=>match it.zero,placesOf P fs with
  | some (.agg zs),some pl=>match zC zs.toList with
   | some z=>match OH (pl.toArray[·]?) (z.map AV.d) parts with
    | some cs=>some (BR cs)
    | none=>none
   | none=>none
  | _,_=>none
 | some it,some (.array _ e)=>match it.zero,P.info? e with
  | some (.agg zs),some ie=>match zC zs.toList with
   | some z=>match OH (fun i=>some (i*ie.size,ie.size)) (z.map AV.d) parts with
    | some cs=>some (BR cs)
    | none=>none
   | none=>none
  | _,_=>none
 | _,_=>none
def Df (σ:List Ob) (v:AV):Option (D×List Ob):=
 if v.isAgg then (match lD σ v.cells with
  | some (ds,σ1)=>some (D.agg ds,σ1)
  | none=>none) else og σ v
def mh (σ:List Ob) (sz:Nat):Nat→List (Nat×AV)→Option (List D×List Ob)
 | _,[]=>some ([],σ)
 | k,(i,v)::r=>if i=k∧v.cells.length=sz then (match Df σ v with
   | some (y,σ1)=>match mh σ1 sz (k+1) r with
    | some (ys,σ2)=>some (y::ys,σ2)
    | none=>none
   | none=>none) else none
def kH (P:Program) (σ:List Ob) (t:TypeId) (len:Nat) (parts:List (Nat×AV)):Option (AV×List Ob):=
 match P.underlying t with
 | some (.slice e)=>match dF P e,zeroOf P e with
  | some s,some _=>if len*s≤16777216∧parts.length=len then (match mh σ s 0 parts with
   | some (ds,σ1)=>some (.slc σ1.length s 0 len (some len),σ1++[.row s ds true])
   | none=>none) else none
  | _,_=>none
 | _=>none
def mo (P:Program) (σ:List Ob) (t:TypeId) (l c:AV):Option (AV×List Ob):=
 match P.underlying t,l,c with
 | some (.slice e),.d (.int _ n),.d (.int _ m)=>match P.info? e,zeroOf P e with
  | some i,some z=>if 0≤n∧n≤m∧m*i.bytes≤70368744177664∧m≤70368744177664∧z.cells.length=i.size∧z.cells.all (fun c=> !c.isAgg)=true∧i.size≠0 then
    some (.slc σ.length i.size 0 n.toNat (some m.toNat),σ++[.row i.size (List.replicate m.toNat z) true]) else none
  | _,_=>none
 | _,_,_=>none
def D.keq:D→D→Option Bool
 | .int k a,.int k' b=>if k=k' then some (a==b) else none
 | .str a,.str b=>some (a==b)
 | .bool a,.bool b=>some (a==b)
 | _,_=>none
def Lm (k:D):List (D×D)→Nat→Option (Option (Nat×D))
 | [],_=>some none
 | e::es,i=>match D.keq k e.1 with
  | some true=>some (some (i,e.2))
  | some false=>Lm k es (i+1)
  | none=>none
def keyOf:TypeDesc→D→Bool
 | .int _,.int _ _=>true
 | .string,.str _=>true
 | .bool,.bool _=>true
 | _,_=>false
def wX (P:Program) (σ:List Ob) (t:TypeId) (r:Option AV):Option (AV×List Ob):=
 match P.underlying t,r with
 | some (.map _ _),none=>some (.uW σ.length,σ++[.map []])
 | some (.map _ _),some (.d (.int _ _))=>some (.uW σ.length,σ++[.map []])
 | _,_=>none
def aeh (P:Program) (t:TypeId):Option (TypeDesc×TypeId):=
 match P.underlying t with
 | some (.map k e)=>match P.underlying k with
  | some d=>some (d,e)
  | none=>none
 | _=>none
def zT (P:Program) (σ:List Ob) (t:TypeId) (x i:AV) (ok:Bool):Option AV:=
 match aeh P t,x,i with
 | some (td,e),.uW id,.d k=>match σ[id]?,zeroOf P e with
  | some (.map es),some z=>if keyOf td k then (match Lm k es 0 with
   | some (some (_,v))=>some (if ok then .tuple [.d v,.d (.bool true)] else .d v)
   | some none=>some (if ok then .tuple [.d z,.d (.bool false)] else .d z)
   | none=>none) else none
  | _,_=>none
 | _,_,_=>none
def aeg (k v:D) (es:List (D×D)):Option (List (D×D)):=
 match Lm k es 0 with
 | some (some (i,_))=>some (es.set i (k,v))
 | some none=>some (es++[(k,v)])
 | none=>none
def wW (P:Program) (σ:List Ob) (t:TypeId) (m i v:AV):Option (AV×List Ob):=
 match aeh P t,m,i with
 | some (td,e),.uW id,.d k=>if keyOf td k then (match Df σ v with
  | some (y,σ1)=>match σ1[id]? with
   | some (.map es)=>match aeg k y es with
    | some es'=>some (.tuple [],σ1.set id (.map es'))
    | none=>none
   | _=>none
  | none=>none) else none
 | _,_,_=>none
abbrev Callee:=FuncId→List AV→List Ob→Option (AV×List Ob)
mutual
def AV.ids:AV→List Nat
 | .ref id _ _=>[id]
 | .slc id _ _ _ _=>[id]
 | .agg cs=>kN cs
 | .tuple cs=>kN cs
 | .fn _ cs ds=>kN cs++kN ds
 | .uW id=>[id]
 | .iface _ v=>v.ids
 | _=>[]
def kN:List AV→List Nat
 | []=>[]
 | x::r=>x.ids++kN r
end
mutual
def AV.re (g:Nat→Option Nat):AV→Option AV
 | .ref id idx off=>match g id with
  | some j=>some (.ref j idx off)
  | none=>none
 | .slc id sz off len cap=>match g id with
  | some j=>some (.slc j sz off len cap)
  | none=>none
 | .agg cs=>match AY g cs with
  | some ds=>some (.agg ds)
  | none=>none
 | .tuple cs=>match AY g cs with
  | some ds=>some (.tuple ds)
  | none=>none
 | .fn f cs ds=>match AY g cs,AY g ds with
  | some cs',some ds'=>some (.fn f cs' ds')
  | _,_=>none
 | .uW id=>match g id with
  | some j=>some (.uW j)
  | none=>none
 | .iface t v=>match v.re g with
  | some v'=>some (.iface t v')
  | none=>none
 | .undef=>some .undef
 | .d x=>some (.d x)
 | .rop cs=>some (.rop cs)
def AY (g:Nat→Option Nat):List AV→Option (List AV)
 | []=>some []
 | x::r=>match x.re g,AY g r with
  | some y,some ys=>some (y::ys)
  | _,_=>none
end
def Ob.ids:Ob→List Nat
 | .box x=>x.ids
 | _=>[]
def Ob.re (g:Nat→Option Nat):Ob→Option Ob
 | .dead=>some .dead
 | .box x=>match x.re g with
  | some y=>some (.box y)
  | none=>none
 | .row sz xs wr=>some (.row sz xs wr)
 | .map es=>some (.map es)
def mK (g:Nat→Option Nat):List Ob→Option (List Ob)
 | []=>some []
 | x::r=>match x.re g,mK g r with
  | some y,some ys=>some (y::ys)
  | _,_=>none
def reach (σ:List Ob):Nat→List Nat→List Nat→List Nat
 | 0,_,seen=>seen
 | _+1,[],seen=>seen
 | n+1,i::r,seen=>if seen.contains i then reach σ n r seen else match σ[i]? with
  | some o=>reach σ n (r++o.ids) (seen++[i])
  | none=>reach σ n r (seen++[i])
def fD (ι:List Nat) (i:Nat):Option Nat:=ι.idxOf? i
def sub (σ:List Ob) (ι:List Nat) (g:Nat→Option Nat):List Nat→Option (List Ob)
 | []=>some []
 | i::r=>match σ[i]? with
  | some o=>match o.re g,sub σ ι g r with
   | some o',some os=>some (o'::os)
   | _,_=>none
  | none=>none
def canon (σ:List Ob) (roots:List Nat):Option (List Nat×List Ob):=
 let ι:=reach σ 100000 roots []
 match sub σ ι (fD ι) ι with
 | some os=>some (ι,os)
 | none=>none
def jO (σ:List Ob):List Nat→List Ob→List Ob
 | i::r,o::os=>jO (σ.set i o) r os
 | _,_=>σ
def jv (ι:List Nat) (n k j:Nat):Option Nat:=if j < ι.length then ι[j]? else if j < k then some (n+(j - ι.length)) else none
def oh (call:Callee) (f:FuncId) (args:List AV) (σ:List Ob):Option (AV×List Ob):=
 match canon σ (kN args) with
 | some (ι,lF)=>match AY (fD ι) args with
  | some args'=>match call f args' lF with
   | some (r,σ')=>match r.re (jv ι σ.length σ'.length),mK (jv ι σ.length σ'.length) σ' with
    | some r',some os=>if ι.length≤os.length then some (r',jO σ ι (os.take ι.length)++os.drop ι.length) else none
    | _,_=>none
   | none=>none
  | none=>none
 | none=>none
def callable (P:Program) (f:FuncId):Bool:=
 match P.funcs[f]? with
 | some fn=>fn.name != "runtime.NumGoroutine" &&fn.body.isSome
 | none=>false
def jl (P:Program) (t2:TypeId):Bool:=match P.underlying t2 with
 | some (.int _)=>true
 | some _=>false
 | none=>true
def qM:List AV→Option (List Value)
 | []=>some []
 | x::r=>match x.val,qM r with
  | some v,some vs=>some (v::vs)
  | _,_=>none
def outside (P:Program) (f:FuncId) (args:List AV) (σ:List Ob):Option (AV×List Ob):=
 match qM args with
 | some vs=>match pr P (callFunc f vs.toArray) with
  | some (.value v)=>match nJ v with
   | some y=>some (.d y,σ)
   | none=>none
  | _=>none
 | none=>none
def yM (P:Program) (t:TypeId) (name:String):Option (FuncId×Bool):=
 match P.info? t with
 | some i=>match i.methods.find? (·.name==name) with
  | some m=>if m.path.isEmpty=true then m.func else none
  | none=>none
 | none=>none
def Ol (P:Program) (t:TypeId):Bool:=match P.underlying t with
 | some (.pointer _)=>true
 | _=>false
def pJ (P:Program) (call:Callee) (σ:List Ob) (c:Call) (args:List AV) (fv:Option AV):Option (AV×List Ob):=
 match c.callee with
 | .builtin .len=>match c.argTypes[0]?,args with
  | some t,[x]=>match Mq P t x with
   | some v=>some (v,σ)
   | none=>none
  | _,_=>none
 | .builtin .append=>match c.argTypes[0]?,c.argTypes[1]?,args with
  | some t,some t2,[s,x]=>if jl P t2 then none else jm P σ t s x
  | _,_,_=>none
 | .builtin .copy=>match c.argTypes[0]?,args with
  | some t,[s,x]=>TD P σ t s x
  | _,_=>none
 | .value _=>match fv with
  | some (.fn (.func f) first caps)=>if callable P f then oh call f (first++args++caps) σ else outside P f (first++args++caps) σ
  | _=>none
 | .invoke _ name=>match fv with
  | some (.iface t v)=>match yM P t name with
   | some (f,true)=>if callable P f=true∧Ol P t=true then oh call f (v::args) σ else none
   | _=>none
  | _=>none
 | .builtin .max=>match qM args with
  | some vs=>match vK P (Builtin.max_ c.argTypes 0 vs.toArray) with
   | some v=>some (v,σ)
   | none=>none
  | none=>none
 | .builtin .min=>match qM args with
  | some vs=>match vK P (Builtin.min_ c.argTypes 0 vs.toArray) with
   | some v=>some (v,σ)
   | none=>none
  | none=>none
 | _=>none
def partsOf (env:List AV):List (Nat×Operand)→Option (List (Nat×AV))
 | []=>some []
 | (i,x)::r=>match oM env x,partsOf env r with
  | some v,some vs=>some ((i,v)::vs)
  | _,_=>none
def yK (env:List AV):Option Operand→Option (Option AV)
 | none=>some none
 | some x=>match oM env x with
  | some v=>some (some v)
  | none=>none
def kQ (P:Program) (call:Callee) (env:List AV) (σ:List Ob) (o:Oper):Option (AV×List Ob):=
 match o.op with
 | .move x=>match oM env x with
  | some v=>some (v,σ)
  | none=>none
 | .assign x=>match oM env x with
  | some v=>some (v,σ)
  | none=>none
 | .pick c a b=>match oM env c with
  | some (.d (.bool t))=>match oM env (if t then a else b) with
   | some v=>some (v,σ)
   | none=>none
  | _=>none
 | .alloc t=>match zeroOf P t with
  | some z=>some (.ref σ.length 0 0,σ++[.box (.d z)])
  | none=>none
 | .box _ x=>match oM env x with
  | some .undef=>none
  | some v=>some (.ref σ.length 0 0,σ++[.box v])
  | none=>none
 | .build t ps=>match partsOf env ps.toList with
  | some parts=>match iD P t parts with
   | some v=>some (v,σ)
   | none=>none
  | none=>none
 | .buildSlice t len ps=>match partsOf env ps.toList with
  | some parts=>kH P σ t len parts
  | none=>none
 | .load t a=>match oM env a with
  | some v=>match mQ P σ t v with
   | some x=>some (x,σ)
   | none=>none
  | none=>none
 | .store t a x=>match oM env a,oM env x with
  | some v,some y=>match mg P σ t v y with
   | some σ'=>some (.tuple [],σ')
   | none=>none
  | _,_=>none
 | .nilCheck x=>match oM env x with
  | some (.ref id idx off)=>some (.ref id idx off,σ)
  | some (.rop cs)=>some (.rop cs,σ)
  | some (.iface t v)=>some (.iface t v,σ)
  | _=>none
 | .binOp op t x y _=>match oM env x,oM env y with
  | some a,some b=>match cO P op t x y a b with
   | some v=>some (v,σ)
   | none=>none
  | _,_=>none
 | .unOp op _ x=>match oM env x with
  | some a=>match a.val with
   | some v=>match vK P (Op.unary op v) with
    | some y=>some (y,σ)
    | none=>none
   | none=>none
  | none=>none
 | .convert s d x=>match oM env x with
  | some a=>gy P σ s d a
  | none=>none
 | .fieldAddr t x f=>match oM env x with
  | some a=>match om P t f a with
   | some v=>some (v,σ)
   | none=>none
  | none=>none
 | .field t x f=>match oM env x with
  | some a=>match Vn P t f a with
   | some v=>some (v,σ)
   | none=>none
  | none=>none
 | .indexAddr t x i=>match oM env x,oM env i with
  | some a,some b=>match mq P t a b with
   | some v=>some (v,σ)
   | none=>none
  | _,_=>none
 | .index t x i=>match oM env x,oM env i with
  | some a,some b=>match a.val,b.val with
   | some u,some v=>match vK P (Instr.index t u v) with
    | some y=>some (y,σ)
    | none=>none
   | _,_=>none
  | _,_=>none
 | .slice t x lo hi mx=>match oM env x,yK env lo,yK env hi,yK env mx with
  | some a,some l,some h,some m=>match aslice P t a l h m with
   | some v=>some (v,σ)
   | none=>none
  | _,_,_,_=>none
 | .makeSlice t l c=>match oM env l,oM env c with
  | some a,some b=>mo P σ t a b
  | _,_=>none
 | .makeMap t r=>match yK env r with
  | some a=>wX P σ t a
  | none=>none
 | .lookup t x i ok=>match oM env x,oM env i with
  | some a,some b=>match zT P σ t a b ok with
   | some v=>some (v,σ)
   | none=>none
  | _,_=>none
 | .mapUpdate t m i v=>match oM env m,oM env i,oM env v with
  | some a,some b,some c=>wW P σ t a b c
  | _,_,_=>none
 | .makeFunc fn first caps=>match AL env first.toList,AL env caps.toList with
  | some xs,some ys=>some (.fn fn xs ys,σ)
  | _,_=>none
 | .extract x i=>match oM env x with
  | some (.tuple vs)=>match vs[i]? with
   | some v=>some (v,σ)
   | none=>none
  | _=>none
 | .makeInterface t x=>match oM env x with
  | some v=>match P.underlying t with
   | some (.interface _)=>none
   | some _=>some (.iface t v,σ)
   | none=>none
  | none=>none
 | .typeAssert x _ a ok=>match oM env x with
  | some (.iface t v)=>match P.underlying a with
   | some (.interface _)=>none
   | some _=>if t=a∧ok=false then some (v,σ) else none
   | none=>none
  | _=>none
 | .call c=>match AL env c.args.toList with
  | some args=>match c.callee with
   | .value f=>pJ P call σ c args (oM env f)
   | .invoke x _=>pJ P call σ c args (oM env x)
   | _=>pJ P call σ c args none
  | none=>none
 | _=>none
def wants (ops:Array Oper) (env:List AV) (o:Oper):Option Bool:=
 match o.guard with
 | none=>some true
 | some (j,want)=>match (ops[j]?).bind (·.dst) with
  | some t=>match env[t]? with
   | some (.d (.bool b))=>some (b==want)
   | some (.tuple [])=>some false
   | _=>none
  | none=>none
def qY (env:List AV) (dst:Option Tmp) (v:AV):List AV:=
 match dst with
 | some d=>env.set d v
 | none=>env
structure St where
 env:List AV
 σ:List Ob
def aas (P:Program) (call:Callee) (ops:Array Oper):List Oper→St→Option St
 | [],s=>some s
 | o::r,s=>match wants ops s.env o with
  | some true=>match kQ P call s.env s.σ o with
   | some (v,σ')=>aas P call ops r ⟨qY s.env o.dst v,σ'⟩
   | none=>none
  | some false=>aas P call ops r ⟨qY s.env o.dst (.tuple []),s.σ⟩
  | none=>none
def touches (env:List AV) (σ:List Ob) (o:Oper):List Nat×Bool:=
 match o.op with
 | .load _ a=>(((oM env a).elim [] AV.ids),false)
 | .convert _ _ x=>(((oM env x).elim [] AV.ids),false)
 | .lookup _ x _ _=>(((oM env x).elim [] AV.ids),false)
 | .mapUpdate _ x _ v=>(((oM env x).elim [] AV.ids)++((oM env v).elim [] AV.ids),true)
 | .store _ a x=>(((oM env a).elim [] AV.ids)++((oM env x).elim [] AV.ids),true)
 | .buildSlice _ _ ps=>(((partsOf env ps.toList).elim [] fun l=>kN (l.map (·.2))),true)
 | .call c=>match c.callee with
  | .builtin .len=>([],false)
  | .value f=>(match AL env c.args.toList,oM env f with
   | some args,some (.fn _ first caps)=>reach σ 100000 (kN (first++args++caps)) []
   | _,_=>[],true)
  | .invoke x _=>(match AL env c.args.toList,oM env x with
   | some args,some (.iface _ v)=>reach σ 100000 (kN (v::args)) []
   | _,_=>[],true)
  | _=>(((AL env c.args.toList).elim [] kN),true)
 | _=>([],false)
def marked (env:List AV) (σ σ':List Ob) (o:Oper):List Nat×Bool:=
 ((touches env σ o).1++List.range' σ.length (σ'.length - σ.length),(touches env σ o).2 || decide (σ.length < σ'.length))
def Ph (P:Program) (call:Callee) (ops:Array Oper):List Oper→St→Option (St×List (List Nat×Bool))
 | [],s=>some (s,[])
 | o::r,s=>match wants ops s.env o with
  | some true=>match kQ P call s.env s.σ o with
   | some (v,σ')=>match Ph P call ops r ⟨qY s.env o.dst v,σ'⟩ with
    | some (s',l)=>some (s',marked s.env s.σ σ' o::l)
    | none=>none
   | none=>none
  | some false=>match Ph P call ops r ⟨qY s.env o.dst (.tuple []),s.σ⟩ with
    | some (s',l)=>some (s',([],false)::l)
    | none=>none
  | none=>none
def Ov (a b:List Nat):Bool:=a.all fun i=> !b.contains i
def PL (x y:List Nat×Bool):Bool:=(!x.2&& !y.2) || Ov x.1 y.1
def zG (acc:List Nat) (j:Nat):List Edge→Nat
 | []=>0
 | e::r=>match Region.binds .any e with
  | true=>(zG acc j r ||| 2 ^ e.on) ||| acc.getD (j - 1 - e.on) 0
  | false=>zG acc j r
def Ec:List Oper→Nat→List Nat→List Nat
 | [],_,acc=>acc
 | o::r,j,acc=>Ec r (j+1) (zG acc j o.after.toList::acc)
def ahead (ops:Array Oper) (i j:Nat):Bool:=((Ec ops.toList 0 []).getD (ops.size - 1 - j) 0).testBit i
def eD (ops:Array Oper) (l:List (List Nat×Bool)):Bool:=
 (List.range l.length).all fun j=>(List.range j).all fun i=>ahead ops i j || PL (l.getD i ([],true)) (l.getD j ([],true))
def J4 (o:Oper):List Tmp:=o.op.operands.toList.filterMap fun
 | .tmp t=>some t
 | _=>none
def LP (ops:Array Oper) (o:Oper):List Tmp:=match o.guard with
 | some (g,_)=>((ops[g]?).bind (·.dst)).toList
 | none=>[]
def vG (ops:Array Oper) (o:Oper):List Tmp:=o.dst.toList++(J4 o++LP ops o)
def Iu (ops:Array Oper) (x y:Oper):Bool:=(match x.dst with
 | some t=> !(vG ops y).contains t
 | none=>true)&&(match y.dst with
 | some t=> !(vG ops x).contains t
 | none=>true)
def pW (P:Program) (ops:Array Oper):Bool:=
 P.follows .mixedOrders&&
 ((List.range ops.size).all fun j=>match ops[j]? with
  | some o=>o.after.toList.all (fun e=> !Region.binds .any e || decide (e.on < j))&&
   (List.range j).all fun i=>match ops[i]? with
    | some p=>ahead ops i j || Iu ops p o
    | none=>true
  | none=>true)
inductive Ex where
 | normal | ret
 | exit (id:Nat)
 deriving DecidableEq,Inhabited
abbrev Keep:=Nat→Option (List Nat)
def jK (P:Program) (s:St):List ResultVar→Option (List AV)
 | []=>some []
 | .tmp t::r=>match s.env[t]?,jK P s r with
  | some v,some vs=>some (v::vs)
  | _,_=>none
 | .cell a t::r=>match s.env[a]? with
  | some p=>match mQ P s.σ t p,jK P s r with
   | some v,some vs=>some (v::vs)
   | _,_=>none
  | none=>none
def F6:List AV→AV
 | [x]=>x
 | xs=>.tuple xs
end Lv
/- Each operation of the evaluator does what the machine does. -/
namespace Lv
open Go
variable [bJ]
theorem aeN {ro:Ro} {x:D} {v u:Value} (h:DR ro x v) (hu:x.cval=some u):v=u:=by
 cases h <;> simp_all [D.cval]
theorem TP {ro:Ro}:∀(xs:List D) (us vs:List Value),vs.length=xs.length→(∀(i:Nat) (x:D) (v:Value),xs[i]?=some x→vs[i]?=some v→DR ro x v)→Te xs=some us→vs=us
 | [],us,vs,hl,_,hu=>by
  simp only [Te,Option.some.injEq] at hu
  subst hu
  simpa using hl
 | x::r,us,[],hl,_,_=>by simp at hl
 | x::r,us,v::vs,hl,h,hu=>by
  simp only [Te] at hu
  split at hu
  ·rename_i a b ha hb
   simp only [Option.some.injEq] at hu
   subst hu
   rw [aeN (h 0 x v rfl rfl) ha,TP r b vs (by simpa using hl) (fun i y u hy hu=>h (i+1) y u (by simpa using hy) (by simpa using hu)) hb]
  ·cases hu
theorem ajn {ro:Ro} {x:D} {v u:Value} (h:DR ro x v) (hu:x.val=some u):v=u:=by
 cases h
 case agg cs vs hs h=>
  simp only [D.val] at hu
  split at hu
  ·rename_i us e
   simp only [Option.some.injEq] at hu
   subst hu
   have:=TP cs us vs.toList (by simpa using hs) (fun i x v hx hv=>h i x v hx (by simpa using hv)) e
   rw [← this]
  ·cases hu
 all_goals simp_all [D.val,D.cval]
theorem Od {ro:Ro} {v:Value} {x:D} (h:Lh v=some x):DR ro x v:=by
 unfold Lh at h
 split at h <;> simp only [Option.some.injEq,reduceCtorEq] at h <;> subst h <;> constructor
theorem zB {ro:Ro}:∀(vs:List Value) (xs:List D),zC vs=some xs→vs.length=xs.length∧∀(i:Nat) (x:D) (v:Value),xs[i]?=some x→vs[i]?=some v→DR ro x v
 | [],xs,h=>by
  simp only [zC,Option.some.injEq] at h
  subst h
  exact ⟨rfl,fun i x v hx=>by simp at hx⟩
 | v::vs,xs,h=>by
  simp only [zC] at h
  split at h
  ·rename_i a b ha hb
   simp only [Option.some.injEq] at h
   subst h
   obtain ⟨hl,hr⟩:=zB vs b hb
   refine ⟨by simp [hl],fun i x u hx hu=>?_⟩
   cases i with
   | zero=>simp only [List.getElem?_cons_zero,Option.some.injEq] at hx hu;subst hx;subst hu;exact Od ha
   | succ i=>exact hr i x u (by simpa using hx) (by simpa using hu)
  ·cases h
theorem RZ {ro:Ro} {v:Value} {x:D} (h:nJ v=some x):DR ro x v:=by
 cases v
 case agg vs=>
  simp only [nJ] at h
  split at h
  ·rename_i ds e
   simp only [Option.some.injEq] at h
   subst h
   obtain ⟨hl,hr⟩:=zB (ro:=ro) vs.toList ds e
   exact .agg ds vs (by simpa using hl) (fun i x v hx hv=>hr i x v hx (by simpa using hv))
  ·cases h
 all_goals exact Od h
theorem gP {ro:Ro} {μ:Mu} {x:AV} {v u:Value} (h:VR ro μ x v) (hu:x.val=some u):v=u:=by
 cases h
 case d x h=>exact ajn h hu
 all_goals simp [AV.val] at hu
theorem TH {ro:Ro} {μ:Mu} {v:Value} {x:D} (h:nJ v=some x):VR ro μ (.d x) v:=.d x v (RZ h)
theorem tH {P:Program} {s:Sem Value} {x:AV} (h:vK P s=some x) (ro:Ro) (μ:Mu) (w:World):∃v,s.run P w=.ok v w∧VR ro μ x v:=by
 unfold vK at h
 split at h
 ·rename_i v hv
  split at h
  ·rename_i y hy
   simp only [Option.some.injEq] at h
   subst h
   exact ⟨v,K9 hv w,TH hy⟩
  ·cases h
 ·cases h
theorem IB {ro:Ro} {x:D} {v:Value} (h:DR ro x v) (hx:x.isAgg=false):v.oneCell'=true:=by
 cases h <;> simp_all [D.isAgg,Value.oneCell']
theorem ajg {ro:Ro} {μ:Mu} {x:AV} {v:Value} (h:VR ro μ x v) (hx:x.one=true):v.oneCell'=true:=by
 cases h
 case d x h=>exact IB h (by simpa [AV.one] using hx)
 all_goals first | rfl | simp [AV.one] at hx
theorem tV {ro:Ro} {μ:Mu} {x:AV} {v:Value} (h:VR ro μ x v):oo ro μ [x] #[v]:=by
 refine ⟨rfl,fun i y u hy hu=>?_⟩
 cases i with
 | zero=>simp at hy hu;subst hy;subst hu;exact h
 | succ i=>simp at hy
theorem Ns {v:Value} (h:v.oneCell'=true):v.cells=#[v]:=by
 cases v <;> first | rfl | simp [Value.oneCell'] at h
theorem uN {ro:Ro} {μ:Mu} {x:AV} {v:Value} (h:VR ro μ x v) (hx:x≠.undef):oo ro μ x.cells v.cells:=by
 cases h
 case undef=>exact absurd rfl hx
 case d x h=>
  cases h
  case agg cs vs hs h=>
   refine ⟨by simpa [AV.cells,Value.cells] using hs,fun i y u hy hu=>?_⟩
   simp only [AV.cells,List.getElem?_map,Option.map_eq_some_iff] at hy
   obtain ⟨z,hz,rfl⟩:=hy
   exact .d z u (h i z u hz hu)
  all_goals exact tV (.d _ _ (by constructor <;> assumption))
 case agg cs vs hs h=>exact ⟨hs,h⟩
 all_goals exact tV (by first | constructor;done | (constructor <;> assumption))
theorem zV {ro:Ro} {μ:Mu} {id idx off:Nat} {v:Value} (h:VR ro μ (.ref id idx off) v):∃L,μ id=some L∧v=.pointer (some (cellAt L.blk (L.base+idx*L.sz+off))):=by
 cases h with
 | ref _ _ _ L h=>exact ⟨L,h,rfl⟩
theorem o7 {ro:Ro} {μ:Mu} {id sz off len:Nat} {cap:Option Nat} {v:Value} (h:VR ro μ (.slc id sz off len cap) v):
  (∃L c a,v=.slice (some a) len c∧μ id=some L∧L.sz=sz∧len≤c∧(∀k,cap=some k→c=k)∧(c≠0→a=cellAt L.blk (L.base+off*sz)∧off*sz+c*sz≤L.lim))∨(len=0∧cap=none∧v=.slice none 0 0):=by
 cases h with
 | slc _ _ _ _ _ L c a h1 h2 h3 h4 h5=>exact .inl ⟨L,c,a,rfl,h1,h2,h3,h4,h5⟩
 | mH=>exact .inr ⟨rfl,rfl,rfl⟩
theorem Mt {ro:Ro} {μ:Mu} {cs:List D} {v:Value} (h:VR ro μ (.rop cs) v):
  ∃b o,∃g:Nat→Value,v=.pointer (some (cellAt b o))∧(∀(j:Nat) (c:D),cs[j]?=some c→ro (cellAt b (o+j))=some (g j))∧(∀(j:Nat) (c:D),cs[j]?=some c→DR ro c (g j)):=by
 cases h with
 | rop _ b o g h1 h2=>exact ⟨b,o,g,rfl,h1,h2⟩
theorem zW {ro:Ro} {μ:Mu} {sz:Nat} {xs:List D} {v:Value} (h:VR ro μ (.d (.y8 sz xs)) v):
  (∃a cap,∃g:Nat→Value,v=.slice (some a) xs.length cap∧xs.length≤cap∧(xs≠[]→a.spot=none)∧(∀(i:Nat) (x:D),xs[i]?=some x→x.F8 sz)∧
   (∀(i:Nat) (x:D) (j:Nat) (c:D),xs[i]?=some x→x.cells[j]?=some c→ro (cellAt a.block (a.off+(i*sz+j)))=some (g (i*sz+j)))∧
   (∀(i:Nat) (x:D) (j:Nat) (c:D),xs[i]?=some x→x.cells[j]?=some c→DR ro c (g (i*sz+j))))∨(xs=[]∧v=.slice none 0 0):=by
 cases h with
 | d _ _ h=>cases h with
  | y8 _ _ a cap g h1 h2 h3 h4 h5=>exact .inl ⟨a,cap,g,rfl,h1,h2,h3,h4,h5⟩
  | nl=>exact .inr ⟨rfl,rfl⟩
theorem Ms {ro:Ro} {μ:Mu} {cs:List AV} {v:Value} (h:VR ro μ (.tuple cs) v):∃vs,v=.tuple vs∧oo ro μ cs vs:=by
 cases h with
 | tuple _ vs h1 h2=>exact ⟨vs,rfl,h1,h2⟩
theorem OJ {ro:Ro} {μ:Mu} {f:Fn} {cs ds:List AV} {v:Value} (h:VR ro μ (.fn f cs ds) v):∃vs us,v=.func f vs us∧oo ro μ cs vs∧oo ro μ ds us:=by
 cases h with
 | fn _ _ _ vs us h1 h2 h3 h4=>exact ⟨vs,us,rfl,⟨h1,h3⟩,⟨h2,h4⟩⟩
theorem ER {ro:Ro} {μ:Mu}:∀(cs:List AV) (ds:List D),Zj cs=some ds→ds.length=cs.length∧∀(i:Nat) (x:D),ds[i]?=some x→cs[i]?=some (.d x)
 | [],ds,h=>by
  simp only [Zj,Option.some.injEq] at h
  subst h
  exact ⟨rfl,fun i x hx=>by simp at hx⟩
 | c::cs,ds,h=>by
  cases c
  case d x=>
   simp only [Zj] at h
   split at h
   ·rename_i es e
    simp only [Option.some.injEq] at h
    subst h
    obtain ⟨hl,hr⟩:=ER (ro:=ro) (μ:=μ) cs es e
    refine ⟨by simp [hl],fun i y hy=>?_⟩
    cases i with
    | zero=>simpa using hy
    | succ i=>simpa using hr i y (by simpa using hy)
   ·cases h
  all_goals simp [Zj] at h
theorem TK {ro:Ro} {μ:Mu} {x:D} {v:Value} (h:VR ro μ (.d x) v):DR ro x v:=by
 cases h;assumption
theorem BQ {ro:Ro} {μ:Mu} {cs:List AV} {C:Array Value} (h:oo ro μ cs C):VR ro μ (BR cs) (.agg C):=by
 unfold BR
 split
 ·rename_i ds e
  obtain ⟨hl,hr⟩:=ER (ro:=ro) (μ:=μ) cs ds e
  exact .d _ _ (.agg ds C (by rw [h.size,hl]) (fun i x v hx hv=>TK (h.get i _ v (hr i x hx) hv)))
 ·exact .agg cs C h.size h.get
theorem DJ {ro:Ro} {μ:Mu} {g:Bool} {n:Nat} {cs:List AV} {C:Array Value} {x:AV} (h:oo ro μ cs C) (hx:tO g n cs=some x):
  C.size=n∧((g=true∧VR ro μ x (.agg C))∨(g=false∧n=1∧∃v,C=#[v]∧VR ro μ x v)):=by
 unfold tO at hx
 split at hx
 ·rename_i hl
  refine ⟨by rw [h.size,hl],?_⟩
  cases g with
  | true=>
   simp only [if_true,Option.some.injEq] at hx
   subst hx
   exact .inl ⟨rfl,BQ h⟩
  | false=>
   simp only [Bool.false_eq_true,if_false] at hx
   split at hx
   ·rename_i y
    simp only [Option.some.injEq] at hx
    subst hx
    have hs:=h.size
    simp at hs hl
    obtain ⟨v,rfl⟩:∃v,C=#[v]:=by
     cases C with
     | mk l=>match l,hs with
      | [v],_=>exact ⟨v,rfl⟩
    exact .inr ⟨rfl,hl.symm,v,rfl,h.get 0 _ _ rfl rfl⟩
   ·cases hx
 ·cases hx
theorem tX {ro:Ro} {μ:Mu} {cs:List AV} {C:Array Value} (h:oo ro μ cs C) (o n:Nat):oo ro μ ((cs.drop o).take n) (C.extract o (o+n)):=by
 refine ⟨by simp [h.size];omega,fun i x v hx hv=>?_⟩
 rw [List.getElem?_take,List.getElem?_drop] at hx
 rw [Array.getElem?_extract] at hv
 split at hx
 ·rename_i hi
  split at hv
  ·exact h.get (o+i) x v hx hv
  ·cases hv
 ·cases hx
theorem iH {P:Program} {t:TypeId} {s:Nat} (h:dF P t=some s) (w:World):(Go.sizeOf t).run P w=.ok s w:=by
 unfold dF at h
 split at h
 ·rename_i i hi
  simp only [Option.some.injEq] at h
  subst h
  simp [Go.sizeOf,typeInfo,hi]
 ·cases h
theorem KD {P:Program} {t:TypeId} {g:Bool} (h:jB P t=some g) (w:World):(isAgg t).run P w=.ok g w:=by
 unfold jB at h
 split at h <;> simp only [Option.some.injEq,reduceCtorEq] at h
 ·rename_i fs e;subst h;simp [isAgg,run_underlying e]
 ·rename_i a b e;subst h;simp [isAgg,run_underlying e]
 ·rename_i d hn1 hn2 e
  subst h
  simp only [isAgg,Sem.run_bind,run_underlying e,Result.andThen_ok]
  cases d <;> first | rfl | (exfalso;first | exact hn1 _ e | exact hn2 _ _ e)
theorem jV (b o n:Nat):(cellAt b o).add n=cellAt b (o+n):=by
 unfold Addr.add cellAt;split <;> simp_all
theorem rR {w:World} {b o:Nat} {C:Array Value} {T:TypeId} {fz:Nat×Nat} (h:w.heap[b]?=some (.cells C T fz)):w.cell? (cellAt b o)=C[o]?:=by
 simp [World.cell?,cellAt,h]
theorem FM {P:Program} {w:World} {t:TypeId} {s:Nat} {g:Bool} {b o:Nat} {C:Array Value} (hs:dF P t=some s) (hg:jB P t=some g) (hC:C.size=s)
  (hc:∀j v,C[j]?=some v→w.cell? (cellAt b (o+j))=some v) (h1:g=false→s=1):
  (loadVar t (cellAt b o)).run P w=.ok (if g then .agg C else C.getD 0 undef) w:=by
 unfold loadVar
 simp only [Sem.run_bind,KD hg,Result.andThen_ok]
 cases g with
 | true=>
  have hl:=run_loadCells_list (P:=P) w (cellAt b o) C.toList (fun j v hv=>by rw [jV];exact hc j v (by simpa using hv))
  simp only [Array.length_toList] at hl
  simp [iH hs,← hC,hl]
 | false=>
  have e:=h1 rfl
  have h0:C[0]?=some (C.getD 0 undef):=by
   have:0 < C.size:=by omega
   simp [Array.getD,this]
  have:=hc 0 _ h0
  simp only [Nat.add_zero] at this
  simp [this]
theorem uM {P:Program} {σ:List Ob} {t:TypeId} {a x:AV} {ro:Ro} {μ:Mu} {w:World} {v:Value} (g:Good ro μ w (hp σ)) (ha:VR ro μ a v) (h:mQ P σ t a=some x):
  ∃u p,v=.pointer (some p)∧(loadVar t p).run P w=.ok u w∧VR ro μ x u:=by
 have key:∀(s:Nat) (gg:Bool) (b o:Nat) (cs:List AV) (C:Array Value),dF P t=some s→jB P t=some gg→oo ro μ cs C→tO gg s cs=some x→
   (∀j v,C[j]?=some v→w.cell? (cellAt b (o+j))=some v)→∃u,(loadVar t (cellAt b o)).run P w=.ok u w∧VR ro μ x u:=by
  intro s gg b o cs C hs hg hv hx hc
  obtain ⟨hC,h1⟩:=DJ hv hx
  refine ⟨_,FM hs hg hC hc (fun e=>?_),?_⟩
  ·rcases h1 with ⟨e',_⟩ | ⟨_,e',_⟩
   ·rw [e] at e';cases e'
   ·exact e'
  ·rcases h1 with ⟨rfl,k⟩ | ⟨rfl,_,u,rfl,k⟩
   ·exact k
   ·exact k
 unfold mQ at h
 split at h
 ·rename_i s gg hs hg
  split at h
  ·rename_i id idx off
   cases ha
   rename_i L hL
   refine Exists.imp (fun u=>?_) (?_:∃u,(loadVar t (cellAt L.blk (L.base+idx*L.sz+off))).run P w=.ok u w∧VR ro μ x u)
   ·intro k;exact ⟨_,rfl,k⟩
   have w9:=g.ob id
   split at h
   ·rename_i y e
    split at h
    ·rename_i e0
     subst e0
     simp only [hp,e] at w9
     obtain ⟨C,T,fz,hb,hh,_,hv⟩:=w9 L hL
     refine key s gg _ _ _ _ hs hg (tX hv off s) h (fun j v hj=>?_)
     rw [rR hh,hb]
     rw [Array.getElem?_extract] at hj
     split at hj
     ·simpa using hj
     ·cases hj
    ·cases h
   ·rename_i sz xs wr e
    split at h
    ·rename_i y hy
     simp only [hp,e] at w9
     obtain ⟨C,T,fz,hsz,hh,_,hCs,hlim,_,hz,hv⟩:=w9 L hL
     -- the element's cells
     have hzy:=(hz idx y hy).1
     have hin:L.base+(idx*sz+y.cells.length)≤C.size:=by
      have h2:idx < xs.length:=by
       rcases Nat.lt_or_ge idx xs.length with k | k
       ·exact k
       ·simp [List.getElem?_eq_none k] at hy
      have:(idx+1)*sz≤xs.length*sz:=Nat.mul_le_mul_right _ h2
      rw [Nat.add_mul] at this
      omega
     have hvs:oo ro μ (y.cells.map AV.d) (C.extract (L.base+idx*sz) (L.base+idx*sz+y.cells.length)):=by
      refine ⟨by simp;omega,fun j c u hc hu=>?_⟩
      simp only [List.getElem?_map,Option.map_eq_some_iff] at hc
      obtain ⟨c',hc',rfl⟩:=hc
      rw [Array.getElem?_extract] at hu
      split at hu
      ·obtain ⟨v',h1,h2⟩:=hv idx y j c' hy hc'
       rw [show L.base+(idx*sz+j)=L.base+idx*sz+j by omega] at h1
       rw [h1] at hu
       cases hu
       exact .d _ _ h2
      ·cases hu
     refine key s gg _ _ _ _ hs hg (tX hvs off s) h (fun j v hj=>?_)
     rw [rR hh,hsz]
     rw [Array.getElem?_extract] at hj
     split at hj
     ·rw [Array.getElem?_extract] at hj
      split at hj
      ·rw [← hj];congr 1;omega
      ·cases hj
     ·cases hj
    ·cases h
   ·cases h
  ·rename_i cs
   cases ha
   rename_i b o gg' h1 h2
   refine Exists.imp (fun u=>?_) (?_:∃u,(loadVar t (cellAt b o)).run P w=.ok u w∧VR ro μ x u)
   ·intro k;exact ⟨_,rfl,k⟩
   have hvs:oo ro μ (cs.map AV.d) ((List.range cs.length).map gg').toArray:=by
    refine ⟨by simp,fun j c u hc hu=>?_⟩
    simp only [List.getElem?_map,Option.map_eq_some_iff] at hc
    obtain ⟨c',hc',rfl⟩:=hc
    simp only [List.getElem?_toArray,List.getElem?_map,Option.map_eq_some_iff] at hu
    obtain ⟨k,hk,rfl⟩:=hu
    have:k=j:=by
     rw [List.getElem?_range] at hk
     ·exact (Option.some.inj hk).symm
     ·rcases Nat.lt_or_ge j cs.length with q | q
      ·exact q
      ·simp [List.getElem?_eq_none q] at hc'
    subst this
    exact .d _ _ (h2 k c' hc')
   have ak7:=tX hvs 0 s
   simp only [List.drop_zero,Nat.zero_add] at ak7
   refine key s gg _ _ _ _ hs hg ak7 h (fun j v hj=>?_)
   rw [Array.getElem?_extract] at hj
   split at hj
   ·simp only [Nat.zero_add,List.getElem?_toArray,List.getElem?_map,Option.map_eq_some_iff] at hj
    obtain ⟨k,hk,rfl⟩:=hj
    have hjl:j < cs.length:=by
     rcases Nat.lt_or_ge j cs.length with q | q
     ·exact q
     ·rw [List.getElem?_eq_none (by simpa using q)] at hk;cases hk
    rw [List.getElem?_range hjl] at hk
    cases hk
    exact g.qJ _ _ (h1 j _ (List.getElem?_eq_getElem hjl))
   ·cases hj
  ·cases h
 ·cases h
end Lv
/- Operations that make or write memory. -/
namespace Lv
open Go
variable [bJ]
def Step (P:Program) (s:Sem Value) (ro:Ro) (μ:Mu) (w:World) (σ:List Ob) (x:AV) (σ':List Ob):Prop:=
 ∃v ro' μ' w',s.run P w=.ok v w'∧VR ro' μ' x v∧Good ro' μ' w' (hp σ')∧Ext ro μ w (hp σ) ro' μ' w' (hp σ')∧
  (∀id,μ' id≠μ id→σ.length≤id∧id < σ'.length)∧σ.length≤σ'.length
theorem Step.still {P:Program} {s:Sem Value} {ro:Ro} {μ:Mu} {w:World} {σ:List Ob} {x:AV} (g:Good ro μ w (hp σ)) (h:∃v,s.run P w=.ok v w∧VR ro μ x v):Step P s ro μ w σ x σ:=by
 obtain ⟨v,h1,h2⟩:=h
 exact ⟨v,ro,μ,w,h1,h2,g,Ext.refl _ _ _ _,fun id h=>absurd rfl h,Nat.le_refl _⟩
theorem Lj {μ:Mu} {n:Nat} {L:Loc} {id:Nat} (h:iC μ n L id≠μ id):id=n:=by
 unfold iC at h
 split at h
 ·assumption
 ·exact absurd rfl h
theorem Step.push {P:Program} {s:Sem Value} {ro:Ro} {μ:Mu} {w w':World} {σ:List Ob} {x:AV} {v:Value} {o:Ob} {b:Obj} (L:Loc) (g:Good ro μ w (hp σ)) (hn:μ σ.length=none)
  (hr:s.run P w=.ok v w') (hL:L.blk=w.heap.size) (hw:w'.heap=w.heap.push b) (h1:w'.os=w.os) (h2:w'.tape=w.tape) (h3:w'.output=w.output)
  (ho:OR ro (iC μ σ.length L) w' σ.length o) (hv:VR ro (iC μ σ.length L) x v):Step P s ro μ w σ x (σ++[o]):=by
 obtain ⟨g',e'⟩:=g.new hn (qg (Nat.le_refl _)) hL hw h1 h2 h3 ho
 rw [← rF] at g' e'
 refine ⟨v,ro,_,w',hr,hv,g',e',fun id h=>?_,by simp⟩
 have:=Lj h
 subst this
 simp
theorem kK (n:Nat):vW (0,0) n:=⟨Nat.le_refl _,by intro o ho h;simp at h⟩
theorem OA {P:Program} {ro:Ro} {μ:Mu} {w:World} {σ:List Ob} {t:TypeId} {x:AV} {v:Value} (g:Good ro μ w (hp σ)) (hn:μ σ.length=none) (hv:VR ro μ x v) (hx:x≠.undef):
  Step P (Instr.box t v) ro μ w σ (.ref σ.length 0 0) (σ++[.box x]):=by
 have up:∀i L',μ i=some L'→iC μ σ.length ⟨w.heap.size,0,0,0⟩ i=some L':=by
  intro i L' h
  unfold iC
  split
  ·rename_i e;subst e;rw [hn] at h;cases h
  ·exact h
 refine Step.push (w':={ w with heap:=w.heap.push (.cells v.cells t) }) (v:=.pointer (some ⟨w.heap.size,0,none⟩)) ⟨w.heap.size,0,0,0⟩ g hn rfl rfl rfl rfl rfl rfl ?_ ?_
 ·intro L hL
  simp only [iC,if_true,Option.some.injEq] at hL
  subst hL
  exact ⟨v.cells,t,(0,0),rfl,by simp,kK _,(uN hv hx).mono (fun _ _ h=>h) up⟩
 ·have:=VR.ref (ro:=ro) (μ:=iC μ σ.length ⟨w.heap.size,0,0,0⟩) σ.length 0 0 ⟨w.heap.size,0,0,0⟩ (by simp [iC])
  simpa [cellAt] using this
theorem vQ {P:Program} {t:TypeId} {z:D} (h:zeroOf P t=some z) (ro:Ro) (w:World):∃v,(zeroValue t).run P w=.ok v w∧DR ro z v:=by
 unfold zeroOf at h
 split at h
 ·rename_i i hi
  split at h
  ·rename_i v hv
   exact ⟨v,by simp [zeroValue,typeInfo,hi,hv],RZ h⟩
  ·cases h
 ·cases h
theorem TA {P:Program} {ro:Ro} {μ:Mu} {w:World} {σ:List Ob} {t:TypeId} {z:D} (g:Good ro μ w (hp σ)) (hn:μ σ.length=none) (hz:zeroOf P t=some z):
  Step P (Instr.alloc t true (.tuple #[])) ro μ w σ (.ref σ.length 0 0) (σ++[.box (.d z)]):=by
 obtain ⟨v,h1,h2⟩:=vQ hz ro w
 obtain ⟨u,ro',μ',w',k1,k2⟩:=OA (P:=P) (t:=t) g hn (.d z v h2) (by simp)
 refine ⟨u,ro',μ',w',?_,k2⟩
 rw [← k1]
 simp [Instr.alloc,h1,Instr.box]
theorem cK {α:Type} {xs:List α} {i:Nat} {x:α} (h:xs[i]?=some x):i < xs.length:=by
 rcases Nat.lt_or_ge i xs.length with k | k
 ·exact k
 ·simp [List.getElem?_eq_none k] at h
theorem sQ {ro:Ro} {μ:Mu} {w:World} {σ σ':List Ob} {x:AV} {v:Value} {y:D} (g:Good ro μ w (hp σ)) (hv:VR ro μ x v) (h:og σ x=some (y,σ')):
  ∃ro',Good ro' μ w (hp σ')∧Ext ro μ w (hp σ) ro' μ w (hp σ')∧DR ro' y v∧y.isAgg=false∧σ'.length=σ.length:=by
 unfold og at h
 split at h
 ·rename_i z
  split at h
  ·cases h
  ·rename_i hz
   simp only [Option.some.injEq,Prod.mk.injEq] at h
   obtain ⟨rfl,rfl⟩:=h
   exact ⟨ro,g,Ext.refl _ _ _ _,TK hv,by simpa using hz,rfl⟩
 ·rename_i id sz off len cap
  split at h
  ·rename_i sz' xs wr e
   split at h
   ·rename_i hc
    obtain ⟨hc1,hc2⟩:=hc
    subst hc1
    simp only [Option.some.injEq,Prod.mk.injEq] at h
    obtain ⟨rfl,rfl⟩:=h
    rcases o7 hv with ⟨L,c,a,rfl,hL,hsz,hl,hcap,ha⟩ | ⟨rfl,rfl,rfl⟩
    rotate_left
    ·have hnil:∃ro',Good ro' μ w (upd (hp σ) id (.row sz' xs false))∧Ext ro μ w (hp σ) ro' μ w (upd (hp σ) id (.row sz' xs false)):=by
      cases hm:μ id with
      | none=>obtain ⟨g1,g2⟩:=g.phantom hm (o:=.row sz' xs false) (by simp);exact ⟨ro,g1,g2⟩
      | some L=>obtain ⟨ro',g1,g2,_⟩:=g.freeze (dR e) hm;exact ⟨ro',g1,g2⟩
     obtain ⟨ro',g',x'⟩:=hnil
     rw [← oW (cK e)] at g' x'
     refine ⟨ro',g',x',?_,rfl,by simp⟩
     rw [List.take_zero]
     exact DR.nl sz'
    obtain ⟨ro',g',x',hro⟩:=g.freeze (dR e) hL
    rw [← oW (cK e)] at g' x'
    refine ⟨ro',g',x',?_,rfl,by simp⟩
    have w9:=g.ob id
    rw [dR e] at w9
    obtain ⟨C,T,fz,h0,hh,hf,hs,hlim,hw,hz,hcell⟩:=w9 L hL
    have hro:=hro C T fz hh
    -- the elements
    have hget:∀i x,((xs.drop off).take len)[i]?=some x→i < len∧xs[off+i]?=some x:=by
     intro i x hx
     rw [List.getElem?_take,List.getElem?_drop] at hx
     split at hx
     ·exact ⟨by assumption,hx⟩
     ·cases hx
    have hlen:((xs.drop off).take len).length=len:=by simp;omega
    have hcc:∀i x,i < len→xs[off+i]?=some x→c≠0:=by intro i x hi _;omega
    have hd:VR ro' μ (.d (.y8 sz' ((xs.drop off).take len))) (.slice (some a) ((xs.drop off).take len).length c):=by
     refine .d _ _ (.y8 sz' _ a c (fun k=>C.getD (L.base+(off*sz'+k)) undef) (by omega) (fun hne=>?_) (fun i x hx=>?_) (fun i x j cc hx hj=>?_) (fun i x j cc hx hj=>?_))
     ·have:len≠0:=by
       intro e0;apply hne;rw [List.eq_nil_iff_length_eq_zero];omega
      rw [(ha (by omega)).1];rfl
     ·exact hz _ x (hget i x hx).2
     ·obtain ⟨h1,h2⟩:=hget i x hx
      obtain ⟨v,k1,k2⟩:=hcell _ x j cc h2 hj
      have ea:=(ha (hcc i x h1 h2)).1
      rw [ea]
      have:L.base+((off+i)*sz'+j)=L.base+off*sz'+(i*sz'+j):=by rw [Nat.add_mul];omega
      rw [this] at k1
      have:=hro _ _ k1
      simp only [cellAt] at this ⊢
      rw [this]
      simp only [Array.getD_eq_getD_getElem?]
      rw [show L.base+(off*sz'+(i*sz'+j))=L.base+off*sz'+(i*sz'+j) by omega,k1]
      rfl
     ·obtain ⟨h1,h2⟩:=hget i x hx
      obtain ⟨v,k1,k2⟩:=hcell _ x j cc h2 hj
      simp only [Array.getD_eq_getD_getElem?]
      rw [show L.base+(off*sz'+(i*sz'+j))=L.base+((off+i)*sz'+j) by rw [Nat.add_mul];omega,k1]
      exact k2.mono x'.jC
    rw [hlen] at hd
    exact TK hd
   ·cases h
  ·cases h
 ·cases h
theorem nZ:∀(xs:List AV) {ro:Ro} {μ:Mu} {w:World} {σ σ':List Ob} {vs:List Value} {ys:List D},Good ro μ w (hp σ)→vs.length=xs.length→
  (∀(i:Nat) (x:AV) (v:Value),xs[i]?=some x→vs[i]?=some v→VR ro μ x v)→lD σ xs=some (ys,σ')→
  ∃ro',Good ro' μ w (hp σ')∧Ext ro μ w (hp σ) ro' μ w (hp σ')∧ys.length=xs.length∧(∀(i:Nat) (y:D) (v:Value),ys[i]?=some y→vs[i]?=some v→DR ro' y v)∧
   (∀y∈ys,y.isAgg=false)∧σ'.length=σ.length
 | [],ro,μ,w,σ,σ',vs,ys,g,_,_,h=>by
  simp only [lD,Option.some.injEq,Prod.mk.injEq] at h
  obtain ⟨rfl,rfl⟩:=h
  exact ⟨ro,g,Ext.refl _ _ _ _,rfl,fun i y v hy=>by simp at hy,fun y hy=>by simp at hy,rfl⟩
 | x::xs,ro,μ,w,σ,σ',[],ys,g,hl,_,h=>by simp at hl
 | x ::xs,ro,μ,w,σ,σ',v::vs,ys,g,hl,hv,h=>by
  simp only [lD] at h
  split at h
  ·rename_i y σ1 e1
   split at h
   ·rename_i ys' σ2 e2
    simp only [Option.some.injEq,Prod.mk.injEq] at h
    obtain ⟨rfl,rfl⟩:=h
    obtain ⟨qK,g1,x1,d1,a1,l1⟩:=sQ g (hv 0 x v rfl rfl) e1
    obtain ⟨Rx,g2,x2,l2,d2,a2,l3⟩:=nZ xs g1 (by simpa using hl) (fun i x v hx hu=>(hv (i+1) x v (by simpa using hx) (by simpa using hu)).mono x1.jC (fun _ _ h=>h)) e2
    refine ⟨Rx,g2,x1.trans x2,by simp [l2],fun i y' v' hy hv'=>?_,fun y' hy=>?_,by omega⟩
    ·cases i with
     | zero=>
      simp only [List.getElem?_cons_zero,Option.some.injEq] at hy hv'
      subst hy;subst hv'
      exact d1.mono x2.jC
     | succ i=>exact d2 i y' v' (by simpa using hy) (by simpa using hv')
    ·rcases List.mem_cons.1 hy with rfl | hy
     ·exact a1
     ·exact a2 y' hy
   ·cases h
  ·cases h
theorem jT {α:Type} {xs ys:List α} {o:Nat} (h:o+ys.length≤xs.length) (k:Nat):(over xs o ys)[k]?=if o≤k∧k < o+ys.length then ys[k - o]? else xs[k]?:=by
 unfold over
 have hl:(xs.take o).length=o:=by simp;omega
 by_cases h1:k < o
 ·rw [List.getElem?_append_left (by omega),List.getElem?_take]
  simp [h1,show ¬(o≤k∧k < o+ys.length) by omega]
 ·rw [List.getElem?_append_right (by omega),hl]
  by_cases h2:k < o+ys.length
  ·rw [List.getElem?_append_left (by omega)]
   simp [show o≤k∧k < o+ys.length by omega]
  ·rw [List.getElem?_append_right (by omega),List.getElem?_drop]
   simp only [show ¬(o≤k∧k < o+ys.length) by omega,if_false]
   congr 1
   omega
theorem iM {α:Type} {xs ys:List α} {o:Nat} (h:o+ys.length≤xs.length):(over xs o ys).length=xs.length:=by
 simp [over];omega
theorem pE (b:Nat) (T:TypeId) (fz:Nat×Nat):∀(vs:List Value) (o:Nat) (w:World) (C:Array Value),w.heap[b]?=some (.cells C T fz)→o+vs.length≤C.size→
  (w.setCells b o vs).heap[b]?=some (.cells (over C.toList o vs).toArray T fz)∧(∀k,k≠b→(w.setCells b o vs).heap[k]?=w.heap[k]?)∧(w.setCells b o vs).heap.size=w.heap.size∧
   (w.setCells b o vs).os=w.os∧(w.setCells b o vs).tape=w.tape∧(w.setCells b o vs).output=w.output
 | [],o,w,C,h,hl=>by
  refine ⟨?_,fun _ _=>rfl,rfl,rfl,rfl,rfl⟩
  simp [World.setCells,h,over]
 | v ::vs,o,w,C,h,hl=>by
  simp only [List.length_cons] at hl
  have hb:b < w.heap.size:=by
   rcases Nat.lt_or_ge b w.heap.size with k | k
   ·exact k
   ·simp [Array.getElem?_eq_none k] at h
  have h1:(w.setCell ⟨b,o,none⟩ v).heap[b]?=some (.cells (C.setIfInBounds o v) T fz):=by
   simp [World.setCell,Array.getElem?_modify,h]
  obtain ⟨k1,k2,k3,k4,k5,k6⟩:=pE b T fz vs (o+1) (w.setCell ⟨b,o,none⟩ v) (C.setIfInBounds o v) h1 (by simp;omega)
  refine ⟨?_,fun k hk=>?_,?_,k4,k5,k6⟩
  ·simp only [World.setCells]
   rw [k1]
   congr 2
   apply Array.ext'
   simp only [Array.toList_setIfInBounds]
   apply List.ext_getElem?
   intro k
   rw [jT (by simp;omega),jT (by simp;omega),List.getElem?_set]
   simp only [List.length_cons,Array.length_toList]
   by_cases e:k=o
   ·subst e
    rw [if_neg (by omega),if_pos (by omega:k < C.size),if_pos (by omega)]
    simp
   ·by_cases e2:o+1≤k∧k < o+1+vs.length
    ·simp only [e2,if_true,show o≤k∧k < o+(vs.length+1) by omega,and_self,true_and]
     rw [show k - o=(k - (o+1))+1 by omega]
     simp
    ·simp only [e2,if_false,show ¬(o≤k∧k < o+(vs.length+1)) by omega,show ¬o=k from fun h=>e h.symm]
  ·simp only [World.setCells]
   rw [k2 k hk,RowKit.Below.heap_setCell _ _ _ _ hk]
  ·simp only [World.setCells]
   rw [k3]
   simp [World.setCell]
theorem FL {P:Program} {w:World} {t:TypeId} {s b o:Nat} {v:Value} {C:Array Value} {T:TypeId} {fz:Nat×Nat} (hs:dF P t=some s) (hv:v.cells.size=s)
  (h1:∀x∈v.cells.toList,x.oneCell'=true) (hC:w.heap[b]?=some (.cells C T fz)) (hf:vW fz C.size) (hl:o+s≤C.size):
  (storeVar t (cellAt b o) v).run P w=.ok () (w.setCells b o v.cells.toList):=by
 unfold storeVar
 have:=run_storeCells_cells (P:=P) b o v.cells.toList 0 w (fun j hj=>?_) (fun j hj=>?_) h1
 ·simp only [Nat.add_zero] at this
  simp only [Sem.run_bind,iH hs,Result.andThen_ok,hv,ne_eq,not_true_eq_false,if_false,cellAt,this]
 ·simp only [Array.length_toList] at hj
  simp only [World.cell?,hC,Option.isSome_none,Bool.false_eq_true,if_false,Nat.add_zero]
  simp;omega
 ·simp only [Array.length_toList] at hj
  simp only [World.frozen?,hC,Nat.add_zero]
  have:=hf.2 (o+j) (by omega)
  simpa using this
theorem TG {ro:Ro} {μ:Mu} {cs ys:List AV} {C V:Array Value} {o:Nat} (h:oo ro μ cs C) (k:oo ro μ ys V) (hl:o+ys.length≤cs.length):oo ro μ (over cs o ys) (over C.toList o V.toList).toArray:=by
 have hC:=h.size
 have hV:=k.size
 refine ⟨by rw [List.size_toArray,iM (by simp;omega),iM hl];simpa using hC,fun i x v hx hv=>?_⟩
 rw [jT hl] at hx
 rw [List.getElem?_toArray,jT (by simp;omega)] at hv
 simp only [Array.length_toList,hV] at hv
 split at hx
 ·rename_i hi
  rw [if_pos hi] at hv
  exact k.get _ x v hx (by simpa using hv)
 ·rename_i hi
  rw [if_neg hi] at hv
  exact h.get _ x v hx (by simpa using hv)
theorem Tm (cs:List AV):(BR cs).cells=cs:=by
 unfold BR
 split
 ·rename_i ds e
  obtain ⟨hl,hr⟩:=ER (ro:=fun _=>none) (μ:=fun _=>none) cs ds e
  apply List.ext_getElem?
  intro i
  simp only [AV.cells,List.getElem?_map]
  rcases Nat.lt_or_ge i ds.length with k | k
  ·rw [List.getElem?_eq_getElem k]
   exact (hr i _ (List.getElem?_eq_getElem k)).symm
  ·rw [List.getElem?_eq_none k,List.getElem?_eq_none (by omega)]
   rfl
 ·rfl
theorem Ml {y:AV} (h:y.cells.all AV.one=true):y≠.undef:=by rintro rfl;simp [AV.cells,AV.one] at h
theorem rQ {z:AV} (h:z.one=true):z.cells=[z]:=by
 cases z
 case d x=>cases x <;> first | rfl | simp [AV.one,D.isAgg] at h
 all_goals first | rfl | simp [AV.one] at h
theorem D.rQ {z:D} (h:z.isAgg=false):z.cells=[z]:=by
 cases z <;> first | rfl | simp [D.isAgg] at h
theorem Ap {x:AV} (h:x.isAgg=false):x.cells=[x]:=by
 cases x
 case d x=>cases x <;> first | rfl | simp [AV.isAgg] at h
 all_goals first | rfl | simp [AV.isAgg] at h
theorem D.PO {n sz:Nat} {xs:List D} {idx:Nat} {x:D} (hz:∀(i:Nat) (x:D),xs[i]?=some x→x.F8 sz) (h:xs[idx]?=some x) (hl:xs.length*sz≤n):idx*sz+x.cells.length≤n:=by
 have h2:=cK h
 have:=(hz idx x h).1
 have:(idx+1)*sz≤xs.length*sz:=Nat.mul_le_mul_right _ h2
 rw [Nat.add_mul] at this
 omega
theorem adU {ro ro':Ro} {xs:List D} {sz base idx off:Nat} {y z:D} {C:Array Value} {ds:List D} {V:List Value} (up:∀a v,ro a=some v→ro' a=some v)
  (hz:∀(i:Nat) (x:D),xs[i]?=some x→x.F8 sz)
  (hc:∀(i:Nat) (x:D) (j:Nat) (c:D),xs[i]?=some x→x.cells[j]?=some c→∃v,C[base+(i*sz+j)]?=some v∧DR ro c v)
  (hy:xs[idx]?=some y) (hlim:base+xs.length*sz≤C.size) (hzc:z.cells=over y.cells off ds) (hoff:off+ds.length≤y.cells.length) (hV:V.length=ds.length)
  (hd:∀(i:Nat) (y:D) (v:Value),ds[i]?=some y→V[i]?=some v→DR ro' y v) (ha:∀y∈ds,y.isAgg=false):
  (∀(i:Nat) (x:D),(xs.set idx z)[i]?=some x→x.F8 sz)∧
  (∀(i:Nat) (x:D) (j:Nat) (c:D),(xs.set idx z)[i]?=some x→x.cells[j]?=some c→∃v,(over C.toList (base+idx*sz+off) V).toArray[base+(i*sz+j)]?=some v∧DR ro' c v):=by
 have hyl:=(hz idx y hy).1
 have hfit:=D.PO hz hy (Nat.le_refl (xs.length*sz))
 have hov:(base+idx*sz+off)+V.length≤C.toList.length:=by simp;omega
 constructor
 ·intro i x hx
  rw [List.getElem?_set] at hx
  split at hx
  ·split at hx
   ·rename_i e _
    subst e
    simp only [Option.some.injEq] at hx
    subst hx
    refine ⟨by rw [hzc,iM hoff,hyl],fun c hcm=>?_⟩
    rw [hzc] at hcm
    simp only [over,List.mem_append] at hcm
    rcases hcm with h | h | h
    ·exact (hz _ y hy).2 c (List.mem_of_mem_take h)
    ·exact ha c h
    ·exact (hz _ y hy).2 c (List.mem_of_mem_drop h)
   ·cases hx
  ·exact hz i x hx
 ·intro i x j c hx hj
  rw [List.getElem?_toArray,jT hov]
  rw [List.getElem?_set] at hx
  split at hx
  ·split at hx
   ·rename_i e _
    subst e
    simp only [Option.some.injEq] at hx
    subst hx
    rw [hzc,jT hoff] at hj
    split at hj
    ·rename_i hi
     rw [if_pos (by omega)]
     have hjl:=cK hj
     refine ⟨V[base+(idx*sz+j) - (base+idx*sz+off)]'(by omega),by rw [List.getElem?_eq_getElem],hd (j - off) c _ hj ?_⟩
     rw [List.getElem?_eq_getElem (by omega)]
     congr 1
     congr 1
     omega
    ·rename_i hi
     rw [if_neg (by omega)]
     obtain ⟨v,h1,h2⟩:=hc idx y j c hy hj
     exact ⟨v,by simpa using h1,h2.mono up⟩
   ·cases hx
  ·rename_i hne
   obtain ⟨v,h1,h2⟩:=hc i x j c hx hj
   have LM:=D.PO hz hx (Nat.le_refl (xs.length*sz))
   have hjl:=cK hj
   have hxl:=(hz i x hx).1
   rw [if_neg ?_]
   ·exact ⟨v,by simpa using h1,h2.mono up⟩
   ·intro ⟨k1,k2⟩
    rcases Nat.lt_or_ge i idx with q | q
    ·have:(i+1)*sz≤idx*sz:=Nat.mul_le_mul_right _ q
     rw [Nat.add_mul] at this
     omega
    ·have:(idx+1)*sz≤i*sz:=Nat.mul_le_mul_right _ (by omega)
     rw [Nat.add_mul] at this
     omega
theorem QA {P:Program} {σ σ':List Ob} {t:TypeId} {a y:AV} {ro:Ro} {μ:Mu} {w:World} {v u:Value} (g:Good ro μ w (hp σ)) (ha:VR ro μ a v) (hu:VR ro μ y u) (h:mg P σ t a y=some σ'):
  ∃p w' ro',v=.pointer (some p)∧(storeVar t p u).run P w=.ok () w'∧Good ro' μ w' (hp σ')∧Ext ro μ w (hp σ) ro' μ w' (hp σ')∧σ'.length=σ.length:=by
 unfold mg at h
 split at h
 ·rename_i s hs
  split at h
  ·rename_i hy
   obtain ⟨hy1,hy2⟩:=hy
   have hcells:=uN hu (Ml hy2)
   have hus:u.cells.size=s:=by rw [hcells.size,hy1]
   have hone:∀x∈u.cells.toList,x.oneCell'=true:=by
    intro x hx
    obtain ⟨i,hi⟩:=List.getElem?_of_mem hx
    have hil:=cK hi
    simp only [Array.length_toList] at hil
    have hyi:i < y.cells.length:=by omega
    refine ajg (hcells.get i _ x (List.getElem?_eq_getElem hyi) (by simpa using hi)) ?_
    exact List.all_eq_true.1 hy2 _ (List.getElem_mem hyi)
   split at h
   ·rename_i id idx off
    obtain ⟨L,hL,rfl⟩:=zV ha
    refine ⟨cellAt L.blk (L.base+idx*L.sz+off),?_⟩
    split at h
    ·rename_i x e
     split at h
     ·rename_i hc
      obtain ⟨e0,hoff⟩:=hc
      subst e0
      have w9:=g.ob id
      rw [dR e] at w9
      obtain ⟨C,T,fz,hb,hh,hf,hv⟩:=w9 L hL
      have hCs:=hv.size
      have hrun:=FL (P:=P) (t:=t) (o:=L.base+0*L.sz+off) hs hus hone hh hf (by omega)
      obtain ⟨k1,k2,k3,k4,k5,k6⟩:=pE L.blk T fz u.cells.toList (L.base+0*L.sz+off) w C hh (by simp;omega)
      have hover:=TG (o:=off) hv hcells (by omega)
      have hsz:(over C.toList off u.cells.toList).length=C.size:=by rw [iM (by simp;omega)];simp
      have fin:∀(z:AV),oo ro μ z.cells (over C.toList off u.cells.toList).toArray→
        ∃w' ro',(Value.pointer (some (cellAt L.blk (L.base+0*L.sz+off))))=Value.pointer (some (cellAt L.blk (L.base+0*L.sz+off)))∧(storeVar t (cellAt L.blk (L.base+0*L.sz+off)) u).run P w=.ok () w'∧Good ro' μ w' (hp (σ.set id (.box z)))∧Ext ro μ w (hp σ) ro' μ w' (hp (σ.set id (.box z)))∧(σ.set id (.box z)).length=σ.length:=by
       intro z hz
       have:=g.write (n:=id) (o:=.box z) (L:=L) (by rw [dR e];rfl) hL k2 k3 k4 k5 k6 (by
        intro L' hL'
        rw [hL] at hL';cases hL'
        refine ⟨_,T,fz,hb,k1,?_,?_⟩
        ·rw [List.size_toArray,hb,show 0+0*L.sz+off=off by omega,hsz];exact hf
        ·rw [hb,show 0+0*L.sz+off=off by omega];exact hz)
       rw [← oW (cK e)] at this
       exact ⟨_,ro,rfl,hrun,this.1,this.2,by simp⟩
      split at h
      ·simp only [Option.some.injEq] at h
       subst h
       exact fin _ (by rw [Tm];exact hover)
      ·rename_i hxa
       split at h
       ·rename_i z hzc
        simp only [Option.some.injEq] at h
        subst h
        refine fin z ?_
        have hx1:=Ap (x:=x) (by simpa using hxa)
        have hz1:z.one=true:=by
         have:=List.all_eq_true.1 hy2 z (by rw [hzc];simp)
         exact this
        rw [hx1,hzc] at hover
        have h0:off=0:=by rw [hx1] at hoff;rw [hzc] at hy1;simp at hoff hy1;omega
        rw [h0] at hover ⊢
        rw [rQ hz1]
        simpa [over] using hover
       ·cases h
     ·cases h
    ·rename_i sz0 xs0 wr0 e
     split at h
     ·rename_i ds σ1 hfr
      split at h
      ·rename_i sz xs e1
       split at h
       ·rename_i x hx
        split at h
        ·rename_i hoff
         obtain ⟨qK,g1,x1,l1,d1,a1,n1⟩:=nZ y.cells (vs:=u.cells.toList) g (by simpa using hcells.size) (fun i x v hx hv=>hcells.get i x v hx (by simpa using hv)) hfr
         have w9:=g1.ob id
         rw [dR e1] at w9
         obtain ⟨C,T,fz,h0,hh,hf,hCs,hlim,hw,hz,hcell⟩:=w9 L hL
         have hfit:=D.PO hz hx hlim
         have hrun:=FL (P:=P) (t:=t) (o:=L.base+idx*L.sz+off) hs hus hone hh hf (by rw [h0];omega)
         obtain ⟨k1,k2,k3,k4,k5,k6⟩:=pE L.blk T fz u.cells.toList (L.base+idx*L.sz+off) w C hh (by rw [h0];simp;omega)
         have hsz:(over C.toList (L.base+idx*L.sz+off) u.cells.toList).length=C.size:=by rw [iM (by rw [h0];simp;omega)];simp
         have fin:∀(z:D),z.cells=over x.cells off ds→
           ∃w' ro',(Value.pointer (some (cellAt L.blk (L.base+idx*L.sz+off))))=Value.pointer (some (cellAt L.blk (L.base+idx*L.sz+off)))∧(storeVar t (cellAt L.blk (L.base+idx*L.sz+off)) u).run P w=.ok () w'∧Good ro' μ w' (hp (σ1.set id (.row sz (xs.set idx z) true)))∧Ext ro μ w (hp σ) ro' μ w' (hp (σ1.set id (.row sz (xs.set idx z) true)))∧(σ1.set id (.row sz (xs.set idx z) true)).length=σ.length:=by
          intro z hzc
          obtain ⟨r1,r2⟩:=adU (ro':=qK) (base:=L.base) (V:=u.cells.toList) (fun _ _ h=>h) hz hcell hx (by omega) hzc (by omega) (by simp;omega) d1 a1
          have:=g1.write (n:=id) (o:=.row sz (xs.set idx z) true) (L:=L) (by rw [dR e1];rfl) hL k2 k3 k4 k5 k6 (by
           intro L' hL'
           rw [hL] at hL';cases hL'
           refine ⟨_,T,fz,h0,k1,?_,?_,?_,fun e=>(by cases e),r1,?_⟩
           ·rw [List.size_toArray,hsz];exact hf
           ·rw [List.size_toArray,hsz];exact hCs
           ·simpa using hlim
           ·rw [h0];exact r2)
          rw [← oW (cK e1)] at this
          exact ⟨_,qK,rfl,hrun,this.1,x1.trans this.2,by simp [n1]⟩
         split at h
         ·simp only [Option.some.injEq] at h
          subst h
          exact fin _ rfl
         ·rename_i hxa
          split at h
          ·rename_i z
           simp only [Option.some.injEq] at h
           subst h
           refine fin z ?_
           have hx1:=D.rQ (z:=x) (by simpa using hxa)
           have hz1:=D.rQ (z:=z) (a1 z (by simp))
           have:off=0:=by
            rw [hx1] at hoff;simp at hoff l1;omega
           subst this
           rw [hx1,hz1]
           simp [over]
          ·cases h
        ·cases h
       ·cases h
      ·cases h
     ·cases h
    ·cases h
   ·cases h
  ·cases h
 ·cases h
end Lv
/- Addresses, parts, slices of slices. -/
namespace Lv
open Go
variable [bJ]
theorem CU {a:Addr} (h:a.spot=none):a=cellAt a.block a.off:=by cases a;simp_all [cellAt]
theorem Jf {P:Program} {t:TypeId} {f:Nat} {fd:Field} (h:vI P t f=some fd):∃fs,P.underlying t=some (.struct fs)∧fs[f]?=some fd:=by
 unfold vI at h
 split at h
 ·rename_i fs e;exact ⟨fs,e,h⟩
 ·cases h
theorem IU {P:Program} {t:TypeId} {f:Nat} {fd:Field} {s b o:Nat} (h:vI P t f=some fd) (hs:dF P fd.type=some s) (h0:s≠0) (w:World):
  (Instr.fieldAt t (.pointer (some (cellAt b o))) f).run P w=.ok (.pointer (some (cellAt b (o+fd.offset)))) w:=by
 obtain ⟨fs,e1,e2⟩:=Jf h
 simp [Instr.fieldAt,run_underlying e1,e2,Instr.sureAddr,fieldPlace,iH hs,h0,jV]
theorem y5 {P:Program} {t:TypeId} {f:Nat} {a x:AV} {ro:Ro} {μ:Mu} {v:Value} (hv:VR ro μ a v) (h:om P t f a=some x) (w:World):
  ∃u,(Instr.fieldAt t v f).run P w=.ok u w∧VR ro μ x u:=by
 unfold om at h
 split at h
 ·rename_i id idx off
  split at h
  ·rename_i fd hf
   split at h
   ·rename_i s hs
    split at h
    ·cases h
    ·rename_i h0
     simp only [Option.some.injEq] at h
     subst h
     obtain ⟨L,hL,rfl⟩:=zV hv
     refine ⟨_,IU hf hs h0 w,?_⟩
     have:=VR.ref (ro:=ro) id idx (off+fd.offset) L hL
     rwa [← Nat.add_assoc] at this
   ·cases h
  ·cases h
 ·rename_i cs
  split at h
  ·rename_i fd hf
   split at h
   ·rename_i s hs
    split at h
    ·cases h
    ·rename_i h0
     simp only [Option.some.injEq] at h
     subst h
     obtain ⟨b,o,g,rfl,h1,h2⟩:=Mt hv
     refine ⟨_,IU hf hs h0 w,.rop _ b (o+fd.offset) (fun j=>g (fd.offset+j)) (fun j c hj=>?_) (fun j c hj=>?_)⟩
     ·rw [List.getElem?_drop] at hj
      rw [Nat.add_assoc]
      exact h1 _ c hj
     ·rw [List.getElem?_drop] at hj
      exact h2 _ c hj
   ·cases h
  ·cases h
 ·cases h
theorem aeF {ro:Ro} {μ:Mu} {x:AV} {v:Value} (h:VR ro μ x v) (hx:x.isAgg=true):∃C,v=.agg C∧oo ro μ x.cells C:=by
 have hne:x≠.undef:=by rintro rfl;simp [AV.isAgg] at hx
 have hc:=uN h hne
 cases h
 case agg cs C _ _=>exact ⟨C,rfl,hc⟩
 case d x h=>
  cases h
  case agg cs C _ _=>exact ⟨C,rfl,hc⟩
  all_goals simp [AV.isAgg] at hx
 all_goals simp [AV.isAgg] at hx
theorem QE {P:Program} {t:TypeId} {f:Nat} {a x:AV} {ro:Ro} {μ:Mu} {v:Value} (hv:VR ro μ a v) (h:Vn P t f a=some x) (w:World):
  ∃u,(Instr.field t v f).run P w=.ok u w∧VR ro μ x u:=by
 unfold Vn at h
 split at h
 ·rename_i fd hf
  split at h
  ·rename_i s g hs hg
   split at h
   ·rename_i ha
    obtain ⟨C,rfl,hc⟩:=aeF hv ha
    obtain ⟨fs,e1,e2⟩:=Jf hf
    have hvs:=tX hc fd.offset s
    obtain ⟨hC,h1⟩:=DJ hvs h
    have hin:s≠0→fd.offset+s≤C.size:=by
     intro h0
     simp at hC
     omega
    rcases h1 with ⟨rfl,k⟩ | ⟨rfl,rfl,u,hu,k⟩
    ·refine ⟨.agg (C.extract fd.offset (fd.offset+s)),?_,k⟩
     simp [Instr.field,run_underlying e1,e2,asAgg,part,KD hg,iH hs]
    ·refine ⟨u,?_,k⟩
     have hlt:fd.offset < C.size:=by have:=hin (by omega);omega
     have hu0:C[fd.offset]?=some u:=by
      have:(C.extract fd.offset (fd.offset+1))[0]?=some u:=by rw [hu];rfl
      rw [Array.getElem?_extract] at this
      split at this
      ·simpa using this
      ·cases this
     simp [Instr.field,run_underlying e1,e2,asAgg,part,KD hg,hu0]
   ·cases h
  ·cases h
 ·cases h
theorem toNat_lt {n:Int} {k:Nat} (h0:0≤n) (h:n < (k:Int)):n.toNat < k:=by omega
theorem Mv {ro:Ro} {μ:Mu} {k:IntKind} {n:Int} {v:Value} (h:VR ro μ (.d (.int k n)) v):v=.int k n:=gP h rfl
theorem yZ {P:Program} {t:TypeId} {a i x:AV} {ro:Ro} {μ:Mu} {v u:Value} (hv:VR ro μ a v) (hi:VR ro μ i u) (h:mq P t a i=some x) (w:World):
  ∃r,(Instr.indexAt t v u).run P w=.ok r w∧VR ro μ x r:=by
 unfold mq at h
 split at h
 ·rename_i k n
  obtain rfl:=Mv hi
  split at h
  ·rename_i e hu
   split at h
   ·rename_i s hs
    split at h
    ·rename_i id sz off len cap
     split at h
     ·rename_i hc
      obtain ⟨h0,h1,rfl⟩:=hc
      simp only [Option.some.injEq] at h
      subst h
      rcases o7 hv with ⟨L,c,a,rfl,hL,hsz,hl,hcap,ha⟩ | ⟨rfl,rfl,rfl⟩
      rotate_left
      ·exfalso;simp at h1;omega
      obtain ⟨rfl,_⟩:=ha (by omega)
      refine ⟨.pointer (some (cellAt L.blk (L.base+off*sz+n.toNat * sz))),?_,?_⟩
      ·simp [Instr.indexAt,asIntOf,run_underlying hu,h0,h1,iH hs,jV]
      ·have:=VR.ref (ro:=ro) id (off+n.toNat) 0 L hL
       rwa [hsz,Nat.add_mul,Nat.add_zero,← Nat.add_assoc] at this
     ·cases h
    ·rename_i sz xs
     split at h
     ·rename_i hc
      obtain ⟨h0,rfl⟩:=hc
      split at h
      ·rename_i y hy
       simp only [Option.some.injEq] at h
       subst h
       rcases zW hv with ⟨a,cap,g,rfl,hl,hsp,hz,k1,k2⟩ | ⟨rfl,rfl⟩
       rotate_left
       ·simp at hy
       have hlt:=cK hy
       have ea:a=cellAt a.block a.off:=CU (hsp (by rintro rfl;simp at hlt))
       refine ⟨.pointer (some (cellAt a.block (a.off+n.toNat * sz))),?_,?_⟩
       ·have:n < (xs.length:Int):=by omega
        rw [ea]
        simp only [Instr.indexAt,Sem.run_bind,asIntOf,Sem.run_pure,Result.andThen_ok,run_underlying hu,h0,this,and_self,if_true,iH hs,jV]
        rfl
       ·refine .rop _ a.block _ (fun j=>g (n.toNat * sz+j)) (fun j c hj=>?_) (fun j c hj=>k2 _ y j c hy hj)
        have:=k1 _ y j c hy hj
        rwa [← Nat.add_assoc] at this
      ·cases h
     ·cases h
    ·cases h
   ·cases h
  ·rename_i len e hu
   split at h
   ·rename_i s hs
    split at h
    ·rename_i id idx off
     split at h
     ·rename_i hc
      obtain ⟨h0,h1⟩:=hc
      simp only [Option.some.injEq] at h
      subst h
      obtain ⟨L,hL,rfl⟩:=zV hv
      refine ⟨.pointer (some (cellAt L.blk (L.base+idx*L.sz+off+n.toNat * s))),?_,?_⟩
      ·simp [Instr.indexAt,asIntOf,run_underlying hu,Instr.sureAddr,h0,h1,iH hs,jV]
      ·have:=VR.ref (ro:=ro) id idx (off+n.toNat * s) L hL
       rwa [← Nat.add_assoc] at this
     ·cases h
    ·cases h
   ·cases h
  ·cases h
 ·cases h
theorem Cm {P:Program} {ro:Ro} {μ:Mu} {x:Option AV} {v:Option Value} {l:Option Nat} (hx:∀y,x=some y→∃u,v=some u∧VR ro μ y u) (hn:x=none→v=none) (h:vL x=some l):
  (l=none∧v=none)∨∃k n,v=some (.int k n)∧0≤n∧l=some n.toNat:=by
 unfold vL at h
 split at h
 ·simp only [Option.some.injEq] at h
  exact .inl ⟨h.symm,hn rfl⟩
 ·rename_i k n
  split at h
  ·rename_i h0
   simp only [Option.some.injEq] at h
   obtain ⟨u,rfl,hu⟩:=hx _ rfl
   obtain rfl:=Mv hu
   exact .inr ⟨k,n,rfl,h0,h.symm⟩
  ·cases h
 ·cases h
theorem run_sliceBound {P:Program} {k:IntKind} {n:Int} {y:Nat} {code:BoundsCode} (h0:0≤n) (h:n.toNat≤y) (w:World):(Instr.sliceBound (.int k n) y code).run P w=.ok n.toNat w:=by
 have:n≤(y:Int):=by omega
 simp [Instr.sliceBound,asIntOf,h0,this]
theorem mI {P:Program} {lo hi mx:Option Value} {l h m:Option Nat} {len cap:Nat} (hl:(l=none∧lo=none)∨∃k n,lo=some (.int k n)∧0≤n∧l=some n.toNat)
  (hh:(h=none∧hi=none)∨∃k n,hi=some (.int k n)∧0≤n∧h=some n.toNat) (hm:(m=none∧mx=none)∨∃k n,mx=some (.int k n)∧0≤n∧m=some n.toNat)
  (h1:l.getD 0≤h.getD len) (h2:h.getD len≤m.getD cap) (h3:m.getD cap≤cap) (h4:m.isSome→h.isSome) (w:World):
  (Instr.sliceBounds true len cap lo hi mx).run P w=.ok (l.getD 0,h.getD len,m.getD cap) w:=by
 rcases hm with ⟨rfl,rfl⟩ | ⟨km,nm,rfl,hm0,rfl⟩
 ·rcases hh with ⟨rfl,rfl⟩ | ⟨kh,nh,rfl,hh0,rfl⟩
  ·rcases hl with ⟨rfl,rfl⟩ | ⟨kl,nl,rfl,hl0,rfl⟩
   ·simp [Instr.sliceBounds]
   ·simp only [Option.getD_some,Option.getD_none] at h1 h2 h3
    simp [Instr.sliceBounds,run_sliceBound hl0 h1]
  ·rcases hl with ⟨rfl,rfl⟩ | ⟨kl,nl,rfl,hl0,rfl⟩
   ·simp only [Option.getD_some,Option.getD_none] at h1 h2 h3
    simp [Instr.sliceBounds,run_sliceBound hh0 h2]
   ·simp only [Option.getD_some,Option.getD_none] at h1 h2 h3
    simp [Instr.sliceBounds,run_sliceBound hh0 h2,run_sliceBound hl0 h1]
 ·rcases hh with ⟨rfl,rfl⟩ | ⟨kh,nh,rfl,hh0,rfl⟩
  ·simp at h4
  ·rcases hl with ⟨rfl,rfl⟩ | ⟨kl,nl,rfl,hl0,rfl⟩
   ·simp only [Option.getD_some,Option.getD_none] at h1 h2 h3
    simp [Instr.sliceBounds,run_sliceBound hm0 h3,run_sliceBound hh0 h2]
   ·simp only [Option.getD_some,Option.getD_none] at h1 h2 h3
    simp [Instr.sliceBounds,run_sliceBound hm0 h3,run_sliceBound hh0 h2,run_sliceBound hl0 h1]
theorem QB {P:Program} {t:TypeId} {a x:AV} {lo hi mx:Option AV} {ro:Ro} {μ:Mu} {v:Value} {lv hv mv:Option Value} (hva:VR ro μ a v)
  (hlo:∀y,lo=some y→∃u,lv=some u∧VR ro μ y u) (ait:lo=none→lv=none) (hhi:∀y,hi=some y→∃u,hv=some u∧VR ro μ y u) (aiv:hi=none→hv=none)
  (hmx:∀y,mx=some y→∃u,mv=some u∧VR ro μ y u) (amD:mx=none→mv=none) (h:aslice P t a lo hi mx=some x) (w:World):
  ∃r,(Instr.sliceAt t v lv hv mv).run P w=.ok r w∧VR ro μ x r:=by
 unfold aslice at h
 split at h
 ·rename_i e hu
  split at h
  ·rename_i s l' h' m' hs hl hh hm
   have bl:=Cm (P:=P) hlo ait hl
   have bh:=Cm (P:=P) hhi aiv hh
   have bm:=Cm (P:=P) hmx amD hm
   split at h
   ·rename_i id sz off len cap
    split at h
    ·rename_i hc
     obtain ⟨hc1,hc2⟩:=hc
     subst hc1
     rcases o7 hva with ⟨L,c,a,rfl,hL,hsz,hlc,hcap,ha⟩ | ⟨rfl,rfl,rfl⟩
     rotate_left
     ·unfold reslice at h
      split at h
      ·simp only at h
       split at h
       ·rename_i hk
        simp only [Option.some.injEq] at h
        subst h
        have hb:=mI (P:=P) (len:=0) (cap:=0) bl bh bm hc2 (by simpa using hk) (by simp) (by simp) w
        have e1:h'.getD 0 - l'.getD 0=0:=by omega
        have e2:l'.getD 0=0:=by omega
        rw [e1]
        refine ⟨.slice none 0 0,?_,.mH _ _ _⟩
        simp only [Instr.sliceAt,Sem.run_bind,run_underlying hu,Result.andThen_ok,Instr.slice,hb,iH hs,e1,e2]
        simp
        omega
       ·cases h
      ·simp at h
     -- with the machine's capacity
     have fin:∀(cap':Option Nat),h'.getD len≤m'.getD c→m'.getD c≤c→(m'.isSome→h'.isSome)→(∀k,cap'=some k→m'.getD c - l'.getD 0=k)→
       ∃r,(Instr.sliceAt t (.slice (some a) len c) lv hv mv).run P w=.ok r w∧VR ro μ (.slc id sz (off+l'.getD 0) (h'.getD len - l'.getD 0) cap') r:=by
      intro cap' h2 h3 h4 h5
      have hb:=mI (P:=P) bl bh bm hc2 h2 h3 h4 w
      refine ⟨.slice (some (if m'.getD c=l'.getD 0 then a else a.add (l'.getD 0*sz))) (h'.getD len - l'.getD 0) (m'.getD c - l'.getD 0),?_,?_⟩
      ·simp only [Instr.sliceAt,Sem.run_bind,run_underlying hu,Result.andThen_ok,Instr.slice,hb,iH hs]
       simp only [Sem.run_pure]
       split <;> rfl
      ·refine .slc id sz _ _ cap' L _ _ hL hsz (by omega) h5 (fun hne=>?_)
       obtain ⟨rfl,hlim⟩:=ha (by omega)
       rw [if_neg (by omega),jV]
       refine ⟨by rw [Nat.add_mul,Nat.add_assoc],?_⟩
       have:(off+l'.getD 0)*sz+(m'.getD c - l'.getD 0)*sz=(off+m'.getD c)*sz:=by rw [← Nat.add_mul];congr 1;omega
       rw [this]
       have:(off+m'.getD c)*sz≤(off+c)*sz:=Nat.mul_le_mul_right _ (by omega)
       rw [Nat.add_mul off c] at this
       omega
     unfold reslice at h
     split at h
     ·split at h
      ·rename_i k
       split at h
       ·rename_i hk
        simp only [Option.some.injEq] at h
        subst h
        have:=hcap k rfl
        subst this
        exact fin _ (by simpa using hk) (by simp) (by simp) (by simp)
       ·cases h
      ·split at h
       ·rename_i hk
        simp only [Option.some.injEq] at h
        subst h
        exact fin none (by simp;omega) (by simp) (by simp) (by simp)
       ·cases h
     ·rename_i m''
      split at h
      ·rename_i hk
       obtain ⟨k1,k2,k3⟩:=hk
       simp only [Option.some.injEq] at h
       subst h
       refine fin _ (by simpa using k2) ?_ (fun _=>k1) (by simp)
       simp only [Option.getD_some]
       cases cap with
       | none=>simp at k3;omega
       | some k=>have:=hcap k rfl;simp at k3;omega
      ·cases h
    ·cases h
   ·rename_i sz xs
    split at h
    ·rename_i hc
     obtain ⟨rfl,hc1,hc2,rfl⟩:=hc
     simp only [Option.some.injEq] at h
     subst h
     rcases zW hva with ⟨a,cap,g,rfl,hlc,hsp,hz,k1,k2⟩ | ⟨rfl,rfl⟩
     rotate_left
     ·simp only [List.length_nil] at hc1 hc2
      have hb:=mI (P:=P) (len:=0) (cap:=0) bl bh bm hc1 (by simpa using hc2) (by simp) (by simp) w
      have e1:h'.getD 0 - l'.getD 0=0:=by omega
      have e2:l'.getD 0=0:=by omega
      refine ⟨.slice none 0 0,?_,?_⟩
      ·simp only [Option.getD_none] at hb
       simp only [Instr.sliceAt,Sem.run_bind,run_underlying hu,Result.andThen_ok,Instr.slice,hb,iH hs,e1,e2]
       simp
       omega
      ·simp only [List.drop_nil,List.take_nil]
       exact .d _ _ (.nl sz)
     have hb:=mI (P:=P) (len:=xs.length) (cap:=cap) bl bh bm hc1 (by simp;omega) (by simp) (by simp) w
     simp only [Option.getD_none] at hb
     refine ⟨.slice (some (if cap=l'.getD 0 then a else a.add (l'.getD 0*sz))) (h'.getD xs.length - l'.getD 0) (cap - l'.getD 0),?_,?_⟩
     ·simp only [Instr.sliceAt,Sem.run_bind,run_underlying hu,Result.andThen_ok,Instr.slice,hb,iH hs]
      simp only [Sem.run_pure]
      split <;> simp_all
     ·have hlen:((xs.drop (l'.getD 0)).take (h'.getD xs.length - l'.getD 0)).length=h'.getD xs.length - l'.getD 0:=by simp;omega
      have hget:∀i x,((xs.drop (l'.getD 0)).take (h'.getD xs.length - l'.getD 0))[i]?=some x→xs[l'.getD 0+i]?=some x∧i < h'.getD xs.length - l'.getD 0:=by
       intro i x hx
       rw [List.getElem?_take,List.getElem?_drop] at hx
       split at hx
       ·exact ⟨hx,by assumption⟩
       ·cases hx
      have hadd:∀i x,xs[l'.getD 0+i]?=some x→i < h'.getD xs.length - l'.getD 0→(if cap=l'.getD 0 then a else a.add (l'.getD 0*sz))=cellAt a.block (a.off+l'.getD 0*sz):=by
       intro i x hx hi
       have ea:a=cellAt a.block a.off:=CU (hsp (by rintro rfl;simp at hx))
       rw [if_neg (by omega)]
       conv=>lhs;rw [ea]
       rw [jV]
      have hd:=VR.d (ro:=ro) (μ:=μ) (.y8 sz ((xs.drop (l'.getD 0)).take (h'.getD xs.length - l'.getD 0))) (.slice (some (if cap=l'.getD 0 then a else a.add (l'.getD 0*sz))) ((xs.drop (l'.getD 0)).take (h'.getD xs.length - l'.getD 0)).length (cap - l'.getD 0))
       (.y8 sz _ _ _ (fun k=>g (l'.getD 0*sz+k)) (by omega) (fun hne=>?_) (fun i x hx=>hz _ x (hget i x hx).1) (fun i x j c hx hj=>?_) (fun i x j c hx hj=>?_))
      ·rw [hlen] at hd;exact hd
      ·obtain ⟨i,hi⟩:=List.exists_mem_of_ne_nil _ hne
       obtain ⟨j,hj⟩:=List.getElem?_of_mem hi
       obtain ⟨q1,q2⟩:=hget j i hj
       rw [hadd j i q1 q2];rfl
      ·obtain ⟨q1,q2⟩:=hget i x hx
       rw [hadd i x q1 q2]
       have:=k1 _ x j c q1 hj
       rw [Nat.add_mul] at this
       simp only [cellAt] at this ⊢
       rw [show a.off+l'.getD 0*sz+(i*sz+j)=a.off+(l'.getD 0*sz+i*sz+j) by omega,this]
       congr 2
       omega
      ·obtain ⟨q1,q2⟩:=hget i x hx
       have:=k2 _ x j c q1 hj
       rwa [Nat.add_mul,Nat.add_assoc] at this
    ·cases h
   ·split at h
    ·rename_i hc
     obtain ⟨c1,c2,c3,c4⟩:=hc
     simp only [Option.some.injEq] at h
     subst h
     obtain rfl:=gP hva rfl
     have hb:=mI (P:=P) (len:=0) (cap:=0) bl bh bm (by omega) (by omega) (by omega) c4 w
     rw [c1,c2,c3] at hb
     refine ⟨.slice none 0 0,?_,.d _ _ .dB⟩
     simp only [Instr.sliceAt,Sem.run_bind,run_underlying hu,Result.andThen_ok,Instr.slice,hb,iH hs]
     simp
    ·cases h
   ·cases h
  ·cases h
 ·rename_i hu
  have hat:∀lv hv mv,(Instr.sliceAt t v lv hv mv).run P w=(Instr.slice t v lv hv mv).run P w:=by
   intro lv hv mv
   simp only [Instr.sliceAt,Sem.run_bind,run_underlying hu,Result.andThen_ok]
  rw [hat]
  have fin:∀(s:Sem Value) (y:AV),(match pr P s with
    | some u=>(match nJ u with | some y=>some (AV.d y) | none=>none)
    | none=>none)=some y→∃r,s.run P w=.ok r w∧VR ro μ y r:=by
   intro s y hy
   split at hy
   ·rename_i u hu
    split at hy
    ·rename_i z hz
     simp only [Option.some.injEq] at hy
     subst hy
     exact ⟨u,K9 hu w,TH hz⟩
    ·cases hy
   ·cases hy
  split at h
  ·rename_i v' hv'
   obtain rfl:=gP hva hv'
   obtain rfl:=amD rfl
   split at h
   ·rw [ait rfl,aiv rfl];exact fin _ _ h
   ·rename_i l
    obtain ⟨u,rfl,hu2⟩:=hlo _ rfl
    split at h
    ·rename_i lv' e
     obtain rfl:=gP hu2 e
     rw [aiv rfl];exact fin _ _ h
    ·cases h
   ·rename_i l
    obtain ⟨u,rfl,hu2⟩:=hhi _ rfl
    split at h
    ·rename_i lv' e
     obtain rfl:=gP hu2 e
     rw [ait rfl];exact fin _ _ h
    ·cases h
   ·obtain ⟨u,rfl,hu2⟩:=hlo _ rfl
    obtain ⟨u',rfl,hu3⟩:=hhi _ rfl
    split at h
    ·rename_i lv' hv' e e'
     obtain rfl:=gP hu2 e
     obtain rfl:=gP hu3 e'
     exact fin _ _ h
    ·cases h
  ·cases h
 ·cases h
end Lv
/- What a slice holds; appending, copying, making. -/
namespace Lv
open Go
variable [bJ]
structure FC (ro:Ro) (sz:Nat) (ys:List D) (C:Array Value):Prop where
 size:C.size=ys.length*sz
 ok:∀(i:Nat) (x:D),ys[i]?=some x→x.F8 sz
 get:∀(i:Nat) (x:D) (j:Nat) (c:D),ys[i]?=some x→x.cells[j]?=some c→∃v,C[i*sz+j]?=some v∧DR ro c v
theorem DN {k sz n:Nat} (h:k < n*sz):k / sz < n∧k % sz < sz∧k=k / sz*sz+k % sz:=by
 have hs:0 < sz:=by
  rcases Nat.eq_zero_or_pos sz with e | e
  ·subst e;simp at h
  ·exact e
 refine ⟨(Nat.div_lt_iff_lt_mul hs).2 h,Nat.mod_lt _ hs,?_⟩
 have:=Nat.div_add_mod k sz
 rw [Nat.mul_comm] at this
 exact this.symm
theorem FC.one {ro:Ro} {sz:Nat} {ys:List D} {C:Array Value} (h:FC ro sz ys C):∀v∈C.toList,v.oneCell'=true:=by
 intro v hv
 obtain ⟨k,hk⟩:=List.getElem?_of_mem hv
 have hlt:=cK hk
 simp only [Array.length_toList,h.size] at hlt
 obtain ⟨h1,h2,h3⟩:=DN hlt
 have hy:ys[k / sz]?=some ys[k / sz]:=List.getElem?_eq_getElem h1
 have ho:=h.ok _ _ hy
 have hj:k % sz < ys[k / sz].cells.length:=by rw [ho.1];exact h2
 obtain ⟨u,k1,k2⟩:=h.get _ _ _ _ hy (List.getElem?_eq_getElem hj)
 rw [← h3] at k1
 have:C.toList[k]?=some u:=by simpa using k1
 rw [hk] at this
 cases this
 exact IB k2 (ho.2 _ (List.getElem_mem hj))
theorem FC.mono {ro ro':Ro} {sz:Nat} {ys:List D} {C:Array Value} (h:FC ro sz ys C) (hr:∀a v,ro a=some v→ro' a=some v):FC ro' sz ys C:=
 ⟨h.size,h.ok,fun i x j c hx hj=>let ⟨v,h1,h2⟩:=h.get i x j c hx hj;⟨v,h1,h2.mono hr⟩⟩
theorem FC.append {ro:Ro} {sz:Nat} {xs ys:List D} {C V:Array Value} (h:FC ro sz xs C) (k:FC ro sz ys V):FC ro sz (xs++ys) (C++V):=by
 refine ⟨by simp [h.size,k.size,Nat.add_mul],fun i x hx=>?_,fun i x j c hx hj=>?_⟩
 ·rw [List.getElem?_append] at hx
  split at hx
  ·exact h.ok i x hx
  ·exact k.ok _ x hx
 ·rw [List.getElem?_append] at hx
  split at hx
  ·rename_i hi
   obtain ⟨v,h1,h2⟩:=h.get i x j c hx hj
   refine ⟨v,?_,h2⟩
   rw [Array.getElem?_append]
   have hlt:i*sz+j < C.size:=by
    rcases Nat.lt_or_ge (i*sz+j) C.size with q | q
    ·exact q
    ·simp [Array.getElem?_eq_none q] at h1
   rw [if_pos hlt,h1]
  ·rename_i hi
   obtain ⟨v,h1,h2⟩:=k.get _ x j c hx hj
   refine ⟨v,?_,h2⟩
   rw [Array.getElem?_append,h.size]
   have e:i*sz+j - xs.length*sz=(i - xs.length)*sz+j:=by
    have:i*sz=(i - xs.length)*sz+xs.length*sz:=by rw [← Nat.add_mul];congr 1;omega
    omega
   have:¬(i*sz+j < xs.length*sz):=by
    have:xs.length*sz≤i*sz:=Nat.mul_le_mul_right _ (by omega)
    omega
   rw [if_neg this,e,h1]
theorem zq {P:Program} {w:World} {ro:Ro} {sz:Nat} {ys:List D} {a:Addr} (hok:∀(i:Nat) (x:D),ys[i]?=some x→x.F8 sz)
  (hc:∀(i:Nat) (x:D) (j:Nat) (c:D),ys[i]?=some x→x.cells[j]?=some c→∃v,w.cell? (a.add (i*sz+j))=some v∧DR ro c v):
  ∃C,(loadCells a (ys.length*sz)).run P w=.ok C w∧FC ro sz ys C:=by
 have key:∀k,k < ys.length*sz→w.cell? (a.add k)=some ((w.cell? (a.add k)).getD undef):=by
  intro k hk
  obtain ⟨h1,h2,h3⟩:=DN hk
  have hy:ys[k / sz]?=some ys[k / sz]:=List.getElem?_eq_getElem h1
  have hj:k % sz < ys[k / sz].cells.length:=by rw [(hok _ _ hy).1];exact h2
  obtain ⟨u,k1,k2⟩:=hc _ _ _ _ hy (List.getElem?_eq_getElem hj)
  rw [← h3] at k1
  rw [k1];rfl
 refine ⟨_,run_loadCells (P:=P) w a (ys.length*sz) (fun k=>(w.cell? (a.add k)).getD undef) key,?_⟩
 refine ⟨by simp,hok,fun i x j c hx hj=>?_⟩
 obtain ⟨v,k1,k2⟩:=hc i x j c hx hj
 refine ⟨v,?_,k2⟩
 have hxl:=cK hx
 have hjl:=cK hj
 have:=(hok i x hx).1
 have hlt:i*sz+j < ys.length*sz:=by
  have:(i+1)*sz≤ys.length*sz:=Nat.mul_le_mul_right _ hxl
  rw [Nat.add_mul] at this
  omega
 rw [List.getElem?_toArray,List.getElem?_map,List.getElem?_range hlt]
 simp [k1]
theorem nH (s:ByteArray):s.extract 0 s.size=s:=by
 apply ByteArray.ext
 rw [ByteArray.data_extract]
 exact Array.extract_eq_self_of_le (Nat.le_refl _)
theorem qF {P:Program} {σ:List Ob} {sz:Nat} {x:AV} {ys:List D} {ro:Ro} {μ:Mu} {w:World} {v:Value} (g:Good ro μ w (hp σ)) (hv:VR ro μ x v) (h:elems σ sz x=some ys):
  (Builtin.lenOf v).run P w=.ok ys.length w∧∃C,(Builtin.firstCells sz ys.length v).run P w=.ok C w∧FC ro sz ys C:=by
 unfold elems at h
 split at h
 ·rename_i id sz' off len cap
  split at h
  ·rename_i Rj xs wr e
   split at h
   ·rename_i hc
    obtain ⟨rfl,rfl,hc3⟩:=hc
    simp only [Option.some.injEq] at h
    subst h
    rcases o7 hv with ⟨L,c,a,rfl,hL,hsz,hlc,hcap,ha⟩ | ⟨rfl,rfl,rfl⟩
    rotate_left
    ·rw [List.take_zero]
     exact ⟨rfl,#[],rfl,⟨by simp,fun i x hx=>by simp at hx,fun i x j c hx=>by simp at hx⟩⟩
    have hlen:((xs.drop off).take len).length=len:=by simp;omega
    have w9:=g.ob id
    rw [dR e] at w9
    obtain ⟨C,T,fz,h0,hh,hf,hCs,hlim,hw,hz,hcell⟩:=w9 L hL
    have hget:∀i x,((xs.drop off).take len)[i]?=some x→xs[off+i]?=some x∧i < len:=by
     intro i x hx
     rw [List.getElem?_take,List.getElem?_drop] at hx
     split at hx
     ·exact ⟨hx,by assumption⟩
     ·cases hx
    rw [hlen]
    refine ⟨rfl,?_⟩
    have:=zq (P:=P) (w:=w) (ro:=ro) (sz:=Rj) (a:=a) (ys:=(xs.drop off).take len) (fun i x hx=>hz _ x (hget i x hx).1) (fun i x j c' hx hj=>?_)
    ·rw [hlen] at this
     exact this
    ·obtain ⟨q1,q2⟩:=hget i x hx
     obtain ⟨rfl,_⟩:=ha (by omega)
     obtain ⟨v,k1,k2⟩:=hcell _ x j c' q1 hj
     refine ⟨v,?_,k2⟩
     rw [jV,rR hh,← k1]
     congr 1
     rw [Nat.add_mul];omega
   ·cases h
  ·cases h
 ·rename_i sz' xs
  split at h
  ·rename_i hc
   subst hc
   simp only [Option.some.injEq] at h
   subst h
   rcases zW hv with ⟨a,cap,gg,rfl,hl,hsp,hz,k1,k2⟩ | ⟨rfl,rfl⟩
   rotate_left
   ·exact ⟨rfl,#[],rfl,⟨by simp,fun i x hx=>by simp at hx,fun i x j c hx=>by simp at hx⟩⟩
   refine ⟨rfl,zq hz (fun i x j c hx hj=>?_)⟩
   have ea:a=cellAt a.block a.off:=CU (hsp (by rintro rfl;simp at hx))
   refine ⟨_,?_,k2 i x j c hx hj⟩
   rw [ea,jV]
   exact g.qJ _ _ (k1 i x j c hx hj)
  ·cases h
 ·simp only [Option.some.injEq] at h
  subst h
  obtain rfl:=gP hv rfl
  exact ⟨rfl,#[],rfl,⟨by simp,fun i x hx=>by simp at hx,fun i x j c hx=>by simp at hx⟩⟩
 ·rename_i s
  split at h
  ·rename_i hc
   subst hc
   simp only [Option.some.injEq] at h
   subst h
   obtain rfl:=gP hv rfl
   have hlen:(bytesD s).length=s.size:=by simp [bytesD]
   rw [hlen]
   refine ⟨rfl,_,rfl,?_⟩
   rw [nH]
   refine ⟨by simp [hlen],fun i x hx=>?_,fun i x j c hx hj=>?_⟩
   ·simp only [bytesD,List.getElem?_map,Option.map_eq_some_iff] at hx
    obtain ⟨b,hb,rfl⟩:=hx
    exact ⟨rfl,fun c hc=>by simp only [D.cells,List.mem_singleton] at hc;subst hc;rfl⟩
   ·simp only [bytesD,List.getElem?_map,Option.map_eq_some_iff] at hx
    obtain ⟨b,hb,rfl⟩:=hx
    cases j with
    | zero=>
     simp only [D.cells,List.getElem?_cons_zero,Option.some.injEq] at hj
     subst hj
     refine ⟨.int .u8 b.toNat,?_,.int _ _⟩
     simp only [Nat.mul_one,Nat.add_zero,Array.getElem?_map]
     have:s.data[i]?=some b:=by simpa using hb
     rw [this];rfl
    | succ j=>simp [D.cells] at hj
  ·cases h
 ·cases h
theorem nextslicecap_le {n c:Nat} (h:c < n):Builtin.nextslicecap n c≤2*n:=by
 have hg:∀(r c:Nat),256≤c→c≤2*n→Builtin.growBy n r c≤2*n:=by
  intro r
  induction r with
  | zero=>intro c _ h2;simp [Builtin.growBy];omega
  | succ r ih=>
   intro c h1 h2
   unfold Builtin.growBy
   split
   ·omega
   ·exact ih _ (by omega) (by omega)
 unfold Builtin.nextslicecap
 split
 ·omega
 ·split
  ·omega
  ·exact hg _ _ (by omega) (by omega)
theorem Dr {P:Program} {w:World} {b o:Nat} {C:Array Value} {T:TypeId} {fz:Nat×Nat} {vs:List Value} (hC:w.heap[b]?=some (.cells C T fz)) (hf:vW fz C.size) (hl:o+vs.length≤C.size)
  (h1:∀x∈vs,x.oneCell'=true):(storeCells (cellAt b o) vs).run P w=.ok () (w.setCells b o vs):=by
 have:=run_storeCells_cells (P:=P) b o vs 0 w (fun j hj=>?_) (fun j hj=>?_) h1
 ·simp only [Nat.add_zero] at this
  exact this
 ·simp only [World.cell?,hC,Option.isSome_none,Bool.false_eq_true,if_false,Nat.add_zero]
  simp;omega
 ·simp only [World.frozen?,hC,Nat.add_zero]
  have:=hf.2 (o+j) (by omega)
  simpa using this
theorem Xl {ro:Ro} {sz base off:Nat} {xs ys:List D} {C V:Array Value} (hz:∀(i:Nat) (x:D),xs[i]?=some x→x.F8 sz)
  (hc:∀(i:Nat) (x:D) (j:Nat) (c:D),xs[i]?=some x→x.cells[j]?=some c→∃v,C[base+(i*sz+j)]?=some v∧DR ro c v) (hlim:base+xs.length*sz≤C.size)
  (k:FC ro sz ys V) (hl:off+ys.length≤xs.length):
  (∀(i:Nat) (x:D),(over xs off ys)[i]?=some x→x.F8 sz)∧
  (∀(i:Nat) (x:D) (j:Nat) (c:D),(over xs off ys)[i]?=some x→x.cells[j]?=some c→∃v,(over C.toList (base+off*sz) V.toList).toArray[base+(i*sz+j)]?=some v∧DR ro c v):=by
 have hfit:off*sz+ys.length*sz≤xs.length*sz:=by rw [← Nat.add_mul];exact Nat.mul_le_mul_right _ hl
 have hov:base+off*sz+V.toList.length≤C.toList.length:=by simp [k.size];omega
 constructor
 ·intro i x hx
  rw [jT hl] at hx
  split at hx
  ·exact k.ok _ x hx
  ·exact hz _ x hx
 ·intro i x j c hx hj
  rw [List.getElem?_toArray,jT hov]
  simp only [Array.length_toList,k.size]
  rw [jT hl] at hx
  split at hx
  ·rename_i hi
   obtain ⟨v,k1,k2⟩:=k.get _ x j c hx hj
   have hjl:=cK hj
   have hxs:=(k.ok _ x hx).1
   have e:i*sz=off*sz+(i - off)*sz:=by rw [← Nat.add_mul];congr 1;omega
   have e2:(i - off+1)*sz≤ys.length*sz:=Nat.mul_le_mul_right _ (by omega)
   rw [Nat.add_mul] at e2
   rw [if_pos (by omega)]
   refine ⟨v,?_,k2⟩
   rw [show base+(i*sz+j) - (base+off*sz)=(i - off)*sz+j by omega]
   simpa using k1
  ·rename_i hi
   obtain ⟨v,k1,k2⟩:=hc i x j c hx hj
   have hjl:=cK hj
   have hxs:=(hz i x hx).1
   rw [if_neg ?_]
   ·exact ⟨v,by simpa using k1,k2⟩
   ·intro ⟨q1,q2⟩
    rcases Nat.lt_or_ge i off with q | q
    ·have:(i+1)*sz≤off*sz:=Nat.mul_le_mul_right _ q
     rw [Nat.add_mul] at this
     omega
    ·have:(off+ys.length)*sz≤i*sz:=Nat.mul_le_mul_right _ (by omega)
     rw [Nat.add_mul] at this
     omega
end Lv
/- append, copy. -/
namespace Lv
open Go
variable [bJ]
theorem OR.congr {ro:Ro} {μ:Mu} {w w':World} {id:Nat} {o:Ob} (h:OR ro μ w id o) (hw:w'.heap=w.heap):OR ro μ w' id o:=by
 cases o with
 | dead=>trivial
 | box x=>intro L hL;rw [hw];exact h L hL
 | row sz xs wr=>intro L hL;rw [hw];exact h L hL
 | map es=>intro L hL;rw [hw];exact h L hL
theorem Good.congr {ro:Ro} {μ:Mu} {w w':World} {H:Hp} (g:Good ro μ w H) (hw:w'.heap=w.heap):Good ro μ w' H:=
 ⟨fun a v h=>by rw [mY (w:=w) (by rw [hw])];exact g.qJ a v h,fun id=>(g.ob id).congr hw,g.apart,g.gu,g.base⟩
theorem Ext.congr {ro ro':Ro} {μ μ':Mu} {w w1 w':World} {H H':Hp} (x:Ext ro μ w1 H ro' μ' w' H') (hw:w1.heap=w.heap) (h1:w1.os=w.os) (h2:w1.tape=w.tape) (h3:w1.output=w.output):Ext ro μ w H ro' μ' w' H':=
 ⟨x.Ll,x.jC,by rw [← hw];exact x.kr,by rw [← hw];exact x.jE,by rw [← hw];exact x.lJ,by rw [← hw];exact x.frame,by rw [← hw];exact x.size,x.os.trans h1,x.tape.trans h2,x.output.trans h3⟩
def wS (w:World):World:={ w with drawn:=w.drawn+1 }
section
variable {P:Program} {w w':World} {at_:Array TypeId} {ty t t2 e:TypeId} {i:TypeInfo} {td:TypeDesc} {v2:Value} {n:Nat} {C:Array Value}
theorem xR {a:Addr} {sLen sCap:Nat} (h0:at_[0]?=some t) (h1:at_[1]?=some t2) (hu:P.underlying t=some (.slice e)) (hi:P.info? e=some i)
  (ht:∀w,(underlying t2).run P w=.ok td w) (htd:∀k,td≠.int k) (hn:(Builtin.lenOf v2).run P w=.ok n w) (hc:sLen+n≤sCap)
  (hC:(Builtin.firstCells i.size n v2).run P w=.ok C w) (hs:(storeCells (a.add (sLen*i.size)) C.toList).run P w=.ok () w'):
  (Builtin.append_ at_ ty #[.slice (some a) sLen sCap,v2]).run P w=.ok (.slice (some a) (sLen+n) sCap) w':=by
 have hsz:(Go.sizeOf e).run P w=.ok i.size w:=by simp [Go.sizeOf,typeInfo,hi]
 unfold Builtin.append_
 simp only [h0,h1,List.getElem?_toArray,List.getElem?_cons_zero,List.getElem?_cons_succ]
 simp only [Sem.run_bind,run_underlying hu,Result.andThen_ok,hsz,ht]
 cases td <;> first | exact absurd rfl (htd _) | simp only [Bool.false_eq_true,if_false,hn,Result.andThen_ok,hc,if_true,Bool.not_false,hC,hs,Sem.run_bind,Sem.run_pure]
theorem qP {sLen sCap:Nat} (h0:at_[0]?=some t) (h1:at_[1]?=some t2) (hu:P.underlying t=some (.slice e)) (hi:P.info? e=some i)
  (ht:∀w,(underlying t2).run P w=.ok td w) (htd:∀k,td≠.int k) (hn:(Builtin.lenOf v2).run P w=.ok n w) (hc:sLen+n≤sCap)
  (hC:(Builtin.firstCells i.size n v2).run P w=.ok C w):
  (Builtin.append_ at_ ty #[.slice none sLen sCap,v2]).run P w=.ok (.slice none (sLen+n) sCap) w:=by
 have hsz:(Go.sizeOf e).run P w=.ok i.size w:=by simp [Go.sizeOf,typeInfo,hi]
 unfold Builtin.append_
 simp only [h0,h1,List.getElem?_toArray,List.getElem?_cons_zero,List.getElem?_cons_succ]
 simp only [Sem.run_bind,run_underlying hu,Result.andThen_ok,hsz,ht]
 cases td <;> first | exact absurd rfl (htd _) | simp only [Bool.false_eq_true,if_false,hn,Result.andThen_ok,hc,if_true,Bool.not_false,hC,Sem.run_bind,Sem.run_pure]
theorem wm {base:Option Addr} {sLen sCap:Nat} {O:Array Value} {z:Value} (h0:at_[0]?=some t) (h1:at_[1]?=some t2) (hu:P.underlying t=some (.slice e)) (hi:P.info? e=some i)
  (ht:∀w,(underlying t2).run P w=.ok td w) (htd:∀k,td≠.int k) (hn:(Builtin.lenOf v2).run P w=.ok n w) (hc:¬sLen+n≤sCap) (hb:i.bytes≠0)
  (hroom:(sLen+n)*i.bytes≤room) (hO:(Builtin.firstCells i.size sLen (.slice base sLen sCap)).run P (wS w)=.ok O (wS w)) (hC:(Builtin.firstCells i.size n v2).run P (wS w)=.ok C (wS w))
  (hz:∀w,(zeroValue e).run P w=.ok z w):
  ∃q:Nat,sLen+n≤q∧(Builtin.append_ at_ ty #[.slice base sLen sCap,v2]).run P w =
   .ok (.slice (some ⟨w.heap.size,0,none⟩) (sLen+n) q) { wS w with heap:=w.heap.push (.cells (O++C++Builtin.zeroCells z.cells (q - (sLen+n))) e) }:=by
 have hsz:∀w,(Go.sizeOf e).run P w=.ok i.size w:=fun w=>by simp [Go.sizeOf,typeInfo,hi]
 have hti:∀w,(typeInfo e).run P w=.ok i w:=fun w=>by simp [typeInfo,hi]
 have hnext:¬(Builtin.nextslicecap (sLen+n) sCap*i.bytes > 2 ^ 48):=by
  have h1:=nextslicecap_le (n:=sLen+n) (c:=sCap) (by omega)
  have h2:Builtin.nextslicecap (sLen+n) sCap*i.bytes≤2*(sLen+n)*i.bytes:=Nat.mul_le_mul_right _ h1
  have h3:2*(sLen+n)*i.bytes=2*((sLen+n)*i.bytes):=by rw [Nat.mul_assoc]
  unfold room at hroom
  omega
 have amC:¬(((sLen+n:Nat):Int) > IntKind.i64.max∧(False∨i.bytes=0)):=by
  rintro ⟨_,k | k⟩
  ·exact k
  ·exact hb k
 refine ⟨(Question.appendCap (sLen+n) sCap e).cut (w.tape w.drawn (.appendCap (sLen+n) sCap e)),by simp only [Question.cut];omega,?_⟩
 have hch:(choose (.appendCap (sLen+n) sCap e)).run P w=.ok ((Question.appendCap (sLen+n) sCap e).cut (w.tape w.drawn (.appendCap (sLen+n) sCap e))) (wS w):=rfl
 have hnr:∀cs:Array Value,(newRow e cs).run P (wS w)=.ok ⟨w.heap.size,0,none⟩ { wS w with heap:=w.heap.push (.cells cs e) }:=fun cs=>rfl
 unfold Builtin.append_
 simp only [h0,h1,List.getElem?_toArray,List.getElem?_cons_zero,List.getElem?_cons_succ]
 simp only [Sem.run_bind,run_underlying hu,Result.andThen_ok,hsz,ht]
 cases td <;> first | exact absurd rfl (htd _) | simp only [Bool.false_eq_true,if_false,hn,Result.andThen_ok,hc,Bool.not_false,if_true,Sem.run_bind,hti,amC,Sem.run_ite,hnext,hch,run_askRoom,hO,hC,hz,hnr,Sem.run_pure]
end
theorem qL (z:Array Value) (n:Nat):(Builtin.zeroCells z n).size=n*z.size:=by simp [Builtin.zeroCells]
theorem Step.newRow {P:Program} {s:Sem Value} {ro:Ro} {μ:Mu} {w w':World} {σ:List Ob} {sz n len q:Nat} {ys:List D} {cap:Option Nat} {C R:Array Value} {e:TypeId} {fz:Nat×Nat} (g:Good ro μ w (hp σ)) (hn:μ σ.length=none)
  (hf:FC ro sz ys C) (hR:R.size=n*sz) (hw:w'.heap=w.heap.push (.cells (C++R) e fz)) (hfz:vW fz (C++R).size) (h1:w'.os=w.os) (h2:w'.tape=w.tape) (h3:w'.output=w.output)
  (hr:s.run P w=.ok (.slice (some ⟨w.heap.size,0,none⟩) len q) w') (hl:len≤q) (hq:q=ys.length+n) (hcap:∀k,cap=some k→q=k):
  Step P s ro μ w σ (.slc σ.length sz 0 len cap) (σ++[.row sz ys true]):=by
 have hsz:(C++R).size=q*sz:=by simp [hf.size,hR,hq,Nat.add_mul]
 refine Step.push ⟨w.heap.size,0,sz,q*sz⟩ g hn hr rfl hw h1 h2 h3 ?_ ?_
 ·intro L hL
  simp only [iC,if_true,Option.some.injEq] at hL
  subst hL
  refine ⟨C++R,e,fz,rfl,by rw [hw];simp,hfz,by simpa using hsz,by simp only;rw [hq,Nat.add_mul];omega,(fun e=>Bool.noConfusion e),hf.ok,fun i x j c hx hj=>?_⟩
  obtain ⟨v,k1,k2⟩:=hf.get i x j c hx hj
  refine ⟨v,?_,k2⟩
  simp only [Nat.zero_add]
  have hlt:i*sz+j < C.size:=by
   rcases Nat.lt_or_ge (i*sz+j) C.size with q | q
   ·exact q
   ·simp [Array.getElem?_eq_none q] at k1
  rw [Array.getElem?_append,if_pos hlt,k1]
 ·exact .slc _ sz 0 len cap ⟨w.heap.size,0,sz,q*sz⟩ q _ (by simp [iC]) rfl hl hcap (fun _=>⟨by simp [cellAt],by simp⟩)
theorem FC.nil (ro:Ro) (sz:Nat):FC ro sz [] #[]:=⟨by simp,fun i x hx=>by simp at hx,fun i x j c hx=>by simp at hx⟩
theorem NI {P:Program} {σ σ':List Ob} {t t2 ty:TypeId} {at_:Array TypeId} {s x r:AV} {ro:Ro} {μ:Mu} {w:World} {v u:Value} (g:Good ro μ w (hp σ)) (hn:σ.length < σ'.length→μ σ.length=none)
  (h0:at_[0]?=some t) (h1:at_[1]?=some t2) (ht2:jl P t2=false)
  (hs:VR ro μ s v) (hx:VR ro μ x u) (h:jm P σ t s x=some (r,σ')):Step P (Builtin.append_ at_ ty #[v,u]) ro μ w σ r σ':=by
 have ⟨td,hu2,htd⟩:∃td,P.underlying t2=some td∧∀k,td≠.int k:=by
  unfold jl at ht2
  split at ht2
  ·cases ht2
  ·rename_i td hn e;exact ⟨td,e,fun k e'=>hn k e'⟩
  ·cases ht2
 have ht:∀w,(underlying t2).run P w=.ok td w:=fun w=>run_underlying hu2 w
 unfold jm at h
 split at h
 ·rename_i e hu
  split at h
  ·rename_i i hi
   split at h
   ·rename_i ys z hel hz
    split at h
    ·rename_i hc0
     obtain ⟨hzl,hb⟩:=hc0
     obtain ⟨hlen,C,hC,hfc⟩:=qF (P:=P) g hx hel
     have g1:Good ro μ (wS w) (hp σ):=g.congr rfl
     obtain ⟨_,C1,hC1,aem⟩:=qF (P:=P) g1 hx hel
     obtain ⟨zv,hzv,hzd⟩:=vQ hz ro w
     have ahJ:∀w,(zeroValue e).run P w=.ok zv w:=by
      intro w'
      simp only [zeroValue,typeInfo,Sem.run_bind,run_program,Result.andThen_ok,hi,Sem.run_pure] at hzv ⊢
      cases hzz:i.zero with
      | none=>simp [hzz] at hzv
      | some y=>simp [hzz] at hzv ⊢;exact hzv
     have hzs:zv.cells.size=i.size:=by
      have:=(uN (μ:=μ) (.d z zv hzd) (by simp)).size
      rw [this,← hzl]
      cases z <;> simp [AV.cells,D.cells]
     split at h
     ·obtain rfl:=gP hs rfl
      split at h
      ·rename_i hroom
       simp only [Option.some.injEq,Prod.mk.injEq] at h
       obtain ⟨rfl,rfl⟩:=h
       by_cases hy0:ys.length=0
       ·rw [hy0] at hlen hC
        obtain ⟨g1',x1'⟩:=g.phantom (hn (by simp)) (o:=.row i.size ys true) (by simp)
        rw [← rF] at g1' x1'
        rw [hy0]
        exact ⟨.slice none 0 0,ro,μ,w,qP h0 h1 hu hi ht htd hlen (by omega) hC,.mH _ _ _,g1',x1',fun id h=>absurd rfl h,by simp⟩
       ·have hy0':ys.length≠0:=hy0
        have hO:(Builtin.firstCells i.size 0 (.slice none 0 0)).run P (wS w)=.ok #[] (wS w):=rfl
        obtain ⟨q,hq,hrun⟩:=wm (ty:=ty) h0 h1 hu hi ht htd hlen (by omega) hb (by simpa using hroom) hO hC1 ahJ
        simp only [Nat.zero_add] at hq hrun
        exact Step.newRow (w':={ wS w with heap:=w.heap.push (.cells (#[]++C1++Builtin.zeroCells zv.cells (q - ys.length)) e) }) (n:=q - ys.length) (C:=#[]++C1) (R:=Builtin.zeroCells zv.cells (q - ys.length)) (e:=e) g (hn (by simp)) ((FC.nil ro i.size).append aem) (by rw [qL,hzs]) rfl (kK _) rfl rfl rfl hrun hq (by omega) (by simp)
      ·cases h
     ·rename_i sz xs
      split at h
      ·rename_i hy0
       simp only [Option.some.injEq,Prod.mk.injEq] at h
       obtain ⟨rfl,rfl⟩:=h
       have hs':=hs
       rcases zW hs with ⟨a,cap,gg,rfl,hl,hsp,hzz,k1,k2⟩ | ⟨rfl,rfl⟩
       rotate_left
       ·rw [hy0] at hlen hC
        exact Step.still g ⟨.slice none 0 0,qP h0 h1 hu hi ht htd hlen (by omega) hC,hs'⟩
       rw [hy0] at hlen hC
       have hC0:C=#[]:=by
        have:=hfc.size
        rw [hy0,Nat.zero_mul] at this
        exact Array.eq_empty_of_size_eq_zero this
       subst hC0
       refine Step.still g ⟨.slice (some a) xs.length cap,?_,hs'⟩
       exact xR h0 h1 hu hi ht htd hlen (by omega) hC rfl
      ·cases h
     ·rename_i id sz off len cap
      rcases o7 hs with ⟨L,c,a,rfl,hL,hsz,hlc,hcap,ha⟩ | ⟨rfl,rfl,rfl⟩
      rotate_left
      ·split at h
       ·rename_i sz' xs wr hid
        split at h
        ·rename_i hc1
         obtain ⟨rfl,rfl,c3,c4⟩:=hc1
         simp only at h
         split at h
         ·rename_i hwr
          simp only [Option.some.injEq,Prod.mk.injEq] at h
          obtain ⟨rfl,rfl⟩:=h
          obtain ⟨gk,xk⟩:=g.kill id
          rw [← oW (cK hid)] at gk xk
          have hn':μ (σ.set id .dead).length=none:=by simpa using hn (by simp)
          rw [List.take_zero,List.nil_append]
          by_cases hy0:ys.length=0
          ·rw [hy0] at hlen hC
           obtain ⟨g1',x1'⟩:=gk.phantom hn' (o:=.row i.size ys true) (by simp)
           rw [← rF] at g1' x1'
           rw [hy0]
           exact ⟨.slice none 0 0,ro,μ,w,qP h0 h1 hu hi ht htd hlen (by omega) hC,.mH _ _ _,g1',xk.trans x1',fun id h=>absurd rfl h,by simp⟩
          ·have hO:(Builtin.firstCells i.size 0 (.slice none 0 0)).run P (wS w)=.ok #[] (wS w):=rfl
           obtain ⟨q,hq,hrun⟩:=wm (ty:=ty) h0 h1 hu hi ht htd hlen (by omega) hb (by simpa using c4) hO hC1 ahJ
           simp only [Nat.zero_add] at hq hrun
           rw [Nat.zero_add]
           obtain ⟨v',ro',μ',w'',r1,r2,r3,r4,r5,r6⟩:=Step.newRow (P:=P) (w':={ wS w with heap:=w.heap.push (.cells (#[]++C1++Builtin.zeroCells zv.cells (q - ys.length)) e) }) (n:=q - ys.length) (C:=#[]++C1) (R:=Builtin.zeroCells zv.cells (q - ys.length)) (e:=e) (cap:=none) gk hn' ((FC.nil ro i.size).append aem) (by rw [qL,hzs]) rfl (kK _) rfl rfl rfl hrun hq (by simp;omega) (by simp)
           simp only [List.length_set] at r2 r5 r6
           exact ⟨v',ro',μ',w'',r1,r2,r3,xk.trans r4,fun id' h'=>by have:=r5 id' h';simpa using this,by simp⟩
         ·cases h
        ·cases h
       ·cases h
      split at h
      ·rename_i sz' xs wr hid
       split at h
       ·rename_i hc1
        obtain ⟨c1,c2,c3,c4⟩:=hc1
        subst c1
        subst c2
        have w9:=g.ob id
        rw [dR hid] at w9
        obtain ⟨A,T,fz,o0,hh,hf,hCs,hlim,hw,hz',hcell⟩:=w9 L hL
        -- the elements so far
        have hold:elems σ i.size (.slc id i.size off len cap)=some ((xs.drop off).take len):=by simp [elems,hid,c3]
        obtain ⟨_,O1,hO1,ael⟩:=qF (P:=P) g1 hs hold
        have hol:((xs.drop off).take len).length=len:=by simp;omega
        rw [hol] at hO1
        -- in place
        have WI:len+ys.length≤c→∃w',(Builtin.append_ at_ ty #[.slice (some a) len c,u]).run P w=.ok (.slice (some a) (len+ys.length) c) w'∧
          w'.heap[L.blk]?=some (.cells (over A.toList (L.base+(off+len)*i.size) C.toList).toArray T fz)∧(∀k,k≠L.blk→w'.heap[k]?=w.heap[k]?)∧w'.heap.size=w.heap.size∧
          w'.os=w.os∧w'.tape=w.tape∧w'.output=w.output∧(c≠0→L.base+(off+len)*i.size+C.size≤A.size):=by
         intro hin
         rcases Nat.eq_zero_or_pos c with hc0 | hcp
         ·have hy0:ys.length=0:=by omega
          have hC0:C=#[]:=by
           have:=hfc.size
           rw [hy0,Nat.zero_mul] at this
           exact Array.eq_empty_of_size_eq_zero this
          subst hC0
          refine ⟨w,xR h0 h1 hu hi ht htd hlen hin hC rfl,?_,fun _ _=>rfl,rfl,rfl,rfl,rfl,fun h=>absurd hc0 h⟩
          rw [hh];simp [over]
         ·obtain ⟨ea,hlm⟩:=ha (by omega)
          have hfit:L.base+(off+len)*i.size+C.size≤A.size:=by
           rw [hfc.size,hCs]
           have:(off+len)*i.size+ys.length*i.size≤(off+c)*i.size:=by rw [← Nat.add_mul];exact Nat.mul_le_mul_right _ (by omega)
           rw [Nat.add_mul off c] at this
           omega
          have hst:=Dr (P:=P) (o:=L.base+(off+len)*i.size) (vs:=C.toList) hh hf (by simpa using hfit) hfc.one
          obtain ⟨k1,k2,k3,k4,k5,k6⟩:=pE L.blk T fz C.toList (L.base+(off+len)*i.size) w A hh (by simpa using hfit)
          refine ⟨_,xR h0 h1 hu hi ht htd hlen hin hC ?_,k1,k2,k3,k4,k5,k6,fun _=>hfit⟩
          rw [ea,jV,show L.base+off*i.size+len*i.size=L.base+(off+len)*i.size by rw [Nat.add_mul];omega]
          exact hst
        have fresh:¬len+ys.length≤c→∃q w',len+ys.length≤q∧(Builtin.append_ at_ ty #[.slice (some a) len c,u]).run P w=.ok (.slice (some ⟨w.heap.size,0,none⟩) (len+ys.length) q) w'∧
          w'.heap=w.heap.push (.cells (O1++C1++Builtin.zeroCells zv.cells (q - (len+ys.length))) e)∧w'.os=w.os∧w'.tape=w.tape∧w'.output=w.output:=by
         intro hin
         obtain ⟨q,hq,hrun⟩:=wm (ty:=ty) h0 h1 hu hi ht htd hlen hin hb c4 hO1 hC1 ahJ
         exact ⟨q,_,hq,hrun,rfl,rfl,rfl,rfl⟩
        split at h
        ·rename_i k
         obtain rfl:=hcap k rfl
         split at h
         ·rename_i hin
          split at h
          ·rename_i hwr
           obtain ⟨rfl,LM⟩:=hwr
           simp only [Option.some.injEq,Prod.mk.injEq] at h
           obtain ⟨rfl,rfl⟩:=h
           obtain ⟨w',hrun,k1,k2,k3,k4,k5,k6,hfit⟩:=WI hin
           have WL:L.base+(off+len)*i.size+C.size≤A.size:=by
            rcases Nat.eq_zero_or_pos c with q | q
            ·have hy0:ys.length=0:=by omega
             rw [hfc.size,hy0,Nat.zero_mul]
             have:(off+len)*i.size≤xs.length*i.size:=Nat.mul_le_mul_right _ c3
             omega
            ·exact hfit (by omega)
           obtain ⟨r1,r2⟩:=Xl (off:=off+len) hz' hcell (by omega) hfc LM
           have hsz2:(over A.toList (L.base+(off+len)*i.size) C.toList).length=A.size:=by rw [iM (by simpa using WL)];simp
           have:=g.write (n:=id) (o:=.row i.size (over xs (off+len) ys) true) (L:=L) (by rw [dR hid];rfl) hL k2 k3 k4 k5 k6 (by
            intro L' hL'
            rw [hL] at hL';cases hL'
            refine ⟨_,T,fz,o0,k1,?_,?_,?_,(fun e=>Bool.noConfusion e),r1,r2⟩
            ·rw [List.size_toArray,hsz2];exact hf
            ·rw [List.size_toArray,hsz2];exact hCs
            ·rw [iM LM];exact hlim)
           rw [← oW (cK hid)] at this
           refine ⟨_,ro,μ,w',hrun,?_,this.1,this.2,fun _ h=>absurd rfl h,by simp⟩
           exact .slc id i.size off _ (some c) L c a hL hsz hin (by simp) ha
          ·cases h
         ·rename_i hin
          simp only [Option.some.injEq,Prod.mk.injEq] at h
          obtain ⟨rfl,rfl⟩:=h
          obtain ⟨q,w',hq,hrun,hw',k4,k5,k6⟩:=fresh hin
          exact Step.newRow (n:=q - (len+ys.length)) (C:=O1++C1) (R:=Builtin.zeroCells zv.cells (q - (len+ys.length))) (e:=e) g (hn (by simp)) (ael.append aem) (by rw [qL,hzs]) hw' (kK _) k4 k5 k6 hrun hq (by simp [hol];omega) (by simp)
        ·split at h
         ·rename_i hwr
          subst hwr
          simp only [Option.some.injEq,Prod.mk.injEq] at h
          obtain ⟨rfl,rfl⟩:=h
          by_cases hin:len+ys.length≤c
          ·obtain ⟨w',hrun,k1,k2,k3,k4,k5,k6,hfit⟩:=WI hin
           -- where the new object lies
           rcases Nat.eq_zero_or_pos c with hc0 | hcp
           ·have hy0:ys=[]:=List.eq_nil_of_length_eq_zero (by omega)
            have hx0:(xs.drop off).take len=[]:=List.eq_nil_of_length_eq_zero (by omega)
            subst hy0
            have hC0:C=#[]:=Array.eq_empty_of_size_eq_zero (by rw [hfc.size];simp)
            subst hC0
            have k1':w'.heap[L.blk]?=some (.cells A T fz):=by rw [k1];simp [over]
            have:=g.take (m:=id) (n:=σ.length) (o:=.row i.size ((xs.drop off).take len++[]) true) (L:=L) (L':=⟨L.blk,L.base+L.lim,i.size,0⟩) (by rw [dR hid];rfl) hL (hn (by simp)) (qg (Nat.le_refl _)) rfl k2 k3 k4 k5 k6 (by
             intro L' hL'
             simp only [iC,if_true,Option.some.injEq] at hL'
             subst hL'
             refine ⟨A,T,fz,rfl,k1',hf,by simpa using hCs,by rw [hx0];simp,fun e=>(by cases e),fun i x hx=>by rw [hx0] at hx;simp at hx,fun i x j c hx=>by rw [hx0] at hx;simp at hx⟩)
            rw [← oW (cK hid),show σ.length=(σ.set id .dead).length by simp,← rF] at this
            refine ⟨_,ro,_,w',hrun,?_,this.1,this.2,fun id' h'=>?_,by simp⟩
            ·refine .slc _ i.size 0 _ none ⟨L.blk,L.base+L.lim,i.size,0⟩ c a (by simp [iC]) rfl hin (by simp) (fun hne=>absurd hc0 hne)
            ·have:=Lj h'
             simp at this
             subst this
             simp
           ·obtain ⟨ea,hlm⟩:=ha (by omega)
            have WL:=hfit (by omega)
            have hsz2:(over A.toList (L.base+(off+len)*i.size) C.toList).length=A.size:=by rw [iM (by simpa using WL)];simp
            have hsum:(off+len)*i.size=off*i.size+len*i.size:=Nat.add_mul _ _ _
            have htot:((xs.drop off).take len++ys).length*i.size=len*i.size+ys.length*i.size:=by simp only [List.length_append,hol,Nat.add_mul]
            have hck:(len+ys.length)*i.size≤c*i.size:=Nat.mul_le_mul_right _ hin
            rw [Nat.add_mul] at hck
            have:=g.take (m:=id) (n:=σ.length) (o:=.row i.size ((xs.drop off).take len++ys) true) (L:=L) (L':=⟨L.blk,L.base+off*i.size,i.size,L.lim - off*i.size⟩) (by rw [dR hid];rfl) hL (hn (by simp)) (qg (Nat.le_refl _)) rfl k2 k3 k4 k5 k6 (by
             intro L' hL'
             simp only [iC,if_true,Option.some.injEq] at hL'
             subst hL'
             refine ⟨_,T,fz,rfl,k1,?_,?_,?_,fun e=>(by cases e),(ael.append hfc).ok,fun i' x j c' hx hj=>?_⟩
             ·rw [List.size_toArray,hsz2];exact hf
             ·rw [List.size_toArray,hsz2,hCs];simp only;omega
             ·simp only;omega
             ·simp only
              rw [List.getElem?_toArray,jT (by simpa using WL)]
              simp only [Array.length_toList,hfc.size]
              have hxs:=((ael.append hfc).ok i' x hx).1
              have hjl:=cK hj
              rw [List.getElem?_append] at hx
              split at hx
              ·rename_i hi'
               rw [hol] at hi'
               have hx':xs[off+i']?=some x:=by
                rw [List.getElem?_take,List.getElem?_drop,if_pos hi'] at hx
                exact hx
               obtain ⟨v,q1,q2⟩:=hcell _ x j c' hx' hj
               have e1:(i'+1)*i.size≤len*i.size:=Nat.mul_le_mul_right _ hi'
               rw [Nat.add_mul] at e1
               rw [if_neg (by omega)]
               refine ⟨v,?_,q2⟩
               rw [Nat.add_mul off i'] at q1
               rw [show L.base+off*i.size+(i'*i.size+j)=L.base+(off*i.size+i'*i.size+j) by omega]
               simpa using q1
              ·rename_i hi'
               rw [hol] at hi' hx
               obtain ⟨v,q1,q2⟩:=hfc.get _ x j c' hx hj
               have hlx:=cK hx
               have e0:i'*i.size=len*i.size+(i' - len)*i.size:=by rw [← Nat.add_mul];congr 1;omega
               have e1:(i' - len+1)*i.size≤ys.length*i.size:=Nat.mul_le_mul_right _ hlx
               rw [Nat.add_mul] at e1
               rw [if_pos (by omega)]
               refine ⟨v,?_,q2⟩
               rw [show L.base+off*i.size+(i'*i.size+j) - (L.base+(off+len)*i.size)=(i' - len)*i.size+j by omega]
               simpa using q1)
            rw [← oW (cK hid),show σ.length=(σ.set id .dead).length by simp,← rF] at this
            refine ⟨_,ro,_,w',hrun,?_,this.1,this.2,fun id' h'=>?_,by simp⟩
            ·refine .slc _ i.size 0 _ none ⟨L.blk,L.base+off*i.size,i.size,L.lim - off*i.size⟩ c a (by simp [iC]) rfl hin (by simp) (fun hne=>⟨by simpa using ea,by simp;omega⟩)
            ·have:=Lj h'
             simp at this
             subst this
             simp
          ·obtain ⟨q,w',hq,hrun,hw',k4,k5,k6⟩:=fresh hin
           obtain ⟨gk,xk⟩:=g.kill id
           rw [← oW (cK hid)] at gk xk
           have hn':μ (σ.set id .dead).length=none:=by simpa using hn (by simp)
           obtain ⟨v',ro',μ',w'',r1,r2,r3,r4,r5,r6⟩:=Step.newRow (P:=P) (n:=q - (len+ys.length)) (C:=O1++C1) (R:=Builtin.zeroCells zv.cells (q - (len+ys.length))) (e:=e) (cap:=none) gk hn' (ael.append aem) (by rw [qL,hzs]) hw' (kK _) k4 k5 k6 hrun hq (by simp [hol];omega) (by simp)
           simp only [List.length_set] at r2 r5 r6
           exact ⟨v',ro',μ',w'',r1,r2,r3,xk.trans r4,fun id' h'=>by have:=r5 id' h';simpa using this,by simp⟩
         ·cases h
       ·cases h
      ·cases h
     ·cases h
    ·cases h
   ·cases h
  ·cases h
 ·cases h
end Lv
/- copy, make, literals, conversions, comparisons with nil. -/
namespace Lv
open Go
variable [bJ]
theorem FC.take {ro:Ro} {sz n:Nat} {ys:List D} {C:Array Value} (h:FC ro sz ys C) (hn:n≤ys.length):FC ro sz (ys.take n) (C.extract 0 (n*sz)):=by
 have hs:n*sz≤ys.length*sz:=Nat.mul_le_mul_right _ hn
 refine ⟨by simp only [Array.size_extract,h.size,List.length_take];rw [Nat.min_eq_left hs,Nat.min_eq_left hn];omega,fun i x hx=>?_,fun i x j c hx hj=>?_⟩
 ·rw [List.getElem?_take] at hx
  split at hx
  ·exact h.ok i x hx
  ·cases hx
 ·rw [List.getElem?_take] at hx
  split at hx
  ·rename_i hi
   obtain ⟨v,k1,k2⟩:=h.get i x j c hx hj
   refine ⟨v,?_,k2⟩
   have hjl:=cK hj
   have:=(h.ok i x hx).1
   have e:(i+1)*sz≤n*sz:=Nat.mul_le_mul_right _ hi
   rw [Nat.add_mul] at e
   rw [Array.getElem?_extract,if_pos (by rw [h.size];omega)]
   simpa using k1
  ·cases hx
theorem uY {P:Program} {σ:List Ob} {sz n:Nat} {x:AV} {ys:List D} {ro:Ro} {μ:Mu} {w:World} {v:Value} (g:Good ro μ w (hp σ)) (hv:VR ro μ x v) (h:elems σ sz x=some ys) (hn:n≤ys.length):
  ∃C,(Builtin.firstCells sz n v).run P w=.ok C w∧FC ro sz (ys.take n) C:=by
 unfold elems at h
 split at h
 ·rename_i id sz' off len cap
  split at h
  ·rename_i Rj xs wr e
   split at h
   ·rename_i hc
    obtain ⟨rfl,rfl,hc3⟩:=hc
    simp only [Option.some.injEq] at h
    subst h
    have hl:((xs.drop off).take len).length=len:=by simp;omega
    have:elems σ Rj (.slc id Rj off n none)=some (((xs.drop off).take len).take n):=by
     simp only [elems,e,true_and]
     rw [if_pos (by omega),List.take_take,Nat.min_eq_left (by omega)]
    rcases o7 hv with ⟨L,c,a,rfl,hL,hsz,hlc,hcap,ha⟩ | ⟨rfl,rfl,rfl⟩
    rotate_left
    ·have hn0:n=0:=by simp at hn;omega
     subst hn0
     refine ⟨#[],rfl,?_⟩
     rw [List.take_zero]
     exact FC.nil ro _
    have hv2:VR ro μ (.slc id Rj off n none) (.slice (some a) n c):=.slc id Rj off n none L c a hL hsz (by omega) (by simp) ha
    obtain ⟨_,C,h1,h2⟩:=qF (P:=P) g hv2 this
    refine ⟨C,?_,h2⟩
    rw [List.length_take,Nat.min_eq_left hn] at h1
    exact h1
   ·cases h
  ·cases h
 ·rename_i sz' xs
  split at h
  ·rename_i hc
   subst hc
   simp only [Option.some.injEq] at h
   subst h
   rcases zW hv with ⟨a,cap,gg,rfl,hl,hsp,hz,k1,k2⟩ | ⟨rfl,rfl⟩
   rotate_left
   ·have hn0:n=0:=by simpa using hn
    subst hn0
    exact ⟨#[],rfl,FC.nil ro _⟩
   have:=zq (P:=P) (w:=w) (ro:=ro) (sz:=sz') (a:=a) (ys:=xs.take n) (fun i x hx=>?_) (fun i x j c hx hj=>?_)
   ·rw [List.length_take,Nat.min_eq_left hn] at this
    exact this
   ·rw [List.getElem?_take] at hx
    split at hx
    ·exact hz i x hx
    ·cases hx
   ·rw [List.getElem?_take] at hx
    split at hx
    ·have ea:a=cellAt a.block a.off:=CU (hsp (by rintro rfl;simp at hx))
     refine ⟨_,?_,k2 i x j c hx hj⟩
     rw [ea,jV]
     exact g.qJ _ _ (k1 i x j c hx hj)
    ·cases hx
  ·cases h
 ·simp only [Option.some.injEq] at h
  subst h
  obtain rfl:=gP hv rfl
  refine ⟨#[],rfl,?_⟩
  simpa using FC.nil ro sz
 ·rename_i s
  split at h
  ·rename_i hc
   subst hc
   simp only [Option.some.injEq] at h
   subst h
   have hv':=hv
   obtain rfl:=gP hv rfl
   obtain ⟨_,C,h1,h2⟩:=qF (P:=P) g hv' (by simp [elems]:elems σ 1 (.d (.str s))=some (bytesD s))
   have h3:=h2.take hn
   refine ⟨_,?_,h3⟩
   have hlen:(bytesD s).length=s.size:=by simp [bytesD]
   rw [hlen] at h1
   simp only [Builtin.firstCells,Sem.run_pure,Result.ok.injEq,and_true] at h1 ⊢
   rw [nH] at h1
   subst h1
   apply Array.ext'
   simp [ByteArray.data_extract]
  ·cases h
 ·cases h
theorem TB {P:Program} {σ σ':List Ob} {t ty:TypeId} {at_:Array TypeId} {s x r:AV} {ro:Ro} {μ:Mu} {w:World} {v u:Value} (g:Good ro μ w (hp σ))
  (h0:at_[0]?=some t) (hs:VR ro μ s v) (hx:VR ro μ x u) (h:TD P σ t s x=some (r,σ')):Step P (Builtin.copy_ at_ ty #[v,u]) ro μ w σ r σ':=by
 unfold TD at h
 split at h
 ·rename_i e hu
  split at h
  ·rename_i z hz
   split at h
   ·rename_i ys hel
    obtain ⟨hlen,_,_,_⟩:=qF (P:=P) g hx hel
    split at h
    ·simp only [Option.some.injEq,Prod.mk.injEq] at h
     obtain ⟨rfl,rfl⟩:=h
     obtain rfl:=gP hs rfl
     obtain ⟨C,hC,hfc⟩:=uY (P:=P) (n:=0) g hx hel (by omega)
     refine Step.still g ⟨.int .i64 0,?_,.d _ _ (.int _ _)⟩
     simp [Builtin.copy_,h0,run_underlying hu,hlen,iH hz,hC,goInt]
    ·rename_i id sz off len cap
     split at h
     ·rename_i sz' xs hid
      split at h
      ·rename_i hc
       obtain ⟨c1,c2,c3⟩:=hc
       subst c1
       subst c2
       simp only [Option.some.injEq,Prod.mk.injEq] at h
       obtain ⟨rfl,rfl⟩:=h
       rcases o7 hs with ⟨L,c,a,rfl,hL,hsz,hlc,hcap,ha⟩ | ⟨rfl,rfl,rfl⟩
       rotate_left
       ·obtain ⟨C,hC,hfc⟩:=uY (P:=P) (n:=0) g hx hel (by omega)
        have he:over xs off (ys.take 0)=xs:=by simp [over]
        have hs1:σ.set id (.row sz' xs true)=σ:=by
         apply List.ext_getElem?
         intro i
         rw [List.getElem?_set]
         split
         ·rename_i e;subst e
          split
          ·exact hid.symm
          ·rename_i q;exact absurd (cK hid) q
         ·rfl
        rw [he,hs1]
        refine Step.still g ⟨.int .i64 0,?_,?_⟩
        ·simp [Builtin.copy_,h0,run_underlying hu,hlen,iH hz,hC,goInt]
        ·have e0:Nat.min ys.length 0=0:=by simp
         rw [e0]
         exact .d _ _ (.int _ _)
       obtain ⟨C,hC,hfc⟩:=uY (P:=P) (n:=Nat.min ys.length len) g hx hel (Nat.min_le_left _ _)
       have htk:ys.take (Nat.min ys.length len)=ys.take len:=by
        rcases Nat.le_total ys.length len with q | q
        ·rw [show Nat.min ys.length len=ys.length from Nat.min_eq_left q,List.take_length,List.take_of_length_le q]
        ·rw [show Nat.min ys.length len=len from Nat.min_eq_right q]
       rw [htk] at hfc
       have w9:=g.ob id
       rw [dR hid] at w9
       obtain ⟨A,T,fz,o0,hh,hf,hCs,hlim,hw,hz',hcell⟩:=w9 L hL
       have htl:(ys.take len).length≤len:=List.length_take_le _ _
       have hfit:off+(ys.take len).length≤xs.length:=by omega
       have LM:L.base+off*sz'+C.size≤A.size:=by
        rw [hfc.size]
        have:(off+(ys.take len).length)*sz'≤xs.length*sz':=Nat.mul_le_mul_right _ hfit
        rw [Nat.add_mul] at this
        omega
       obtain ⟨k1,k2,k3,k4,k5,k6⟩:=pE L.blk T fz C.toList (L.base+off*sz') w A hh (by simpa using LM)
       have hst:(storeCells a C.toList).run P w=.ok () (w.setCells L.blk (L.base+off*sz') C.toList):=by
        rcases Nat.eq_zero_or_pos c with q | q
        ·have hy0:(ys.take len).length=0:=by omega
         have hC0:C=#[]:=Array.eq_empty_of_size_eq_zero (by rw [hfc.size,hy0,Nat.zero_mul])
         subst hC0
         rfl
        ·obtain ⟨rfl,_⟩:=ha (by omega)
         exact Dr (P:=P) hh hf (by simpa using LM) hfc.one
       obtain ⟨r1,r2⟩:=Xl (off:=off) hz' hcell (by omega) hfc hfit
       have hsz2:(over A.toList (L.base+off*sz') C.toList).length=A.size:=by rw [iM (by simpa using LM)];simp
       have:=g.write (n:=id) (o:=.row sz' (over xs off (ys.take len)) true) (L:=L) (by rw [dR hid];rfl) hL k2 k3 k4 k5 k6 (by
        intro L' hL'
        rw [hL] at hL';cases hL'
        refine ⟨_,T,fz,o0,k1,?_,?_,?_,(fun e=>Bool.noConfusion e),r1,r2⟩
        ·rw [List.size_toArray,hsz2];exact hf
        ·rw [List.size_toArray,hsz2];exact hCs
        ·rw [iM hfit];exact hlim)
       rw [← oW (cK hid)] at this
       refine ⟨.int .i64 (Nat.min ys.length len),ro,μ,_,?_,.d _ _ (.int _ _),this.1,this.2,fun _ h=>absurd rfl h,by simp⟩
       simp only [Builtin.copy_,h0,List.getElem?_toArray,List.getElem?_cons_zero,List.getElem?_cons_succ,Sem.run_bind,run_underlying hu,Result.andThen_ok,hlen,iH hz,hC,hst,Sem.run_pure,goInt]
      ·cases h
     ·cases h
    ·cases h
   ·cases h
  ·cases h
 ·cases h
end Lv
/- conversions, literals, make. -/
namespace Lv
open Go Go.Lib
variable [bJ]
theorem Jg {ro:Ro}:∀(xs:List D) (bs:List UInt8) (C:List Value),bytesOf xs=some bs→C.length=xs.length→(∀(i:Nat) (x:D) (v:Value),xs[i]?=some x→C[i]?=some v→DR ro x v)→
  ∃ns:List Int,C=ns.map (Value.int .u8)∧bs=ns.map (fun n=>UInt8.ofNat n.toNat)
 | [],bs,C,h,hl,_=>by
  simp only [bytesOf,Option.some.injEq] at h
  subst h
  have:C=[]:=List.eq_nil_of_length_eq_zero (by simpa using hl)
  subst this
  exact ⟨[],rfl,rfl⟩
 | x::xs,bs,[],h,hl,_=>by simp at hl
 | x::xs,bs,c::C,h,hl,hd=>by
  simp only [bytesOf] at h
  split at h
  ·rename_i b bs' hb hbs
   simp only [Option.some.injEq] at h
   subst h
   have h0:=hd 0 x c rfl rfl
   unfold byteOf at hb
   split at hb
   ·rename_i n
    simp only [Option.some.injEq] at hb
    subst hb
    cases h0
    obtain ⟨ns,e1,e2⟩:=Jg xs bs' C hbs (by simpa using hl) (fun i y v hy hv=>hd (i+1) y v (by simpa using hy) (by simpa using hv))
    exact ⟨n::ns,by rw [e1];rfl,by rw [e2];rfl⟩
   ·cases hb
  ·cases h
theorem foldl_push (ns:List Int):∀s:ByteArray,(ns.foldl (fun r n=>r.push (UInt8.ofNat n.toNat)) s).data.toList=s.data.toList++ns.map (fun n=>UInt8.ofNat n.toNat):=by
 induction ns with
 | nil=>intro s;simp
 | cons n ns ih=>intro s;simp [List.foldl_cons,ih]
theorem Mr {P:Program} {σ σ':List Ob} {src dst:TypeId} {x r:AV} {ro:Ro} {μ:Mu} {w:World} {v:Value} (g:Good ro μ w (hp σ)) (hn:σ.length < σ'.length→μ σ.length=none)
  (hx:VR ro μ x v) (h:gy P σ src dst x=some (r,σ')):Step P (convert src dst v) ro μ w σ r σ':=by
 have scalar:(match x.val with
  | some v=>match vK P (convert src dst v) with
   | some y=>some (y,σ)
   | none=>none
  | none=>none)=some (r,σ')→Step P (convert src dst v) ro μ w σ r σ':=by
  intro h
  split at h
  ·rename_i u hu
   split at h
   ·rename_i y hy
    simp only [Option.some.injEq,Prod.mk.injEq] at h
    obtain ⟨rfl,rfl⟩:=h
    obtain rfl:=gP hx hu
    exact Step.still g (tH hy ro μ w)
   ·cases h
  ·cases h
 unfold gy at h
 split at h
 ·rename_i e hs hd
  split at h
  ·rename_i he
   split at h
   ·cases h
   ·rename_i hns
    split at h
    ·rename_i xs hel
     split at h
     ·rename_i bs hbs
      simp only [Option.some.injEq,Prod.mk.injEq] at h
      obtain ⟨rfl,rfl⟩:=h
      obtain ⟨hlen,C,hC,hfc⟩:=qF (P:=P) g hx hel
      -- the value is a slice
      have hv:∃a len c,v=.slice a len c:=by
       unfold elems at hel
       split at hel
       ·rcases o7 hx with ⟨L,c,a,rfl,_⟩ | ⟨_,_,rfl⟩ <;> exact ⟨_,_,_,rfl⟩
       ·rcases zW hx with ⟨a,cap,gg,rfl,_⟩ | ⟨_,rfl⟩ <;> exact ⟨_,_,_,rfl⟩
       ·obtain rfl:=gP hx rfl;exact ⟨_,_,_,rfl⟩
       ·exact absurd rfl (hns _)
       ·cases hel
      obtain ⟨a,len,c,rfl⟩:=hv
      simp only [Builtin.lenOf,Sem.run_pure,Result.ok.injEq,and_true] at hlen
      subst hlen
      obtain ⟨ns,e1,e2⟩:=Jg (ro:=ro) xs bs C.toList hbs (by simp [hfc.size]) (fun i x v hx hv=>by
       have ho:=hfc.ok i x hx
       have hx0:x.cells=[x]:=by
        cases x
        case agg cs=>
         exfalso
         have hb:=hbs
         have:∀(l:List D) (bs:List UInt8) (i:Nat) (cs:List D),bytesOf l=some bs→l[i]?=some (.agg cs)→False:=by
          intro l
          induction l with
          | nil=>intro bs i cs _ h;simp at h
          | cons y l ih=>
           intro bs i cs h1 h2
           simp only [bytesOf] at h1
           split at h1
           ·rename_i b bs' q1 q2
            cases i with
            | zero=>simp at h2;subst h2;simp [byteOf] at q1
            | succ i=>exact ih _ i cs q2 (by simpa using h2)
           ·cases h1
         exact this _ _ _ _ hb hx
        all_goals rfl
       obtain ⟨u,k1,k2⟩:=hfc.get i x 0 x hx (by rw [hx0];rfl)
       simp only [Nat.mul_one,Nat.add_zero] at k1
       have:C.toList[i]?=some u:=by simpa using k1
       rw [hv] at this
       cases this
       exact k2)
      refine Step.still g ⟨.string ⟨bs.toArray⟩,?_,.d _ _ (.str _)⟩
      rw [run_convert_bytes_string w src dst e a xs.length c hs he hd]
      cases a with
      | none=>
       have:xs.length*1=0:=by
        have h1:(Builtin.firstCells 1 xs.length (.slice none xs.length c)).run P w=.ok #[] w:=rfl
        rw [h1] at hC
        cases hC
        simpa using hfc.size.symm
       have hx0:xs=[]:=List.eq_nil_of_length_eq_zero (by omega)
       subst hx0
       simp only [bytesOf,Option.some.injEq] at hbs
       subst hbs
       rfl
      | some a=>
       have hC':(loadCells a xs.length).run P w=.ok (ns.map (Value.int .u8)).toArray w:=by
        have:(Builtin.firstCells 1 xs.length (.slice (some a) xs.length c))=loadCells a (xs.length*1):=rfl
        rw [this,Nat.mul_one] at hC
        rw [hC,← e1]
       rw [run_bytesToString w a xs.length c ns hC']
       congr 2
       apply ByteArray.ext
       apply Array.ext'
       rw [foldl_push,e2]
       simp
     ·cases h
    ·cases h
  ·cases h
 ·rename_i e hs hd
  split at h
  ·rename_i he hsz
   split at h
   ·rename_i s
    simp only [Option.some.injEq,Prod.mk.injEq] at h
    obtain ⟨rfl,rfl⟩:=h
    obtain rfl:=gP hx rfl
    have hrun:=Lib.run_convert_string_bytes (P:=P) w src dst e s hs hd he
    have hlen:(bytesD s).length=s.size:=by simp [bytesD]
    have hbc:bytesCells w e s=(s.data.map fun b=>Value.int .u8 b.toNat)++Array.replicate (grownCap w s.size 0 e - s.size) (.int .u8 0):=rfl
    have hcap:s.size≤grownCap w s.size 0 e:=by simp only [grownCap,Question.cut];omega
    have hheap:(bytesWorld w e s).heap=w.heap.push (.cells (bytesCells w e s) e ((bytesCells w e s).size,(bytesCells w e s).size+1)):=by
     apply Array.ext_getElem?
     intro i
     rcases Nat.lt_trichotomy i w.heap.size with q | q | q
     ·rw [bytesWorld_at_old w e s i q,Array.getElem?_push,if_neg (by omega)]
     ·subst q
      rw [bytesWorld_at_new];simp
     ·rw [Array.getElem?_eq_none (by rw [bytesWorld_size];omega),Array.getElem?_eq_none (by simp;omega)]
    have hfc:FC ro 1 (bytesD s) (s.data.map fun b=>Value.int .u8 b.toNat):=by
     obtain ⟨_,C,hC,hfc⟩:=qF (P:=P) g hx (by simp [elems]:elems σ 1 (.d (.str s))=some (bytesD s))
     have:(Builtin.firstCells 1 (bytesD s).length (.string s))=pure ((s.extract 0 (bytesD s).length).data.map fun b=>.int .u8 b.toNat):=rfl
     rw [this,hlen,nH] at hC
     simp only [Sem.run_pure,Result.ok.injEq,and_true] at hC
     rw [hC];exact hfc
    refine Step.newRow (n:=grownCap w s.size 0 e - s.size) (C:=s.data.map fun b=>Value.int .u8 b.toNat) (R:=Array.replicate (grownCap w s.size 0 e - s.size) (.int .u8 0)) (e:=e) g (hn (by simp)) hfc (by simp) hheap ?_ ?_ ?_ ?_ hrun hcap (by omega) (by simp)
    ·refine ⟨by simp,?_⟩
     intro o ho hh
     rw [← hbc] at ho
     simp only at hh
     omega
    ·simp [bytesWorld,World.freeze,World.alloc,World.drew,-World.alloc_eq,-World.drew_eq]
    ·simp [bytesWorld,World.freeze,World.alloc,World.drew,-World.alloc_eq,-World.drew_eq]
    ·simp [bytesWorld,World.freeze,World.alloc,World.drew,-World.alloc_eq,-World.drew_eq]
   ·cases h
  ·cases h
 ·rename_i e e' hs hd
  split at h
  ·rename_i id sz off len cap he
   split at h
   ·rename_i s0 xs hid
    split at h
    ·rename_i hc
     obtain ⟨rfl,hl0⟩:=hc
     simp only [Option.some.injEq,Prod.mk.injEq] at h
     obtain ⟨rfl,rfl⟩:=h
     have hee:e=e':=by have:=hs.symm.trans hd;cases this;rfl
     subst hee
     have hx0:=hx
     rcases o7 hx with ⟨L,c,a,rfl,hL,hsz,hlc,hcap,ha⟩ | ⟨e0,_⟩
     rotate_left
     ·exact absurd e0 hl0
     obtain ⟨rfl,_⟩:=ha (by omega)
     have w9:=g.ob id
     rw [dR hid] at w9
     obtain ⟨A,T,fz,o0,hh,hf,hCs,hlim,hw,hz',hcell⟩:=w9 L hL
     have hblt:L.blk < w.heap.size:=by
      rcases Nat.lt_or_ge L.blk w.heap.size with q | q
      ·exact q
      ·simp [Array.getElem?_eq_none q] at hh
     have hsh:w.shape? L.blk=some (T,A.size):=by simp [World.shape?,hh]
     have hrun:(convert src src (.slice (some (cellAt L.blk (L.base+off*sz))) len c)).run P w=.ok (.slice (some (cellAt L.blk (L.base+off*sz))) len c) (w.freeze ⟨L.blk,A.size,none⟩ 1):=by
      unfold convert
      simp only [Sem.run_bind,run_underlying hs,run_underlying hd,Result.andThen_ok,run_underlying he,beq_self_eq_true,markStringish,cellAt,shape,freeze,Sem.run,hsh,Sem.bind]
      rfl
     have hk:(w.freeze ⟨L.blk,A.size,none⟩ 1).heap[L.blk]?=some (.cells A T (if fz.1==fz.2 then (A.size,A.size+1) else (min fz.1 A.size,max fz.2 (A.size+1)))):=by
      obtain ⟨lo,hi⟩:=fz
      simp [World.freeze,Array.getElem?_modify,hh]
     have hne:∀b,b≠L.blk→(w.freeze ⟨L.blk,A.size,none⟩ 1).heap[b]?=w.heap[b]?:=by
      intro b hb
      simp [World.freeze,Array.getElem?_modify,Ne.symm hb]
     have:=g.write (n:=id) (o:=.row s0 xs true) (L:=L) (by rw [dR hid];rfl) hL hne (by simp [World.freeze]) rfl rfl rfl (by
      intro L' hL'
      rw [hL] at hL';cases hL'
      refine ⟨A,T,_,o0,hk,?_,hCs,hlim,(fun e=>Bool.noConfusion e),hz',hcell⟩
      have h1:=hf.1
      by_cases q:fz.1=fz.2
      ·rw [if_pos (by simpa using q)]
       exact ⟨by simp,fun o ho hh=>by simp at hh;omega⟩
      ·rw [if_neg (by simpa using q)]
       have h2:A.size≤fz.1:=by
        rcases Nat.lt_or_ge fz.1 A.size with k | k
        ·exact absurd ⟨Nat.le_refl _,by omega⟩ (hf.2 fz.1 k)
        ·exact k
       refine ⟨by simp;omega,fun o ho hh=>?_⟩
       simp only at hh
       omega)
     rw [← oW (cK hid)] at this
     have hs1:σ.set id (.row s0 xs true)=σ:=by
      apply List.ext_getElem?
      intro i
      rw [List.getElem?_set]
      split
      ·rename_i e;subst e
       split
       ·exact hid.symm
       ·rename_i q;exact absurd (cK hid) q
      ·rfl
     rw [hs1] at this
     exact ⟨_,ro,μ,_,hrun,hx0,this.1,this.2,fun _ h=>absurd rfl h,Nat.le_refl _⟩
    ·cases h
   ·cases h
  ·cases h
 ·exact scalar h
 ·cases h
end Lv
namespace Lv
open Go
variable [bJ]
theorem IE (off:Nat):∀(l:List Value) (k:Nat) (C:Array Value),off+k+l.length≤C.size→
  (l.zipIdx k).foldl (fun cs (p:Value×Nat)=>cs.setIfInBounds (off+p.2) p.1) C=(over C.toList (off+k) l).toArray
 | [],k,C,h=>by simp [over]
 | v::l,k,C,h=>by
  simp only [List.length_cons] at h
  simp only [List.zipIdx_cons,List.foldl_cons]
  rw [IE off l (k+1) _ (by simp;omega)]
  apply Array.ext'
  simp only [Array.toList_setIfInBounds]
  apply List.ext_getElem?
  intro i
  rw [jT (by simp;omega),jT (by simp;omega),List.getElem?_set]
  simp only [List.length_cons,Array.length_toList]
  by_cases e:i=off+k
  ·subst e
   rw [if_neg (by omega),if_pos rfl,if_pos (by omega),if_pos (by omega)]
   simp
  ·by_cases e2:off+(k+1)≤i∧i < off+(k+1)+l.length
   ·rw [if_pos e2,if_pos (by omega),show i - (off+k)=(i - (off+(k+1)))+1 by omega]
    simp
   ·rw [if_neg e2,if_neg (by omega),if_neg (by omega)]
theorem EX (off:Nat) (V C:Array Value) (h:off+V.size≤C.size):
  V.zipIdx.foldl (fun cs (p:Value×Nat)=>cs.setIfInBounds (off+p.2) p.1) C=(over C.toList off V.toList).toArray:=by
 have:=IE off V.toList 0 C (by simpa using h)
 simp only [Nat.add_zero] at this
 rw [← this,← Array.foldl_toList]
 simp
structure PRs (ro:Ro) (μ:Mu) (ps:List (Nat×AV)) (qs:List (Nat×Value)):Prop where
 size:qs.length=ps.length
 fst:∀(k:Nat) (p:Nat×AV) (q:Nat×Value),ps[k]?=some p→qs[k]?=some q→p.1=q.1
 snd:∀(k:Nat) (p:Nat×AV) (q:Nat×Value),ps[k]?=some p→qs[k]?=some q→VR ro μ p.2 q.2
theorem PRs.cons {ro:Ro} {μ:Mu} {p:Nat×AV} {ps:List (Nat×AV)} {qs:List (Nat×Value)} (h:PRs ro μ (p::ps) qs):∃q qs',qs=q::qs'∧p.1=q.1∧VR ro μ p.2 q.2∧PRs ro μ ps qs':=by
 cases qs with
 | nil=>have:=h.size;simp at this
 | cons q qs=>
  exact ⟨q,qs,rfl,h.fst 0 p q rfl rfl,h.snd 0 p q rfl rfl,by have:=h.size;simpa using this,fun k a b ha hb=>h.fst (k+1) a b (by simpa using ha) (by simpa using hb),fun k a b ha hb=>h.snd (k+1) a b (by simpa using ha) (by simpa using hb)⟩
theorem Cq {ro:Ro} {μ:Mu} {place:Nat→Option (Nat×Nat)}:∀(ps:List (Nat×AV)) (qs:List (Nat×Value)) (cells cs:List AV) (C:Array Value),oo ro μ cells C→PRs ro μ ps qs→OH place cells ps=some cs→
  ∃C',Instr.fill place C qs=some C'∧oo ro μ cs C'
 | [],qs,cells,cs,C,hc,hp,h=>by
  have:=hp.size
  have:qs=[]:=List.eq_nil_of_length_eq_zero (by simpa using this)
  subst this
  simp only [OH,Option.some.injEq] at h
  subst h
  exact ⟨C,rfl,hc⟩
 | (i,v)::ps,qs,cells,cs,C,hc,hp,h=>by
  obtain ⟨⟨j,u⟩,qs',rfl,e1,e2,hp'⟩:=hp.cons
  simp only at e1 e2
  subst e1
  simp only [OH] at h
  split at h
  ·rename_i off s hpl
   split at h
   ·rename_i hq
    obtain ⟨h1,h2,h3⟩:=hq
    have hcs:=uN e2 (Ml h3)
    have hsz:=hcs.size
    have hC:=hc.size
    have hfit:off+u.cells.size≤C.size:=by omega
    obtain ⟨C',k1,k2⟩:=Cq ps qs' _ cs _ (TG hc hcs (by omega)) hp' h
    refine ⟨C',?_,k2⟩
    rw [← k1,← EX off u.cells C hfit]
    have hb:(decide (u.cells.size≠s) || decide (off+u.cells.size > C.size))=false:=by simp;omega
    simp only [Instr.fill,hpl,hb,Bool.false_eq_true,if_false]
   ·cases h
  ·cases h
theorem QG {P:Program} {t:TypeId} {ps:List (Nat×AV)} {qs:Array (Nat×Value)} {x:AV} {ro:Ro} {μ:Mu} (hp:PRs ro μ ps qs.toList) (h:iD P t ps=some x) (w:World):
  ∃v,(Instr.build t qs).run P w=.ok v w∧VR ro μ x v:=by
 unfold iD at h
 split at h
 ·rename_i it fs hi hu
  split at h
  ·rename_i zs pl hz hpl
   split at h
   ·rename_i z hzs
    split at h
    ·rename_i cs hf
     simp only [Option.some.injEq] at h
     subst h
     obtain ⟨hl,hr⟩:=zB (ro:=ro) zs.toList z hzs
     have hc:oo ro μ (z.map AV.d) zs:=by
      refine ⟨by simpa using hl,fun i x v hx hv=>?_⟩
      simp only [List.getElem?_map,Option.map_eq_some_iff] at hx
      obtain ⟨y,hy,rfl⟩:=hx
      exact .d _ _ (hr i y v hy (by simpa using hv))
     obtain ⟨C',k1,k2⟩:=Cq ps qs.toList _ cs zs hc hp hf
     refine ⟨.agg C',run_build w t qs C' ?_,BQ k2⟩
     unfold placesOf at hpl
     simp only [Program.built,hi,hu,hz,hpl]
     exact k1
    ·cases h
   ·cases h
  ·cases h
 ·rename_i it n e hi hu
  split at h
  ·rename_i zs ie hz hpl
   split at h
   ·rename_i z hzs
    split at h
    ·rename_i cs hf
     simp only [Option.some.injEq] at h
     subst h
     obtain ⟨hl,hr⟩:=zB (ro:=ro) zs.toList z hzs
     have hc:oo ro μ (z.map AV.d) zs:=by
      refine ⟨by simpa using hl,fun i x v hx hv=>?_⟩
      simp only [List.getElem?_map,Option.map_eq_some_iff] at hx
      obtain ⟨y,hy,rfl⟩:=hx
      exact .d _ _ (hr i y v hy (by simpa using hv))
     obtain ⟨C',k1,k2⟩:=Cq ps qs.toList _ cs zs hc hp hf
     refine ⟨.agg C',run_build w t qs C' ?_,BQ k2⟩
     simp only [Program.built,hi,hu,hz,hpl]
     exact k1
    ·cases h
   ·cases h
  ·cases h
 ·cases h
theorem GL {sz:Nat}:∀(ps:List (Nat×AV)) (qs:List (Nat×Value)) (k:Nat) (C:Array Value) {ro:Ro} {μ:Mu} {w:World} {σ σ':List Ob} {ds:List D},Good ro μ w (hp σ)→PRs ro μ ps qs→mh σ sz k ps=some (ds,σ')→
  k*sz+ps.length*sz≤C.size→
  ∃ro' V,Good ro' μ w (hp σ')∧Ext ro μ w (hp σ) ro' μ w (hp σ')∧σ'.length=σ.length∧ds.length=ps.length∧FC ro' sz ds V∧Instr.fill (fun i=>some (i*sz,sz)) C qs=some (over C.toList (k*sz) V.toList).toArray
 | [],qs,k,C,ro,μ,w,σ,σ',ds,g,hp',h,hl=>by
  have:=hp'.size
  have:qs=[]:=List.eq_nil_of_length_eq_zero (by simpa using this)
  subst this
  simp only [mh,Option.some.injEq,Prod.mk.injEq] at h
  obtain ⟨rfl,rfl⟩:=h
  exact ⟨ro,#[],g,Ext.refl _ _ _ _,rfl,rfl,FC.nil ro sz,by simp [Instr.fill,over]⟩
 | (i, v)::ps,qs,k,C,ro,μ,w,σ,σ',ds,g,hp',h,hl=>by
  obtain ⟨⟨j,u⟩,qs',rfl,e1,e2,hp2⟩:=hp'.cons
  simp only at e1 e2
  subst e1
  simp only [mh] at h
  split at h
  ·rename_i hc
   obtain ⟨rfl,hvl⟩:=hc
   split at h
   ·rename_i y σ1 hy
    split at h
    ·rename_i ys σ2 hys
     simp only [Option.some.injEq,Prod.mk.injEq] at h
     obtain ⟨rfl,rfl⟩:=h
     have hl':i*sz+(ps.length+1)*sz≤C.size:=by simpa using hl
     rw [Nat.add_mul] at hl'
     -- the first part
     have first:∃qK,Good qK μ w (hp σ1)∧Ext ro μ w (hp σ) qK μ w (hp σ1)∧σ1.length=σ.length∧y.F8 sz∧u.cells.size=sz∧
       (∀(j:Nat) (c:D) (q:Value),y.cells[j]?=some c→u.cells[j]?=some q→DR qK c q):=by
      unfold Df at hy
      split at hy
      ·rename_i hva
       split at hy
       ·rename_i es Jj hfz
        simp only [Option.some.injEq,Prod.mk.injEq] at hy
        obtain ⟨rfl,rfl⟩:=hy
        have hne:v≠.undef:=by rintro rfl;simp [AV.isAgg] at hva
        have hcs:=uN e2 hne
        obtain ⟨qK,g1,x1,l1,d1,a1,n1⟩:=nZ v.cells (vs:=u.cells.toList) g (by simpa using hcs.size) (fun i x v hx hv=>hcs.get i x v hx (by simpa using hv)) hfz
        exact ⟨qK,g1,x1,n1,⟨by simp [D.cells,l1,hvl],fun c hc=>a1 c (by simpa [D.cells] using hc)⟩,by rw [hcs.size,hvl],fun j c q hj hq=>d1 j c q (by simpa [D.cells] using hj) (by simpa using hq)⟩
       ·cases hy
      ·rename_i hva
       obtain ⟨qK,g1,x1,d1,a1,n1⟩:=sQ g e2 hy
       have hy1:=D.rQ a1
       have hv1:=Ap (x:=v) (by simpa using hva)
       have hsz:sz=1:=by rw [hv1] at hvl;simpa using hvl.symm
       have hu1:u.cells=#[u]:=Ns (IB d1 a1)
       refine ⟨qK,g1,x1,n1,⟨by rw [hy1,hsz];rfl,fun c hc=>by rw [hy1] at hc;simp only [List.mem_singleton] at hc;subst hc;exact a1⟩,by rw [hu1,hsz];rfl,fun j c q hj hq=>?_⟩
       rw [hy1] at hj
       rw [hu1] at hq
       cases j with
       | zero=>simp at hj hq;subst hj;subst hq;exact d1
       | succ j=>simp at hj
     obtain ⟨qK,g1,x1,n1,hok,SS,hd1⟩:=first
     have hp3:PRs qK μ ps qs':=⟨hp2.size,hp2.fst,fun k a b ha hb=>(hp2.snd k a b ha hb).mono x1.jC (fun _ _ h=>h)⟩
     have hfit:i*sz+u.cells.size≤C.size:=by rw [SS];omega
     obtain ⟨Rx,V,g2,x2,n2,l2,hfc,WM⟩:=GL ps qs' (i+1) (over C.toList (i*sz) u.cells.toList).toArray g1 hp3 hys (by
      rw [List.size_toArray,iM (by simpa using hfit)]
      simp only [Array.length_toList,Nat.add_mul]
      omega)
     refine ⟨Rx,u.cells++V,g2,x1.trans x2,by omega,by simp [l2],?_,?_⟩
     ·refine ⟨by simp only [Array.size_append,SS,hfc.size,List.length_cons,Nat.add_mul];omega,fun k x hx=>?_,fun k x j c hx hj=>?_⟩
      ·cases k with
       | zero=>simp at hx;subst hx;exact hok
       | succ k=>exact hfc.ok k x (by simpa using hx)
      ·cases k with
       | zero=>
        simp at hx;subst hx
        have hjl:=cK hj
        rw [hok.1] at hjl
        have hlt:j < u.cells.size:=by omega
        refine ⟨u.cells[j],?_,(hd1 j c _ hj (Array.getElem?_eq_getElem hlt)).mono x2.jC⟩
        simp only [Nat.zero_mul,Nat.zero_add]
        rw [Array.getElem?_append,if_pos hlt,Array.getElem?_eq_getElem hlt]
       | succ k=>
        obtain ⟨q,k1,k2⟩:=hfc.get k x j c (by simpa using hx) hj
        refine ⟨q,?_,k2⟩
        rw [Array.getElem?_append,SS,if_neg (by rw [Nat.add_mul];omega),← k1]
        congr 1
        rw [Nat.add_mul];omega
     ·have hb:(decide (u.cells.size≠sz) || decide (i*sz+u.cells.size > C.size))=false:=by simp;omega
      simp only [Instr.fill,hb,Bool.false_eq_true,if_false]
      rw [EX (i*sz) u.cells C hfit,WM]
      congr 1
      apply Array.ext'
      apply List.ext_getElem?
      intro k
      have hV:V.size=ps.length*sz:=by rw [hfc.size,l2]
      have ho1:(over C.toList (i*sz) u.cells.toList).length=C.size:=by rw [iM (by simpa using hfit)];simp
      rw [jT (by rw [ho1];simp [hV,Nat.add_mul];omega),jT (by simpa using hfit),jT (by simp [hV,SS];omega)]
      simp only [Array.length_toList,hV,SS,Nat.add_mul,Array.toList_append,Nat.one_mul,List.length_append]
      by_cases q1:i*sz≤k∧k < i*sz+sz
      ·rw [if_neg (by omega),if_pos q1,if_pos (by omega),List.getElem?_append_left (by simp [SS];omega)]
      ·by_cases q2:i*sz+sz≤k∧k < i*sz+sz+ps.length*sz
       ·rw [if_pos q2,if_pos (by omega),List.getElem?_append_right (by simp [SS];omega)]
        simp only [Array.length_toList,SS]
        congr 1
        omega
       ·rw [if_neg q2,if_neg q1,if_neg (by omega)]
    ·cases h
   ·cases h
  ·cases h
theorem GN {P:Program} {σ σ':List Ob} {t:TypeId} {len:Nat} {ps:List (Nat×AV)} {qs:Array (Nat×Value)} {x:AV} {ro:Ro} {μ:Mu} {w:World} (g:Good ro μ w (hp σ)) (hn:μ σ.length=none)
  (hp':PRs ro μ ps qs.toList) (h:kH P σ t len ps=some (x,σ')):Step P (Instr.buildSlice t len qs) ro μ w σ x σ':=by
 unfold kH at h
 split at h
 ·rename_i e hu
  split at h
  ·rename_i s z hs hz
   split at h
   ·rename_i hc
    obtain ⟨hc1,hc2⟩:=hc
    split at h
    ·rename_i ds σ1 hds
     simp only [Option.some.injEq,Prod.mk.injEq] at h
     obtain ⟨rfl,rfl⟩:=h
     obtain ⟨zv,hzv,hzd⟩:=vQ hz ro w
     let Z:Array Value:=if len*s=0 then #[] else zv.cells
     let C:Array Value:=(Array.range (len*s)).map (fun k=>Z[k % Z.size]!)
     have hCs:C.size=len*s:=by simp [C]
     obtain ⟨qK,V,g1,x1,n1,l1,hfc,WM⟩:=GL ps qs.toList 0 C g hp' hds (by rw [hCs,hc2];simp)
     have hV:V.size=len*s:=by rw [hfc.size,l1,hc2]
     have hall:(over C.toList (0*s) V.toList).toArray=V:=by
      apply Array.ext'
      simp only [over,Nat.zero_mul,List.take_zero,List.nil_append,Nat.zero_add]
      rw [List.drop_eq_nil_of_le (by simp [hCs,hV])]
      simp
     rw [hall] at WM
     have hrun:(Instr.buildSlice t len qs).run P w=.ok (.slice (some ⟨w.heap.size,0,none⟩) len len) { w with heap:=w.heap.push (.cells (V++#[]) e) }:=by
      have hnr:(newRow e V).run P w=.ok ⟨w.heap.size,0,none⟩ { w with heap:=w.heap.push (.cells (V++#[]) e) }:=by
       rw [Array.append_empty];rfl
      have hlim:¬(len*s > 2 ^ 24):=by omega
      unfold Instr.buildSlice
      simp only [Sem.run_bind,run_underlying hu,Result.andThen_ok,iH hs,hlim,if_false]
      have Qa:Instr.fill (fun i=>some (i*s,s)) ((Array.range (len*s)).map (fun k=>Z[k % Z.size]!)) qs.toList=some V:=WM
      by_cases q:len*s=0
      ·have hZ:Z=#[]:=by simp only [Z];rw [if_pos q]
       rw [hZ] at Qa
       rw [if_pos q]
       simp only [Sem.run_bind,Sem.run_pure,Result.andThen_ok,Qa,hnr]
      ·have hZ:Z=zv.cells:=by simp only [Z];rw [if_neg q]
       rw [hZ] at Qa
       rw [if_neg q]
       simp only [Sem.run_bind,hzv,Sem.run_pure,Result.andThen_ok,Qa,hnr]
     have hn':μ σ1.length=none:=by rw [n1];exact hn
     obtain ⟨v',ro',μ',w'',r1,r2,r3,r4,r5,r6⟩:=Step.newRow (P:=P) (n:=0) (C:=V) (R:=#[]) (e:=e) (cap:=some len) (w':={ w with heap:=w.heap.push (.cells (V++#[]) e) }) g1 hn' hfc (by simp) rfl (kK _) rfl rfl rfl hrun (Nat.le_refl _) (by omega) (by simp)
     exact ⟨v',ro',μ',w'',r1,r2,r3,x1.trans r4,fun id h=>by have:=r5 id h;rw [n1] at this;simpa [n1] using this,by simp [n1]⟩
    ·cases h
   ·cases h
  ·cases h
 ·cases h
theorem yY {P:Program} {σ σ':List Ob} {t:TypeId} {l c x:AV} {lv cv:Value} {ro:Ro} {μ:Mu} {w:World} (g:Good ro μ w (hp σ)) (hn:μ σ.length=none)
  (hl:VR ro μ l lv) (hc:VR ro μ c cv) (h:mo P σ t l c=some (x,σ')):Step P (Instr.makeSlice t lv cv) ro μ w σ x σ':=by
 unfold mo at h
 split at h
 ·rename_i e k1 n k2 m hu
  obtain rfl:=Mv hl
  obtain rfl:=Mv hc
  split at h
  ·rename_i i z hi hz
   split at h
   ·rename_i hq
    obtain ⟨q1,q2,q3,q4,q5,q6,q7⟩:=hq
    simp only [Option.some.injEq,Prod.mk.injEq] at h
    obtain ⟨rfl,rfl⟩:=h
    obtain ⟨zv,hzv,hzd⟩:=vQ hz ro w
    have hzs:=uN (μ:=μ) (.d z zv hzd) (by simp)
    have hzc:(AV.d z).cells.length=z.cells.length:=by cases z <;> simp [AV.cells,D.cells]
    have ahK:zv.cells.size=i.size:=by rw [hzs.size,hzc,q5]
    let Z:Array Value:=if m.toNat * i.size=0 then #[] else zv.cells
    let C:Array Value:=(Array.range (m.toNat * i.size)).map (fun k=>Z[k % Z.size]!)
    have hfc:FC ro i.size (List.replicate m.toNat z) C:=by
     refine ⟨by simp [C],fun k x hx=>?_,fun k x j c hx hj=>?_⟩
     ·rw [List.getElem?_replicate] at hx
      split at hx
      ·simp only [Option.some.injEq] at hx
       subst hx
       refine ⟨q5,fun c hc=>?_⟩
       have:=List.all_eq_true.1 q6 c hc
       simpa using this
      ·cases hx
     ·rw [List.getElem?_replicate] at hx
      split at hx
      ·rename_i hk
       simp only [Option.some.injEq] at hx
       subst hx
       have hjl:=cK hj
       have hlt:k*i.size+j < m.toNat * i.size:=by
        have:(k+1)*i.size≤m.toNat * i.size:=Nat.mul_le_mul_right _ hk
        rw [Nat.add_mul] at this
        omega
       have hZ:Z=zv.cells:=by simp only [Z];rw [if_neg (by omega)]
       have hmod:(k*i.size+j) % Z.size=j:=by
        rw [hZ,ahK,Nat.mul_comm,Nat.mul_add_mod,Nat.mod_eq_of_lt (by omega)]
       have hjz:j < zv.cells.size:=by omega
       refine ⟨zv.cells[j],?_,?_⟩
       ·simp only [C,Array.getElem?_map]
        rw [Array.getElem?_range,if_pos hlt]
        rw [hZ] at hmod ⊢
        simp only [Option.map_some,hmod]
        rw [getElem!_pos zv.cells j hjz]
       ·have hj2:(AV.d z).cells[j]?=some (.d c):=by
         cases z <;> simp_all [AV.cells,D.cells]
        exact TK (hzs.get j _ _ hj2 (Array.getElem?_eq_getElem hjz))
      ·cases hx
    have anm:IntKind.i64.bits=64:=rfl
    have hwn:IntKind.i64.wrap n=n:=by simp only [IntKind.wrap,anm];simp;omega
    have hwm:IntKind.i64.wrap m=m:=by simp only [IntKind.wrap,anm];simp;omega
    have hrun:(Instr.makeSlice t (.int k1 n) (.int k2 m)).run P w=.ok (.slice (some ⟨w.heap.size,0,none⟩) n.toNat m.toNat) { w with heap:=w.heap.push (.cells (C++#[]) e) }:=by
     have hnr:(newRow e C).run P w=.ok ⟨w.heap.size,0,none⟩ { w with heap:=w.heap.push (.cells (C++#[]) e) }:=by
      rw [Array.append_empty];rfl
     have hti:∀w,(typeInfo e).run P w=.ok i w:=fun w=>by simp [typeInfo,hi]
     have hsz:∀w,(Go.sizeOf e).run P w=.ok i.size w:=fun w=>by simp [Go.sizeOf,typeInfo,hi]
     have hcond:((decide (m < 0) || decide ((i.bytes:Int)*m > 2 ^ 48)) || decide (n < 0) || decide (n > m))=false:=by
      have:(i.bytes:Int)*m≤70368744177664:=by rw [Int.mul_comm];exact q3
      simp
      omega
     unfold Instr.makeSlice
     simp only [Sem.run_bind,run_underlying hu,Result.andThen_ok,asInt,asIntOf,Sem.run_pure,hti,hwn,hwm,hcond,Bool.false_eq_true,if_false,run_askRoom,hsz]
     by_cases q:m.toNat * i.size=0
     ·have hZ:Z=#[]:=by simp only [Z];rw [if_pos q]
      have hC:C=(Array.range (m.toNat * i.size)).map (fun k=>(#[]:Array Value)[k % (#[]:Array Value).size]!):=by simp only [C,hZ]
      rw [if_pos q]
      simp only [Sem.run_bind,Sem.run_pure,Result.andThen_ok]
      rw [← hC,hnr]
      rfl
     ·have hZ:Z=zv.cells:=by simp only [Z];rw [if_neg q]
      have hC:C=(Array.range (m.toNat * i.size)).map (fun k=>zv.cells[k % zv.cells.size]!):=by simp only [C,hZ]
      rw [if_neg q]
      simp only [Sem.run_bind,hzv,Sem.run_pure,Result.andThen_ok]
      rw [← hC,hnr]
      rfl
    exact Step.newRow (n:=0) (C:=C) (R:=#[]) (e:=e) (cap:=some m.toNat) (w':={ w with heap:=w.heap.push (.cells (C++#[]) e) }) g hn hfc (by simp) rfl (kK _) rfl rfl rfl hrun (by omega) (by simp) (by simp)
   ·cases h
  ·cases h
 ·cases h
end Lv
/- Maps. -/
namespace Lv
open Go
variable [bJ]
theorem Step.any {P:Program} {s:Sem Value} {ro:Ro} {μ:Mu} {w w':World} {σ:List Ob} {x:AV} {v:Value} {σ':List Ob} {ro':Ro} (hr:s.run P w=.ok v w') (hv:VR ro' μ x v) (g:Good ro' μ w' (hp σ'))
  (e:Ext ro μ w (hp σ) ro' μ w' (hp σ')) (hl:σ'.length=σ.length):Step P s ro μ w σ x σ':=
 ⟨v,ro',μ,w',hr,hv,g,e,fun id h=>absurd rfl h,by omega⟩
theorem Mk {P:Program} {σ σ':List Ob} {t:TypeId} {r:Option AV} {rv:Option Value} {x:AV} {ro:Ro} {μ:Mu} {w:World} (g:Good ro μ w (hp σ)) (hn:μ σ.length=none)
  (hr1:r=none→rv=none) (hr2:∀y,r=some y→∃v,rv=some v∧VR ro μ y v) (h:wX P σ t r=some (x,σ')):Step P (Instr.makeMap t rv) ro μ w σ x σ':=by
 have fin:(Instr.makeMap t rv).run P w=.ok (.map (some w.heap.size)) { w with heap:=w.heap.push (.map #[] 0) }→Step P (Instr.makeMap t rv) ro μ w σ (.uW σ.length) (σ++[.map []]):=by
  intro hrun
  refine Step.push (w':={ w with heap:=w.heap.push (.map #[] 0) }) ⟨w.heap.size,0,0,0⟩ g hn hrun rfl rfl rfl rfl rfl ?_ ?_
  ·intro L hL
   simp only [iC,if_true,Option.some.injEq] at hL
   subst hL
   exact ⟨#[],0,by simp,rfl,fun i x e hx=>by simp at hx⟩
  ·exact .uW _ ⟨w.heap.size,0,0,0⟩ (by simp [iC])
 unfold wX at h
 split at h
 ·rename_i k e hu
  simp only [Option.some.injEq,Prod.mk.injEq] at h
  obtain ⟨rfl,rfl⟩:=h
  rw [hr1 rfl]
  rw [hr1 rfl] at fin
  refine fin ?_
  rfl
 ·rename_i k e kk n hu
  simp only [Option.some.injEq,Prod.mk.injEq] at h
  obtain ⟨rfl,rfl⟩:=h
  obtain ⟨v,rfl,hv⟩:=hr2 _ rfl
  obtain rfl:=Mv hv
  refine fin ?_
  unfold Instr.makeMap
  simp only [Sem.run_bind,run_underlying hu,Result.andThen_ok,asInt,asIntOf,Sem.run_pure]
  rfl
 ·cases h
theorem acU {ro:Ro} {td:TypeDesc} {k:D} {v:Value} (hk:keyOf td k=true) (h:DR ro k v):
  (∃q kk n,td=.int q∧k=.int kk n∧v=.int kk n)∨(∃s,td=.string∧k=.str s∧v=.string s)∨(∃b,td=.bool∧k=.bool b∧v=.bool b):=by
 cases h <;> cases td <;> simp [keyOf] at hk
 ·exact .inl ⟨_,_,_,rfl,rfl,rfl⟩
 ·exact .inr (.inr ⟨_,rfl,rfl,rfl⟩)
 ·exact .inr (.inl ⟨_,rfl,rfl,rfl⟩)
theorem run_checkKey {P:Program} {ro:Ro} {kt:TypeId} {td:TypeDesc} {k:D} {v:Value} {b:Bool} {w:World} (hu:P.underlying kt=some td) (hk:keyOf td k=true) (h:DR ro k v):
  (Instr.checkKey b 10000 kt v).run P w=.ok () w:=by
 unfold Instr.checkKey
 simp only [Sem.run_bind,run_underlying hu,Result.andThen_ok]
 rcases acU hk h with ⟨q,kk,n,rfl,rfl,rfl⟩ | ⟨s,rfl,rfl,rfl⟩ | ⟨b,rfl,rfl,rfl⟩ <;> rfl
theorem IQ {ro:Ro} {td:TypeDesc} {k k':D} {v v':Value} {b:Bool} (hk:keyOf td k=true) (h:DR ro k v) (h':DR ro k' v') (e:D.keq k k'=some b):
  Instr.sameNow td v v'=some b∧(b=true→Instr.sameBits 10000 v' v=true):=by
 rcases acU hk h with ⟨q,kk,n,rfl,rfl,rfl⟩ | ⟨s,rfl,rfl,rfl⟩ | ⟨c,rfl,rfl,rfl⟩
 ·cases h' <;> simp only [D.keq] at e <;> first | (cases e;done) | skip
  split at e
  ·rename_i hq
   subst hq
   simp only [Option.some.injEq] at e
   refine ⟨by simp [Instr.sameNow,e],fun hb=>?_⟩
   subst hb
   have:=beq_iff_eq.1 e
   subst this
   unfold Instr.sameBits
   simp
  ·cases e
 ·cases h' <;> simp only [D.keq] at e <;> first | (cases e;done) | skip
  simp only [Option.some.injEq] at e
  refine ⟨by simp [Instr.sameNow,e],fun hb=>?_⟩
  subst hb
  rw [beq_toListBytes] at e
  have:=beq_iff_eq.1 e
  unfold Instr.sameBits
  rw [beq_toListBytes,this]
  simp
 ·cases h' <;> simp only [D.keq] at e <;> first | (cases e;done) | skip
  simp only [Option.some.injEq] at e
  refine ⟨by simp [Instr.sameNow,e],fun hb=>?_⟩
  subst hb
  have:=beq_iff_eq.1 e
  subst this
  unfold Instr.sameBits
  simp
theorem DL {ro:Ro} {td:TypeDesc} {k:D} {v:Value} (hk:keyOf td k=true) (h:DR ro k v):∀(es:List (D×D)) (E:List MapEntry) (i:Nat) (r:Option (Nat×D)),
  E.length=es.length→(∀(j:Nat) (x:D×D) (e:MapEntry),es[j]?=some x→E[j]?=some e→DR ro x.1 e.key∧DR ro x.2 e.val)→Lm k es i=some r→
  (r=none∧Instr.findNow td v E i=some none)∨(∃(j:Nat) (y:D) (x:D×D) (e:MapEntry),r=some (i+j,y)∧es[j]?=some x∧x.2=y∧E[j]?=some e∧Instr.findNow td v E i=some (some (i+j,e.val))∧Instr.sameBits 10000 e.key v=true)
 | [],E,i,r,hl,_,hm=>by
  cases E with
  | cons a b=>simp at hl
  | nil=>
   simp only [Lm,Option.some.injEq] at hm
   exact .inl ⟨hm.symm,rfl⟩
 | x::es,E,i,r,hl,hg,hm=>by
  cases E with
  | nil=>simp at hl
  | cons e E=>
   have h0:=hg 0 x e rfl rfl
   simp only [Lm] at hm
   split at hm
   ·rename_i hq
    simp only [Option.some.injEq] at hm
    obtain ⟨s1,s2⟩:=IQ hk h h0.1 hq
    exact .inr ⟨0,x.2,x,e,by simpa using hm.symm,rfl,rfl,rfl,by simp [Instr.findNow,s1],s2 rfl⟩
   ·rename_i hq
    obtain ⟨s1,_⟩:=IQ hk h h0.1 hq
    rcases DL hk h es E (i+1) r (by simpa using hl) (fun j x e hx he=>hg (j+1) x e (by simpa using hx) (by simpa using he)) hm with ⟨e1,e2⟩ | ⟨j,y,x',e',e1,e2,e3,e4,e5,e6⟩
    ·exact .inl ⟨e1,by simp [Instr.findNow,s1,e2]⟩
    ·exact .inr ⟨j+1,y,x',e',by rw [e1];congr 2;omega,by simpa using e2,e3,by simpa using e4,by simp only [Instr.findNow,s1,e5];congr 3;omega,e6⟩
   ·cases hm
theorem MR.find {P:Program} {ro:Ro} {td:TypeDesc} {kt:TypeId} {k:D} {v:Value} {es:List (D×D)} {E:Array MapEntry} {r:Option (Nat×D)} {w:World} (hM:MR ro es E) (hu:P.underlying kt=some td) (hk:keyOf td k=true) (h:DR ro k v)
  (hm:Lm k es 0=some r):
  (r=none∧(Instr.findKey kt v E.toList).run P w=.ok none w)∨(∃(j:Nat) (y:D) (x:D×D) (e:MapEntry),r=some (j,y)∧es[j]?=some x∧x.2=y∧E[j]?=some e∧(Instr.findKey kt v E.toList).run P w=.ok (some (j,e.val)) w∧Instr.sameBits 10000 e.key v=true):=by
 have hf:=DL hk h es E.toList 0 r (by simpa using hM.size) (fun j x e hx he=>hM.get j x e hx (by simpa using he)) hm
 rcases hf with ⟨e1,e2⟩ | ⟨j,y,x,e,e1,e2,e3,e4,e5,e6⟩
 ·refine .inl ⟨e1,?_⟩
  unfold Instr.findKey
  simp only [Sem.run_bind,run_underlying hu,Result.andThen_ok,e2,Sem.run_pure]
 ·refine .inr ⟨j,y,x,e,by simpa using e1,e2,e3,by simpa using e4,?_,e6⟩
  unfold Instr.findKey
  simp only [Sem.run_bind,run_underlying hu,Result.andThen_ok,e5,Sem.run_pure,Nat.zero_add]
theorem Oi {P:Program} {t:TypeId} {td:TypeDesc} {e:TypeId} (h:aeh P t=some (td,e)):∃k,P.underlying t=some (.map k e)∧P.underlying k=some td:=by
 unfold aeh at h
 split at h
 ·rename_i k e' hu
  split at h
  ·rename_i d hd
   simp only [Option.some.injEq,Prod.mk.injEq] at h
   obtain ⟨rfl,rfl⟩:=h
   exact ⟨k,hu,hd⟩
  ·cases h
 ·cases h
theorem zo {P:Program} {w:World} {b:Nat} {E:Array MapEntry} {c:Nat} (h:w.heap[b]?=some (.map E c)):(getObj b).run P w=.ok (.map E c) w:=by
 simp [getObj,Sem.run,h]
theorem KL {P:Program} {w:World} {b:Nat} {o:Obj} {E:Array MapEntry} {c:Nat} (h:w.heap[b]?=some (.map E c)):(setObj b o).run P w=.ok () { w with heap:=w.heap.setIfInBounds b o }:=by
 simp [setObj,Sem.run,h]
theorem TI {ro:Ro} {μ:Mu} {id:Nat} {v:Value} (h:VR ro μ (.uW id) v):∃L,v=.map (some L.blk)∧μ id=some L:=by
 cases h with
 | uW _ L h=>exact ⟨L,rfl,h⟩
theorem NH {P:Program} {σ:List Ob} {t:TypeId} {x i y:AV} {ok:Bool} {v u:Value} {ro:Ro} {μ:Mu} {w:World} (g:Good ro μ w (hp σ)) (hx:VR ro μ x v) (hi:VR ro μ i u)
  (h:zT P σ t x i ok=some y):∃z,(Instr.lookup t v u ok).run P w=.ok z w∧VR ro μ y z:=by
 unfold zT at h
 split at h
 ·rename_i td e id k ht
  obtain ⟨kt,hu,hk⟩:=Oi ht
  obtain ⟨L,rfl,hL⟩:=TI hx
  have hkd:=TK hi
  split at h
  ·rename_i es z he hz
   split at h
   ·rename_i hkey
    have w9:=g.ob id
    rw [dR he] at w9
    obtain ⟨E,c,hb,hM⟩:=w9 L hL
    obtain ⟨zv,hzv,hzd⟩:=vQ hz ro w
    have hck:=fun b=>run_checkKey (b:=b) (w:=w) hk hkey hkd
    have tup:∀(a:D) (va:Value) (b:Bool),DR ro a va→VR ro μ (if ok then AV.tuple [.d a,.d (.bool b)] else .d a) (if ok then Value.tuple #[va,.bool b] else va):=by
     intro a va b ha
     cases ok
     ·exact .d _ _ ha
     ·refine .tuple _ _ rfl (fun i x v hx hv=>?_)
      rcases i with _ | _ | i
      ·simp at hx hv;subst hx hv;exact .d _ _ ha
      ·simp at hx hv;subst hx hv;exact .d _ _ (.bool b)
      ·simp at hx
    split at h
    ·rename_i j d hm
     simp only [Option.some.injEq] at h
     subst h
     rcases hM.find (w:=w) hk hkey hkd hm with ⟨e1,_⟩ | ⟨j',y',x',e',e1,e2,e3,e4,e5,e6⟩
     ·cases e1
     ·simp only [Option.some.injEq,Prod.mk.injEq] at e1
      obtain ⟨rfl,rfl⟩:=e1
      refine ⟨_,?_,tup _ _ true (e3▸(hM.get _ _ _ e2 e4).2)⟩
      unfold Instr.lookup
      simp only [Sem.run_bind,run_underlying hu,Result.andThen_ok,zo hb,Sem.run_pure,hck,e5]
    ·rename_i hm
     simp only [Option.some.injEq] at h
     subst h
     rcases hM.find (w:=w) hk hkey hkd hm with ⟨_,e2⟩ | ⟨j',y',x',e',e1,e2,e3,e4,e5,e6⟩
     ·refine ⟨_,?_,tup _ _ false hzd⟩
      unfold Instr.lookup
      simp only [Sem.run_bind,run_underlying hu,Result.andThen_ok,zo hb,Sem.run_pure,hck,e2,hzv]
     ·cases e1
    ·cases h
   ·cases h
  ·cases h
 ·cases h
theorem MR.push {ro:Ro} {es:List (D×D)} {E:Array MapEntry} (h:MR ro es E) {k v:D} {e:MapEntry} (hk:DR ro k e.key) (hv:DR ro v e.val):MR ro (es++[(k,v)]) (E.push e):=by
 refine ⟨by simp [h.size],fun i x e' hx he=>?_⟩
 have hs:=h.size
 rw [Array.getElem?_push] at he
 split at he
 ·rename_i hi
  simp only [Option.some.injEq] at he
  subst he
  rw [List.getElem?_append_right (by omega)] at hx
  have:i - es.length=0:=by omega
  rw [this] at hx
  simp only [List.getElem?_cons_zero,Option.some.injEq] at hx
  subst hx
  exact ⟨hk,hv⟩
 ·rename_i hi
  have hlt:i < E.size:=by
   rcases Nat.lt_or_ge i E.size with q | q
   ·exact q
   ·simp [Array.getElem?_eq_none q] at he
  rw [List.getElem?_append_left (by omega)] at hx
  exact h.get i x e' hx he
theorem MR.modify {ro:Ro} {es:List (D×D)} {E:Array MapEntry} (h:MR ro es E) {j:Nat} {k v:D} {kv vv:Value} (hk:DR ro k kv) (hv:DR ro v vv):
  MR ro (es.set j (k,v)) (E.modify j fun e=>{ e with key:=kv,val:=vv }):=by
 refine ⟨by simp [h.size],fun i x e' hx he=>?_⟩
 rw [Array.getElem?_modify] at he
 rw [List.getElem?_set] at hx
 by_cases hj:j=i
 ·subst hj
  rw [if_pos rfl] at he hx
  split at hx
  ·simp only [Option.some.injEq] at hx
   subst hx
   cases hE:E[j]? with
   | none=>rw [hE] at he;cases he
   | some e0=>
    rw [hE] at he
    simp only [Option.map_some,Option.some.injEq] at he
    subst he
    exact ⟨hk,hv⟩
  ·cases hx
 ·rw [if_neg hj] at he hx
  exact h.get i x e' hx he
theorem UW {ro:Ro} {μ:Mu} {w:World} {σ σ':List Ob} {x:AV} {v:Value} {y:D} (g:Good ro μ w (hp σ)) (hv:VR ro μ x v) (h:Df σ x=some (y,σ')):
  ∃ro',Good ro' μ w (hp σ')∧Ext ro μ w (hp σ) ro' μ w (hp σ')∧DR ro' y v∧σ'.length=σ.length:=by
 unfold Df at h
 split at h
 ·rename_i hva
  split at h
  ·rename_i es σ1 hfz
   simp only [Option.some.injEq,Prod.mk.injEq] at h
   obtain ⟨rfl,rfl⟩:=h
   have hne:x≠.undef:=by rintro rfl;simp [AV.isAgg] at hva
   have hcs:=uN hv hne
   obtain ⟨qK,g1,x1,l1,d1,a1,n1⟩:=nZ x.cells (vs:=v.cells.toList) g (by simpa using hcs.size) (fun i x v hx hv=>hcs.get i x v hx (by simpa using hv)) hfz
   refine ⟨qK,g1,x1,?_,n1⟩
   have asO:∃vs,v=.agg vs:=by
    cases x <;> simp [AV.isAgg] at hva
    ·rename_i d
     cases d <;> simp at hva
     have:=TK hv
     cases this
     exact ⟨_,rfl⟩
    ·cases hv
     exact ⟨_,rfl⟩
   obtain ⟨vs,rfl⟩:=asO
   have hs:=hcs.size
   simp only [Value.cells] at hs d1
   exact .agg es vs (by omega) (fun i y v hy hv=>d1 i y v hy (by simpa using hv))
  ·cases h
 ·obtain ⟨qK,g1,x1,d1,a1,n1⟩:=sQ g hv h
  exact ⟨qK,g1,x1,d1,n1⟩
theorem Iw {P:Program} {σ σ':List Ob} {t:TypeId} {m i c y:AV} {mv iv cv:Value} {ro:Ro} {μ:Mu} {w:World} (g:Good ro μ w (hp σ)) (hm:VR ro μ m mv) (hi:VR ro μ i iv) (hc:VR ro μ c cv)
  (h:wW P σ t m i c=some (y,σ')):∃w' ro',y=.tuple []∧(Instr.mapUpdate t mv iv cv).run P w=.ok () w'∧Good ro' μ w' (hp σ')∧Ext ro μ w (hp σ) ro' μ w' (hp σ')∧σ'.length=σ.length:=by
 unfold wW at h
 split at h
 ·rename_i td e id k ht
  obtain ⟨kt,hu,hk⟩:=Oi ht
  obtain ⟨L,rfl,hL⟩:=TI hm
  have ath:=TK hi
  split at h
  ·rename_i hkey
   split at h
   ·rename_i d σ1 hfz
    obtain ⟨qK,g1,x1,hd,n1⟩:=UW g hc hfz
    have hkd:=ath.mono x1.jC
    split at h
    ·rename_i es he
     split at h
     ·rename_i es' hput
      simp only [Option.some.injEq,Prod.mk.injEq] at h
      obtain ⟨rfl,rfl⟩:=h
      have w9:=g1.ob id
      rw [dR he] at w9
      obtain ⟨E,cl,hb,hM⟩:=w9 L hL
      have hblt:L.blk < w.heap.size:=by
       rcases Nat.lt_or_ge L.blk w.heap.size with q | q
       ·exact q
       ·simp [Array.getElem?_eq_none q] at hb
      have fin:∀(E':Array MapEntry) (cl':Nat),MR qK es' E'→(Instr.mapUpdate t (.map (some L.blk)) iv cv).run P w=.ok () { w with heap:=w.heap.setIfInBounds L.blk (.map E' cl') }→
        ∃w' ro',AV.tuple []=.tuple []∧(Instr.mapUpdate t (.map (some L.blk)) iv cv).run P w=.ok () w'∧Good ro' μ w' (hp (σ1.set id (.map es')))∧Ext ro μ w (hp σ) ro' μ w' (hp (σ1.set id (.map es')))∧(σ1.set id (.map es')).length=σ.length:=by
       intro E' cl' hM' hrun
       have:=g1.write (w':={ w with heap:=w.heap.setIfInBounds L.blk (.map E' cl') }) (n:=id) (o:=.map es') (L:=L) (by rw [dR he];rfl) hL
        (fun b hb'=>by simp only [Array.getElem?_setIfInBounds];rw [if_neg (fun e=>hb' e.symm)]) (by simp) rfl rfl rfl (by
         intro L' hL'
         rw [hL] at hL';cases hL'
         exact ⟨E',cl',by simp [hblt],hM'⟩)
       rw [← oW (cK he)] at this
       exact ⟨_,qK,rfl,hrun,this.1,x1.trans this.2,by simp [n1]⟩
      have hck:=fun b=>run_checkKey (b:=b) (w:=w) hk hkey hkd
      unfold aeg at hput
      split at hput
      ·rename_i j d' hf
       simp only [Option.some.injEq] at hput
       subst hput
       rcases hM.find (w:=w) hk hkey hkd hf with ⟨e1,_⟩ | ⟨j',y',x',e',e1,e2,e3,e4,e5,e6⟩
       ·cases e1
       ·simp only [Option.some.injEq,Prod.mk.injEq] at e1
        obtain ⟨rfl,rfl⟩:=e1
        refine fin _ cl (hM.modify hkd hd) ?_
        unfold Instr.mapUpdate
        simp only [Sem.run_bind,run_underlying hu,Result.andThen_ok,zo hb,hck,e5,e4,Option.map_some,Option.getD_some,Instr.keyThatStays,e6,if_true,Sem.run_pure,KL hb]
      ·rename_i hf
       simp only [Option.some.injEq] at hput
       subst hput
       rcases hM.find (w:=w) hk hkey hkd hf with ⟨_,e2⟩ | ⟨j',y',x',e',e1,e2,e3,e4,e5,e6⟩
       ·refine fin _ (cl+1) (hM.push (e:={ key:=iv,val:=cv,born:=cl }) hkd hd) ?_
        unfold Instr.mapUpdate
        simp only [Sem.run_bind,run_underlying hu,Result.andThen_ok,zo hb,hck,e2,Sem.run_pure,KL hb]
       ·cases e1
      ·cases hput
     ·cases h
    ·cases h
   ·cases h
  ·cases h
 ·cases h
end Lv
/- Other numbers for objects; calls. -/
namespace Lv
open Go
variable [bJ]
theorem sJ {g:Nat→Option Nat}:∀{cs ds:List AV},AY g cs=some ds→ds.length=cs.length
 | [],ds,h=>by simp only [AY,Option.some.injEq] at h;subst h;rfl
 | c::cs,ds,h=>by
  simp only [AY] at h
  split at h
  ·rename_i y ys h1 h2
   simp only [Option.some.injEq] at h
   subst h
   simp [sJ h2]
  ·cases h
theorem Cx {g:Nat→Option Nat}:∀{cs ds:List AV},AY g cs=some ds→∀(i:Nat) (y:AV),ds[i]?=some y→∃x,cs[i]?=some x∧x.re g=some y
 | [],ds,h,i,y,hy=>by simp only [AY,Option.some.injEq] at h;subst h;simp at hy
 | c::cs,ds,h,i,y,hy=>by
  simp only [AY] at h
  split at h
  ·rename_i z zs h1 h2
   simp only [Option.some.injEq] at h
   subst h
   cases i with
   | zero=>simp at hy;subst hy;exact ⟨c,rfl,h1⟩
   | succ i=>simpa using Cx h2 i y (by simpa using hy)
  ·cases h
theorem OI {ro:Ro} {μ μ':Mu} {g:Nat→Option Nat} (hg:∀i j,g i=some j→μ' j=μ i) {x:AV} {v:Value} (h:VR ro μ x v):∀y,x.re g=some y→VR ro μ' y v:=by
 induction h with
 | undef v=>intro y hy;simp only [AV.re,Option.some.injEq] at hy;subst hy;exact .undef v
 | d x v h=>intro y hy;simp only [AV.re,Option.some.injEq] at hy;subst hy;exact .d x v h
 | ref id idx off L h=>
  intro y hy
  simp only [AV.re] at hy
  split at hy
  ·rename_i j hj
   simp only [Option.some.injEq] at hy;subst hy
   exact .ref j idx off L (by rw [hg id j hj,h])
  ·cases hy
 | rop cs b o g' h1 h2=>intro y hy;simp only [AV.re,Option.some.injEq] at hy;subst hy;exact .rop cs b o g' h1 h2
 | slc id sz off len cap L c a h hsz hl hc ha=>
  intro y hy
  simp only [AV.re] at hy
  split at hy
  ·rename_i j hj
   simp only [Option.some.injEq] at hy;subst hy
   exact .slc j sz off len cap L c a (by rw [hg id j hj,h]) hsz hl hc ha
  ·cases hy
 | mH id sz off=>
  intro y hy
  simp only [AV.re] at hy
  split at hy
  ·simp only [Option.some.injEq] at hy;subst hy
   exact .mH _ _ _
  ·cases hy
 | agg cs vs hs _ ih=>
  intro y hy
  simp only [AV.re] at hy
  split at hy
  ·rename_i ds hd
   simp only [Option.some.injEq] at hy;subst hy
   refine .agg ds vs (by rw [hs,sJ hd]) (fun i z v hz hv=>?_)
   obtain ⟨x,hx,hr⟩:=Cx hd i z hz
   exact ih i x v hx hv z hr
  ·cases hy
 | tuple cs vs hs _ ih=>
  intro y hy
  simp only [AV.re] at hy
  split at hy
  ·rename_i ds hd
   simp only [Option.some.injEq] at hy;subst hy
   refine .tuple ds vs (by rw [hs,sJ hd]) (fun i z v hz hv=>?_)
   obtain ⟨x,hx,hr⟩:=Cx hd i z hz
   exact ih i x v hx hv z hr
  ·cases hy
 | fn f cs ds vs us hs ht _ _ ih ih'=>
  intro y hy
  simp only [AV.re] at hy
  split at hy
  ·rename_i cs' ds' hc hd
   simp only [Option.some.injEq] at hy;subst hy
   refine .fn f cs' ds' vs us (by rw [hs,sJ hc]) (by rw [ht,sJ hd]) (fun i z v hz hv=>?_) (fun i z v hz hv=>?_)
   ·obtain ⟨x,hx,hr⟩:=Cx hc i z hz
    exact ih i x v hx hv z hr
   ·obtain ⟨x,hx,hr⟩:=Cx hd i z hz
    exact ih' i x v hx hv z hr
  ·cases hy
 | uW id L h=>
  intro y hy
  simp only [AV.re] at hy
  split at hy
  ·rename_i j hj
   simp only [Option.some.injEq] at hy;subst hy
   exact .uW j L (by rw [hg id j hj,h])
  ·cases hy
 | iface t x v _ ih=>
  intro y hy
  simp only [AV.re] at hy
  split at hy
  ·rename_i z hz
   simp only [Option.some.injEq] at hy;subst hy
   exact .iface t z v (ih z hz)
  ·cases hy
theorem acM {ro:Ro} {μ μ':Mu} {g:Nat→Option Nat} (hg:∀i j,g i=some j→μ' j=μ i) {xs ys:List AV} {vs:Array Value} (h:oo ro μ xs vs) (hy:AY g xs=some ys):oo ro μ' ys vs:=
 ⟨by rw [h.size,sJ hy],fun i y v hi hv=>let ⟨x,hx,hr⟩:=Cx hy i y hi;OI hg (h.get i x v hx hv) y hr⟩
theorem NU (g:Nat→Option Nat):∀ds:List D,AY g (ds.map AV.d)=some (ds.map AV.d)
 | []=>rfl
 | d::ds=>by simp [AY,AV.re,NU g ds]
theorem aav {g:Nat→Option Nat} {x y:AV} (h:x.re g=some y):AY g x.cells=some y.cells:=by
  cases x
  case d z=>
    simp only [AV.re,Option.some.injEq] at h
    subst h
    cases z <;> first | exact NU g _ | simp [AV.cells,AY,AV.re]
  case agg cs=>
    simp only [AV.re] at h
    split at h
    · rename_i ds hd
      simp only [Option.some.injEq] at h;subst h
      simpa [AV.cells] using hd
    · cases h
  all_goals
    have h':=h
    simp only [AV.re] at h
    first
      | (split at h
         · simp only [Option.some.injEq] at h;subst h;simp only [AV.cells,AY,h']
         · cases h)
      | (simp only [Option.some.injEq] at h;subst h;simp only [AV.cells,AY,h'])
theorem aoV {ro:Ro} {μ μ':Mu} {g:Nat→Option Nat} (hg:∀i j,g i=some j→μ' j=μ i) {w:World} {i j:Nat} (hij:μ' j=μ i) {o o':Ob} (h:OR ro μ w i o) (ho:o.re g=some o'):OR ro μ' w j o':=by
 cases o with
 | dead=>simp only [Ob.re,Option.some.injEq] at ho;subst ho;trivial
 | box x=>
  simp only [Ob.re] at ho
  split at ho
  ·rename_i y hy
   simp only [Option.some.injEq] at ho;subst ho
   intro L hL
   rw [hij] at hL
   obtain ⟨C,T,fz,h0,e,hf,hv⟩:=h L hL
   exact ⟨C,T,fz,h0,e,hf,acM hg hv (aav hy)⟩
  ·cases ho
 | row sz xs wr=>
  simp only [Ob.re,Option.some.injEq] at ho;subst ho
  intro L hL
  rw [hij] at hL
  exact h L hL
 | map es=>
  simp only [Ob.re,Option.some.injEq] at ho;subst ho
  intro L hL
  rw [hij] at hL
  exact h L hL
theorem Ob.K4 {g:Nat→Option Nat} {o o':Ob} (h:o.re g=some o'):o'.wr=o.wr∧o'.live=o.live:=by
 cases o with
 | dead=>simp only [Ob.re,Option.some.injEq] at h;subst h;exact ⟨rfl,rfl⟩
 | box x=>
  simp only [Ob.re] at h
  split at h
  ·simp only [Option.some.injEq] at h;subst h;exact ⟨rfl,rfl⟩
  ·cases h
 | row sz xs wr=>simp only [Ob.re,Option.some.injEq] at h;subst h;exact ⟨rfl,rfl⟩
 | map es=>simp only [Ob.re,Option.some.injEq] at h;subst h;exact ⟨rfl,rfl⟩
theorem Good.re {ro:Ro} {μ μ':Mu} {w:World} {H K:Hp} {g:Nat→Option Nat} (h:Good ro μ w H) (hg:∀i j,g i=some j→μ' j=μ i)
  (hK:∀j,(K j).live=true→∃i,g i=some j∧(H i).re g=some (K j)):Good ro μ' w K:=by
 refine ⟨h.qJ,fun j=>?_,fun j j' L L' h1 h2 h3 h4 h5=>?_,fun b hb a ha=>?_,h.base⟩
 ·by_cases hl:(K j).live=true
  ·obtain ⟨i,h1,h2⟩:=hK j hl
   exact aoV hg (hg i j h1) (h.ob i) h2
  ·have:K j=.dead:=by cases e:K j <;> simp [e,Ob.live] at hl ⊢
   rw [this];trivial
 ·obtain ⟨i,k1,k2⟩:=hK j (Ob.gT h1)
  obtain ⟨i',k3,k4⟩:=hK j' h2
  rw [hg i j k1] at h3
  rw [hg i' j' k3] at h4
  have:=h.apart i i' L L' (by rw [← (Ob.K4 k2).1];exact h1) (by rw [← (Ob.K4 k4).2];exact h2) h3 h4 h5
  subst this
  rw [k1] at k3
  exact Option.some.inj k3
 ·obtain ⟨j,L,h1,h2,h3⟩:=hb
  obtain ⟨i,k1,k2⟩:=hK j (Ob.gT h1)
  rw [hg i j k1] at h2
  exact h.gu b ⟨i,L,by rw [← (Ob.K4 k2).1];exact h1,h2,h3⟩ a ha
theorem WB.re {μ μ':Mu} {H K:Hp} {g:Nat→Option Nat} {b:Nat} (hb:WB K μ' b) (hg:∀i j,g i=some j→μ' j=μ i) (hK:∀j,(K j).live=true→∃i,g i=some j∧(H i).re g=some (K j)):WB H μ b:=by
 obtain ⟨j,L,h1,h2,h3⟩:=hb
 obtain ⟨i,k1,k2⟩:=hK j (Ob.gT h1)
 rw [hg i j k1] at h2
 exact ⟨i,L,by rw [← (Ob.K4 k2).1];exact h1,h2,h3⟩
theorem LB.re {μ μ':Mu} {H K:Hp} {g:Nat→Option Nat} {b:Nat} (hb:LB K μ' b) (hg:∀i j,g i=some j→μ' j=μ i) (hK:∀j,(K j).live=true→∃i,g i=some j∧(H i).re g=some (K j)):LB H μ b:=by
 obtain ⟨j,L,h1,h2,h3⟩:=hb
 obtain ⟨i,k1,k2⟩:=hK j h1
 rw [hg i j k1] at h2
 exact ⟨i,L,by rw [← (Ob.K4 k2).2];exact h1,h2,h3⟩
structure yx (ro:Ro) (μ:Mu) (w:World) (H:Hp) (ro':Ro) (μ':Mu) (w':World) (H':Hp):Prop where
 jC:∀a v,ro a=some v→ro' a=some v
 kr:∀a v,ro' a=some v→ro a=some v∨w.heap.size≤a.block∨WB H μ a.block
 jE:∀b,WB H' μ' b→w.heap.size≤b∨WB H μ b
 lJ:∀b,LB H' μ' b→w.heap.size≤b∨LB H μ b
 frame:∀b,b < w.heap.size→¬WB H μ b→w'.heap[b]?=w.heap[b]?
 size:w.heap.size≤w'.heap.size
 os:w'.os=w.os
 tape:w'.tape=w.tape
 output:w'.output=w.output
theorem Ext.Ri {ro ro':Ro} {μ μ':Mu} {w w':World} {H H':Hp} (x:Ext ro μ w H ro' μ' w' H'):yx ro μ w H ro' μ' w' H':=
 ⟨x.jC,x.kr,x.jE,x.lJ,x.frame,x.size,x.os,x.tape,x.output⟩
theorem yx.trans {ro qK Rx:Ro} {μ y9 MK:Mu} {w w1 w2:World} {H H1 H2:Hp} (h:yx ro μ w H qK y9 w1 H1) (k:yx qK y9 w1 H1 Rx MK w2 H2):yx ro μ w H Rx MK w2 H2 where
 jC a v hi:=k.jC _ _ (h.jC _ _ hi)
 kr a v hi:=by
  rcases k.kr a v hi with h1 | h1 | h1
  ·exact h.kr a v h1
  ·exact .inr (.inl (Nat.le_trans h.size h1))
  ·exact .inr (h.jE _ h1)
 jE b hb:=by
  rcases k.jE b hb with h1 | h1
  ·exact .inl (Nat.le_trans h.size h1)
  ·exact h.jE _ h1
 lJ b hb:=by
  rcases k.lJ b hb with h1 | h1
  ·exact .inl (Nat.le_trans h.size h1)
  ·exact h.lJ _ h1
 frame b hb hn:=by
  rw [k.frame b (Nat.lt_of_lt_of_le hb h.size) (fun hw=>(h.jE b hw).elim (fun x=>by omega) hn)]
  exact h.frame b hb hn
 size:=Nat.le_trans h.size k.size
 os:=k.os.trans h.os
 tape:=k.tape.trans h.tape
 output:=k.output.trans h.output
theorem yx.re {ro:Ro} {μ μ':Mu} {w:World} {H K:Hp} {g:Nat→Option Nat} (hg:∀i j,g i=some j→μ' j=μ i)
  (hK:∀j,(K j).live=true→∃i,g i=some j∧(H i).re g=some (K j)):yx ro μ w H ro μ' w K:=
 ⟨fun _ _ h=>h,fun _ _ h=>.inl h,fun _ hb=>.inr (hb.re hg hK),fun _ hb=>.inr (hb.re hg hK),fun _ _ _=>rfl,Nat.le_refl _,rfl,rfl,rfl⟩
theorem xw (σ:List Ob):∀(n:Nat) (todo seen:List Nat),seen.Nodup→(reach σ n todo seen).Nodup
 | 0,_,seen,h=>h
 | n+1,[],seen,h=>h
 | n+1,i::r,seen,h=>by
  simp only [reach]
  split
  ·exact xw σ n r seen h
  ·rename_i hc
   have hi:i∉seen:=by simpa using hc
   have h2:(seen++[i]).Nodup:=by
    rw [List.nodup_append]
    exact ⟨h,by simp,fun a ha b hb=>by simp at hb;subst hb;rintro rfl;exact hi ha⟩
   split
   ·exact xw σ n _ _ h2
   ·exact xw σ n _ _ h2
theorem D5 {σ:List Ob} {ι:List Nat} {g:Nat→Option Nat}:∀{l:List Nat} {os:List Ob},sub σ ι g l=some os→os.length=l.length
 | [],os,h=>by simp only [sub,Option.some.injEq] at h;subst h;rfl
 | i::l,os,h=>by
  simp only [sub] at h
  split at h
  ·split at h
   ·rename_i o' os' h1 h2
    simp only [Option.some.injEq] at h;subst h
    simp [D5 h2]
   ·cases h
  ·cases h
theorem Pb {σ:List Ob} {ι:List Nat} {g:Nat→Option Nat}:∀{l:List Nat} {os:List Ob},sub σ ι g l=some os→∀(k:Nat) (i:Nat),l[k]?=some i→∃o o',σ[i]?=some o∧os[k]?=some o'∧o.re g=some o'
 | [],os,h,k,i,hk=>by simp at hk
 | j::l,os,h,k,i,hk=>by
  simp only [sub] at h
  split at h
  ·rename_i o ho
   split at h
   ·rename_i o' os' h1 h2
    simp only [Option.some.injEq] at h;subst h
    cases k with
    | zero=>simp at hk;subst hk;exact ⟨o,o',ho,rfl,h1⟩
    | succ k=>simpa using Pb h2 k i (by simpa using hk)
   ·cases h
  ·cases h
theorem x9 {ι:List Nat} {i j:Nat} (h:fD ι i=some j):ι[j]?=some i:=by
 unfold fD at h
 have:=List.idxOf?_eq_some_iff.1 h
 obtain ⟨hj,hi,_⟩:=this
 rw [List.getElem?_eq_getElem hj]
 simpa using hi
theorem R5 {ι:List Nat} (hn:ι.Nodup) {i j:Nat} (h:ι[j]?=some i):fD ι i=some j:=by
 unfold fD
 rw [List.idxOf?_eq_some_iff]
 have hj:=cK h
 refine ⟨hj,?_,fun k hk=>?_⟩
 ·rw [List.getElem?_eq_getElem hj] at h
  simpa using h
 ·intro e
  have hk':k < ι.length:=by omega
  have e2:ι[k]=ι[j]:=by
   rw [List.getElem?_eq_getElem hj] at h
   have:=Option.some.inj h
   rw [this]
   simpa using e
  exact (List.pairwise_iff_getElem.1 hn) k j hk' hj (by omega) e2
def Ep (μ:Mu) (ι:List Nat):Mu:=fun j=>match ι[j]? with
 | some i=>μ i
 | none=>none
theorem uG {μ:Mu} {ι:List Nat}:∀i j,fD ι i=some j→Ep μ ι j=μ i:=by
 intro i j h
 simp only [Ep,x9 h]
theorem Cj {σ os:List Ob} {roots ι:List Nat} (h:canon σ roots=some (ι,os)):ι.Nodup∧os.length=ι.length∧
  (∀(k i:Nat),ι[k]?=some i→∃o o',σ[i]?=some o∧os[k]?=some o'∧o.re (fD ι)=some o')∧
  (∀j,(hp os j).live=true→∃i,fD ι i=some j∧(hp σ i).re (fD ι)=some (hp os j)):=by
 unfold canon at h
 simp only at h
 split at h
 ·rename_i os' hs
  simp only [Option.some.injEq,Prod.mk.injEq] at h
  obtain ⟨rfl,rfl⟩:=h
  have hn:=xw σ 100000 roots [] List.nodup_nil
  refine ⟨hn,D5 hs,fun k i hk=>Pb hs k i hk,fun j hl=>?_⟩
  have hj:j < os'.length:=by
   rcases Nat.lt_or_ge j os'.length with k | k
   ·exact k
   ·rw [qg k] at hl;simp [Ob.live] at hl
  rw [D5 hs] at hj
  obtain ⟨o,o',h1,h2,h3⟩:=Pb hs j _ (List.getElem?_eq_getElem hj)
  refine ⟨_,R5 hn (List.getElem?_eq_getElem hj),?_⟩
  rw [dR h1,dR h2]
  exact h3
 ·cases h
end Lv
/- Calls. -/
namespace Lv
open Go
variable [bJ]
def ET (P:Program) (call:Callee):Prop:=∀(f:FuncId) (args:List AV) (σ:List Ob) (r:AV) (σ':List Ob),call f args σ=some (r,σ')→
 ∀(ro:Ro) (μ:Mu) (w:World) (fG:Array Value),Good ro μ w (hp σ)→(∀id L,μ id=some L→id < σ.length)→oo ro μ args fG→
  Calls P f fG w (fun e w'=>∃v ro' μ',e=.returned v∧VR ro' μ' r v∧Good ro' μ' w' (hp σ')∧yx ro μ w (hp σ) ro' μ' w' (hp σ')∧(∀id L,μ' id=some L→id < σ'.length)∧(∀id,id < σ.length→μ' id=μ id))
theorem gJ:∀(ι:List Nat) (os σ:List Ob),(jO σ ι os).length=σ.length
 | [],os,σ=>by cases os <;> rfl
 | i::ι,[],σ=>rfl
 | i::ι,o::os,σ=>by simp [jO,gJ ι os]
theorem vX:∀(ι:List Nat) (os σ:List Ob) (i:Nat),i∉ι→(jO σ ι os)[i]?=σ[i]?
 | [],os,σ,i,_=>by cases os <;> rfl
 | j::ι,[],σ,i,_=>rfl
 | j::ι,o::os,σ,i,h=>by
  simp only [List.mem_cons,not_or] at h
  simp only [jO]
  rw [vX ι os _ i h.2,List.getElem?_set,if_neg (fun e=>h.1 e.symm)]
theorem Cw:∀(ι:List Nat) (os σ:List Ob) (k i:Nat) (o:Ob),ι.Nodup→ι[k]?=some i→os[k]?=some o→i < σ.length→(jO σ ι os)[i]?=some o
 | [],os,σ,k,i,o,_,h,_,_=>by simp at h
 | j::ι,[],σ,k,i,o,_,_,h,_=>by simp at h
 | j::ι,p::os,σ,k,i,o,hn,h1,h2,hi=>by
  rw [List.nodup_cons] at hn
  simp only [jO]
  cases k with
  | zero=>
   simp at h1 h2
   subst h1;subst h2
   rw [vX ι os _ _ hn.1,List.getElem?_set]
   simp [hi]
  | succ k=>exact Cw ι os _ k i o hn.2 (by simpa using h1) (by simpa using h2) (by simpa using hi)
theorem zD {g:Nat→Option Nat}:∀{l os:List Ob},mK g l=some os→os.length=l.length
 | [],os,h=>by simp only [mK,Option.some.injEq] at h;subst h;rfl
 | o::l,os,h=>by
  simp only [mK] at h
  split at h
  ·rename_i y ys h1 h2
   simp only [Option.some.injEq] at h;subst h
   simp [zD h2]
  ·cases h
theorem yL {g:Nat→Option Nat}:∀{l os:List Ob},mK g l=some os→∀(k:Nat) (o':Ob),os[k]?=some o'→∃o,l[k]?=some o∧o.re g=some o'
 | [],os,h,k,o',hk=>by simp only [mK,Option.some.injEq] at h;subst h;simp at hk
 | o::l,os,h,k,o',hk=>by
  simp only [mK] at h
  split at h
  ·rename_i y ys h1 h2
   simp only [Option.some.injEq] at h;subst h
   cases k with
   | zero=>simp at hk;subst hk;exact ⟨o,rfl,h1⟩
   | succ k=>simpa using yL h2 k o' (by simpa using hk)
  ·cases h
theorem vJ {P:Program} {call:Callee} (hc:ET P call) {f:FuncId} {args:List AV} {σ σ2:List Ob} {r:AV} (h:oh call f args σ=some (r,σ2)) {ro:Ro} {μ:Mu} {w:World} {fG:Array Value}
  (g:Good ro μ w (hp σ)) (hfree:∀id,σ.length≤id→id < σ2.length→μ id=none) (ha:oo ro μ args fG):
  σ.length≤σ2.length∧Calls P f fG w (fun e w'=>∃v ro' μ',e=.returned v∧VR ro' μ' r v∧Good ro' μ' w' (hp σ2)∧Ext ro μ w (hp σ) ro' μ' w' (hp σ2)∧(∀id,μ' id≠μ id→σ.length≤id∧id < σ2.length)):=by
 unfold oh at h
 split at h
 ·rename_i ι lF hcan
  split at h
  ·rename_i args' hargs
   split at h
   ·rename_i r' σ' hcall
    split at h
    ·rename_i r2 os hr hos
     split at h
     ·rename_i hlen
      simp only [Option.some.injEq,Prod.mk.injEq] at h
      obtain ⟨rfl,rfl⟩:=h
      obtain ⟨hnd,alr,hsub,hK⟩:=Cj hcan
      have amy:=zD hos
      have agz:(jO σ ι (os.take ι.length)++os.drop ι.length).length=σ.length+(σ'.length - ι.length):=by simp [gJ,amy]
      have hι:∀(k i:Nat),ι[k]?=some i→i < σ.length:=by
       intro k i hk
       obtain ⟨o,o',h1,_⟩:=hsub k i hk
       exact cK h1
      refine ⟨by rw [agz];omega,?_⟩
      -- the callee's world
      have gc:Good ro (Ep μ ι) w (hp lF):=g.re uG hK
      have hdom:∀id L,Ep μ ι id=some L→id < lF.length:=by
       intro id L hL
       simp only [Ep] at hL
       split at hL
       ·rename_i i hi;rw [alr];exact cK hi
       ·cases hL
      refine (hc f args' lF r' σ' hcall ro (Ep μ ι) w fG gc hdom (acM uG ha hargs)).mono ?_
      rintro e w' ⟨v,ro',y9,rfl,hv,g1,x1,hd1,hk1⟩
      -- back
      let σ2:=jO σ ι (os.take ι.length)++os.drop ι.length
      have atr:σ2.length=σ.length+(σ'.length - ι.length):=agz
      let MK:Mu:=fun id=>if σ.length≤id∧id < σ2.length then y9 (ι.length+(id - σ.length)) else μ id
      have hlen':ι.length≤σ'.length:=by rw [← amy];exact hlen
      have hg:∀j id,jv ι σ.length σ'.length j=some id→MK id=y9 j:=by
       intro j id hj
       simp only [jv] at hj
       split at hj
       ·rename_i hjm
        have hid:=hι j id hj
        simp only [MK]
        rw [if_neg (by omega),hk1 j (by rw [alr];exact hjm)]
        simp only [Ep,hj]
       ·split at hj
        ·simp only [Option.some.injEq] at hj
         subst hj
         simp only [MK]
         rw [if_pos (by omega)]
         congr 1
         omega
        ·cases hj
      let D:Nat→Prop:=fun id=>id∈ι∨(σ.length≤id∧id < σ2.length)
      have ave:DecidablePred D:=fun id=>inferInstanceAs (Decidable (_∨_))
      let H1:Hp:=fun id=>if id∈ι then hp σ id else .dead
      let H2:Hp:=fun id=>if D id then hp σ2 id else .dead
      have hup:∀i L,μ i=some L→MK i=some L:=by
       intro i L hL
       simp only [MK]
       split
       ·rename_i hi
        rw [hfree i hi.1 hi.2] at hL;cases hL
       ·exact hL
      have aek:∀k i,ι[k]?=some i→hp σ2 i=hp os k:=by
       intro k i hk
       have hi:=hι k i hk
       have hkl:=cK hk
       have hko:k < os.length:=by omega
       have e1:(os.take ι.length)[k]?=some os[k]:=by rw [List.getElem?_take,if_pos hkl,List.getElem?_eq_getElem hko]
       have e2:=Cw ι (os.take ι.length) σ k i _ hnd hk e1 hi
       have e3:σ2[i]?=some os[k]:=by
        simp only [σ2]
        rw [List.getElem?_append_left (by rw [gJ];exact hi),e2]
       rw [dR e3,dR (List.getElem?_eq_getElem hko)]
      have abP:∀id,σ.length≤id→hp σ2 id=hp os (ι.length+(id - σ.length)):=by
       intro id hid
       simp only [hp,σ2]
       rw [List.getElem?_append_right (by rw [gJ];exact hid),List.getElem?_drop,gJ]
      have abO:∀id,id < σ.length→id∉ι→hp σ2 id=hp σ id:=by
       intro id hid hn
       simp only [hp,σ2]
       rw [List.getElem?_append_left (by rw [gJ];exact hid),vX ι _ σ id hn]
      have amB:∀j,(hp os j).live=true→j < σ'.length∧(hp σ' j).re (jv ι σ.length σ'.length)=some (hp os j):=by
       intro j hl
       have hj:j < os.length:=by
        rcases Nat.lt_or_ge j os.length with q | q
        ·exact q
        ·rw [qg q] at hl;simp [Ob.live] at hl
       obtain ⟨o,h1,h2⟩:=yL hos j _ (List.getElem?_eq_getElem hj)
       refine ⟨by omega,?_⟩
       rw [dR h1,dR (List.getElem?_eq_getElem hj)]
       exact h2
      have hK2:∀id,(H2 id).live=true→∃j,jv ι σ.length σ'.length j=some id∧(hp σ' j).re (jv ι σ.length σ'.length)=some (H2 id):=by
       intro id hl
       simp only [H2] at hl ⊢
       by_cases hD:D id
       ·rw [if_pos hD] at hl ⊢
        rcases hD with hin | hnew
        ·obtain ⟨k,hk⟩:=List.getElem?_of_mem hin
         rw [aek k id hk] at hl ⊢
         refine ⟨k,?_,(amB k hl).2⟩
         simp only [jv]
         rw [if_pos (cK hk),hk]
        ·rw [abP id hnew.1] at hl ⊢
         refine ⟨ι.length+(id - σ.length),?_,(amB _ hl).2⟩
         simp only [jv]
         rw [if_neg (by omega),if_pos (by omega)]
         congr 1
         omega
       ·rw [if_neg hD] at hl;simp [Ob.live] at hl
      have g2:Good ro' MK w' H2:=g1.re hg hK2
      -- what the callee might write is what the caller lent
      have ahL:∀b,WB (hp lF) (Ep μ ι) b→WB H1 μ b:=by
       rintro b ⟨j,L,q1,q2,q3⟩
       obtain ⟨i,k1,k2⟩:=hK j (Ob.gT q1)
       rw [uG i j k1] at q2
       refine ⟨i,L,?_,q2,q3⟩
       have:i∈ι:=List.mem_of_getElem? (x9 k1)
       simp only [H1,this,if_true]
       rw [← (Ob.K4 k2).1];exact q1
      have atg:∀b,LB (hp lF) (Ep μ ι) b→LB H1 μ b:=by
       rintro b ⟨j,L,q1,q2,q3⟩
       obtain ⟨i,k1,k2⟩:=hK j q1
       rw [uG i j k1] at q2
       refine ⟨i,L,?_,q2,q3⟩
       have:i∈ι:=List.mem_of_getElem? (x9 k1)
       simp only [H1,this,if_true]
       rw [← (Ob.K4 k2).2];exact q1
      have x2:Ext ro μ w H1 ro' MK w' H2:=by
       refine ⟨hup,x1.jC,fun a v ha=>?_,fun b hb=>?_,fun b hb=>?_,fun b hb hn=>x1.frame b hb (fun q=>hn (ahL b q)),x1.size,x1.os,x1.tape,x1.output⟩
       ·rcases x1.kr a v ha with q | q | q
        ·exact .inl q
        ·exact .inr (.inl q)
        ·exact .inr (.inr (ahL _ q))
       ·exact (x1.jE b (hb.re hg hK2)).imp (fun z=>z) (ahL b)
       ·exact (x1.lJ b (hb.re hg hK2)).imp (fun z=>z) (atg b)
      have alp:∀id,H1 id=hp σ id∨H1 id=.dead:=by
       intro id
       simp only [H1]
       split
       ·exact .inl rfl
       ·exact .inr rfl
      have hD1:∀id,¬D id→H1 id=.dead∧H2 id=.dead∧MK id=μ id:=by
       intro id hd
       refine ⟨?_,?_,?_⟩
       ·simp only [H1];rw [if_neg (fun q=>hd (.inl q))]
       ·simp only [H2];rw [if_neg hd]
       ·simp only [MK];rw [if_neg (fun q=>hd (.inr q))]
      obtain ⟨g3,x3⟩:=g.merge D alp hD1 g2 x2
      have heq:(fun id=>if D id then H2 id else hp σ id)=hp σ2:=by
       funext id
       by_cases hD:D id
       ·rw [if_pos hD];simp only [H2];rw [if_pos hD]
       ·rw [if_neg hD]
        rcases Nat.lt_or_ge id σ.length with q | q
        ·exact (abO id q (fun hin=>hD (.inl hin))).symm
        ·have q2:σ2.length≤id:=by
          rcases Nat.lt_or_ge id σ2.length with q3 | q3
          ·exact absurd (.inr ⟨q,q3⟩) hD
          ·exact q3
         rw [qg q,qg q2]
      rw [heq] at g3 x3
      refine ⟨v,ro',MK,rfl,OI hg hv _ hr,g3,x3,fun id hne=>?_⟩
      simp only [MK] at hne
      split at hne
      ·rename_i hi;exact hi
      ·exact absurd rfl hne
     ·cases h
    ·cases h
   ·cases h
  ·cases h
 ·cases h
end Lv
/- One operation. -/
namespace Lv
open Go
variable [bJ]
theorem bS {ro:Ro} {μ:Mu} {env:List AV} {a:Act} (he:oo ro μ env a.tmps) {x:Operand} {y:AV} (h:oM env x=some y):VR ro μ y (a.eval x):=by
 unfold oM at h
 split at h
 ·rename_i t
  have hlt:t < a.tmps.size:=by rw [he.size];exact cK h
  refine he.get t y _ h ?_
  simp [Act.eval,Array.getD,hlt]
 ·split at h
  ·rename_i v z hz
   simp only [Option.some.injEq] at h;subst h
   exact TH hz
  ·cases h
 ·simp only [Option.some.injEq] at h;subst h
  exact .fn _ [] [] #[] #[] rfl rfl (fun i x v hx=>by simp at hx) (fun i x v hx=>by simp at hx)
 ·cases h
theorem jr {ro:Ro} {μ:Mu} {env:List AV} {a:Act} (he:oo ro μ env a.tmps):∀{xs:List Operand} {ys:List AV},AL env xs=some ys→oo ro μ ys (xs.map a.eval).toArray
 | [],ys,h=>by simp only [AL,Option.some.injEq] at h;subst h;exact ⟨rfl,fun i x v hx=>by simp at hx⟩
 | x::xs,ys,h=>by
  simp only [AL] at h
  split at h
  ·rename_i v vs h1 h2
   simp only [Option.some.injEq] at h;subst h
   have ih:=jr he h2
   refine ⟨by have:=ih.size;simp at this ⊢;exact this,fun i y u hy hu=>?_⟩
   cases i with
   | zero=>simp at hy hu;subst hy;subst hu;exact bS he h1
   | succ i=>exact ih.get i y u (by simpa using hy) (by simpa using hu)
  ·cases h
theorem xX {ro:Ro} {μ:Mu} {env:List AV} {a:Act} (he:oo ro μ env a.tmps):∀{xs:List (Nat×Operand)} {ys:List (Nat×AV)},partsOf env xs=some ys→PRs ro μ ys (xs.map fun p=>(p.1,a.eval p.2))
 | [],ys,h=>by simp only [partsOf,Option.some.injEq] at h;subst h;exact ⟨rfl,fun k p q hp=>by simp at hp,fun k p q hp=>by simp at hp⟩
 | (i,x)::xs,ys,h=>by
  simp only [partsOf] at h
  split at h
  ·rename_i v vs h1 h2
   simp only [Option.some.injEq] at h;subst h
   have ih:=xX he h2
   refine ⟨by have:=ih.size;simp at this ⊢;exact this,fun k p q hp hq=>?_,fun k p q hp hq=>?_⟩
   ·cases k with
    | zero=>simp at hp hq;subst hp;subst hq;rfl
    | succ k=>exact ih.fst k p q (by simpa using hp) (by simpa using hq)
   ·cases k with
    | zero=>simp at hp hq;subst hp;subst hq;exact bS he h1
    | succ k=>exact ih.snd k p q (by simpa using hp) (by simpa using hq)
  ·cases h
theorem xD {ro:Ro} {μ:Mu} {env:List AV} {a:Act} (he:oo ro μ env a.tmps) {x:Option Operand} {y:Option AV} (h:yK env x=some y):
  (∀z,y=some z→∃u,x.map a.eval=some u∧VR ro μ z u)∧(y=none→x.map a.eval=none):=by
 unfold yK at h
 split at h
 ·simp only [Option.some.injEq] at h;subst h;exact ⟨fun z hz=>(by cases hz),fun _=>rfl⟩
 ·split at h
  ·rename_i x v hv
   simp only [Option.some.injEq] at h;subst h
   exact ⟨fun z hz=>⟨_,rfl,by cases hz;exact bS he hv⟩,fun hz=>(by cases hz)⟩
  ·cases h
theorem Vm {P:Program} {t ty:TypeId} {at_:Array TypeId} {x r:AV} {ro:Ro} {μ:Mu} {w:World} {v:Value} (h0:at_[0]?=some t) (hx:VR ro μ x v) (h:Mq P t x=some r):
  ∃u,(Builtin.len_ at_ ty #[v]).run P w=.ok u w∧VR ro μ r u:=by
 unfold Mq at h
 split at h
 ·split at h
  ·rename_i hu
   simp only [Option.some.injEq] at h;subst h
   rcases o7 hx with ⟨L,c,a,rfl,_⟩ | ⟨rfl,_,rfl⟩ <;> exact ⟨_,by simp [Builtin.len_,h0,run_underlying hu,goInt],.d _ _ (.int _ _)⟩
  ·cases h
 ·split at h
  ·rename_i hu
   simp only [Option.some.injEq] at h;subst h
   rcases zW hx with ⟨a,cap,g,rfl,_⟩ | ⟨rfl,rfl⟩ <;> exact ⟨_,by simp [Builtin.len_,h0,run_underlying hu,goInt],.d _ _ (.int _ _)⟩
  ·cases h
 ·split at h
  ·rename_i hu
   simp only [Option.some.injEq] at h;subst h
   obtain rfl:=gP hx rfl
   exact ⟨_,by simp [Builtin.len_,h0,run_underlying hu,goInt],.d _ _ (.int _ _)⟩
  ·cases h
 ·split at h
  ·rename_i hu
   simp only [Option.some.injEq] at h;subst h
   obtain rfl:=gP hx rfl
   exact ⟨_,by simp [Builtin.len_,h0,run_underlying hu,goInt],.d _ _ (.int _ _)⟩
  ·cases h
 ·cases h
theorem Xh {ro:Ro} {μ:Mu} {id:Nat} {v:Value} (h:VR ro μ (.uW id) v):∃L,v=.map (some L.blk)∧μ id=some L:=by
 cases h with
 | uW _ L h=>exact ⟨L,rfl,h⟩
theorem TJ {ro:Ro} {μ:Mu} {t:TypeId} {x:AV} {v:Value} (h:VR ro μ (.iface t x) v):∃u,v=.iface t u∧VR ro μ x u:=by
 cases h with
 | iface _ _ u h=>exact ⟨u,rfl,h⟩
theorem R9 {P:Program} {t:TypeId} {td:TypeDesc} {a b:AV} {ro:Ro} {μ:Mu} {u v:Value} (hu:P.underlying t=some td) (h:Gb td a b=true) (ha:VR ro μ a u) (hb:VR ro μ b v) (op:BinOp) (x y:Operand) (w:World):
  (eqGuard op t x y u v).run P w=.ok () w∧(Op.equal t u v).run P w=.ok false w∧(op=.eql→binOp op t u v=(do pure (.bool (← Op.equal t u v))))∧(op=.neq→binOp op t u v=(do pure (.bool (!(← Op.equal t u v))))):=by
 have key:∀(u v:Value),(match u,v with | .nilIface,.nilIface=>False | .agg _,.agg _=>False | _,_=>True)→(eqGuard op t x y u v).run P w=.ok () w:=by
  intro u v huv
  unfold eqGuard
  cases op <;> simp <;> (cases u <;> cases v <;> first | rfl | exact huv.elim)
 unfold Gb at h
 split at h
 case h_15=>cases h
 all_goals
  first
   | (obtain rfl:=gP ha rfl)
   | (obtain rfl:=gP hb rfl)
  first
   | (obtain ⟨L,hL,rfl⟩:=zV ha)
   | (obtain ⟨L,hL,rfl⟩:=zV hb)
   | (obtain ⟨b',o',g',rfl,_⟩:=Mt ha)
   | (obtain ⟨b',o',g',rfl,_⟩:=Mt hb)
   | (rcases o7 ha with ⟨L,c,a',rfl,_⟩ | ⟨rfl,_,_⟩;rotate_left;exact absurd h (by decide))
   | (rcases o7 hb with ⟨L,c,a',rfl,_⟩ | ⟨rfl,_,_⟩;rotate_left;exact absurd h (by decide))
   | (rcases zW ha with ⟨a',c,g',rfl,_⟩ | ⟨rfl,_⟩;rotate_left;exact absurd h (by decide))
   | (rcases zW hb with ⟨a',c,g',rfl,_⟩ | ⟨rfl,_⟩;rotate_left;exact absurd h (by decide))
   | (obtain ⟨vs,us,rfl,_⟩:=OJ ha)
   | (obtain ⟨vs,us,rfl,_⟩:=OJ hb)
   | (obtain ⟨L,rfl,_⟩:=Xh ha)
   | (obtain ⟨L,rfl,_⟩:=Xh hb)
   | (obtain ⟨z,rfl,_⟩:=TJ ha)
   | (obtain ⟨z,rfl,_⟩:=TJ hb)
  refine ⟨key _ _ trivial,?_,fun e=>by subst e;rfl,fun e=>by subst e;rfl⟩
  refine (?_:∀d,(Op.equalIn (d+1) t _ _).run P w=.ok false w) 9999
  intro d
  simp only [Op.equalIn,Sem.run_bind,run_underlying hu,Result.andThen_ok,Sem.run_pure,Option.isNone_some,Option.isNone_none]
theorem QH {P:Program} {op:BinOp} {t:TypeId} {x y:Operand} {a b r:AV} {ro:Ro} {μ:Mu} {u v:Value} (ha:VR ro μ a u) (hb:VR ro μ b v) (h:cO P op t x y a b=some r) (w:World):
  ∃z,(do eqGuard op t x y u v;binOp op t u v:Sem Value).run P w=.ok z w∧VR ro μ r z:=by
 unfold cO at h
 split at h
 ·rename_i u' v' h1 h2
  obtain rfl:=gP ha h1
  obtain rfl:=gP hb h2
  exact tH h ro μ w
 ·split at h
  ·rename_i td hu
   split at h
   ·rename_i hk
    obtain ⟨k1,k2,k3,k4⟩:=R9 hu hk ha hb op x y w
    split at h
    ·simp only [Option.some.injEq] at h;subst h
     refine ⟨.bool false,?_,.d _ _ (.bool _)⟩
     simp only [Sem.run_bind,k1,Result.andThen_ok,k3 rfl,k2,Sem.run_pure]
    ·simp only [Option.some.injEq] at h;subst h
     refine ⟨.bool true,?_,.d _ _ (.bool _)⟩
     simp only [Sem.run_bind,k1,Result.andThen_ok,k4 rfl,k2,Sem.run_pure]
     rfl
    ·cases h
   ·cases h
  ·cases h
def Goes (ro:Ro) (μ:Mu) (w:World) (σ:List Ob) (x:AV) (σ':List Ob) (K:Value→World→Prop):Prop:=
 ∀v ro' μ' w',VR ro' μ' x v→Good ro' μ' w' (hp σ')→Ext ro μ w (hp σ) ro' μ' w' (hp σ')→(∀id,μ' id≠μ id→σ.length≤id∧id < σ'.length)→σ.length≤σ'.length→K v w'
theorem kI {P:Program} {o:Oper} {a:Act} {s:Sem Value} {ro:Ro} {μ:Mu} {w:World} {σ σ':List Ob} {x:AV} {K:Act→World→Prop} {Q:Exit→Act→World→Prop}
  (he:execOp a.eval o=(do pure (.value (← s)))) (h:Step P s ro μ w σ x σ') (hK:Goes ro μ w σ x σ' (fun v w'=>K (a.put o.dst v) w')):o.wp P a w K Q:=by
 obtain ⟨v,ro',μ',w',h1,h2,h3,h4,h5,h6⟩:=h
 unfold Oper.wp
 rw [he]
 simp only [Sem.run_bind,h1,Result.andThen_ok,Sem.run_pure,Oper.upon]
 exact hK v ro' μ' w' h2 h3 h4 h5 h6
theorem Step.len {P:Program} {s:Sem Value} {ro:Ro} {μ:Mu} {w:World} {σ σ':List Ob} {x:AV} (h:Step P s ro μ w σ x σ'):σ.length≤σ'.length:=by
 obtain ⟨v,ro',μ',w',h1,h2,h3,h4,h5,h6⟩:=h
 exact h6
theorem sS {μ:Mu} {σ σ':List Ob} (h:∀id,σ.length≤id→id < σ'.length→μ id=none) (hl:σ.length < σ'.length):μ σ.length=none:=h _ (Nat.le_refl _) hl
theorem acI {env:List AV} {c:Call} {a:Act} {ro:Ro} {μ:Mu} (he:oo ro μ env a.tmps) {x:AV} (h:AL env c.args.toList=some [x]):∃v,c.args.map a.eval=#[v]∧VR ro μ x v:=by
 have hs:=jr he h
 have e:(c.args.toList.map a.eval).toArray=c.args.map a.eval:=Array.ext' (by simp)
 rw [e] at hs
 obtain ⟨v,hv⟩:∃v,c.args.map a.eval=#[v]:=by
  have:=hs.size
  cases hm:c.args.map a.eval with
  | mk l=>rw [hm] at this;match l,this with
   | [v],_=>exact ⟨v,rfl⟩
 rw [hv] at hs
 exact ⟨v,hv,hs.get 0 x v rfl rfl⟩
theorem Tx {env:List AV} {c:Call} {a:Act} {ro:Ro} {μ:Mu} (he:oo ro μ env a.tmps) {x y:AV} (h:AL env c.args.toList=some [x,y]):∃v u,c.args.map a.eval=#[v,u]∧VR ro μ x v∧VR ro μ y u:=by
 have hs:=jr he h
 have e:(c.args.toList.map a.eval).toArray=c.args.map a.eval:=Array.ext' (by simp)
 rw [e] at hs
 obtain ⟨v,u,hv⟩:∃v u,c.args.map a.eval=#[v,u]:=by
  have:=hs.size
  cases hm:c.args.map a.eval with
  | mk l=>rw [hm] at this;match l,this with
   | [v,u],_=>exact ⟨v,u,rfl⟩
 rw [hv] at hs
 exact ⟨v,u,hv,hs.get 0 x v rfl rfl,hs.get 1 y u rfl rfl⟩
theorem jW {ro:Ro} {μ:Mu} {xs ys:List AV} {vs us:Array Value} (h:oo ro μ xs vs) (k:oo ro μ ys us):oo ro μ (xs++ys) (vs++us):=by
 refine ⟨by simp [h.size,k.size],fun i x v hx hv=>?_⟩
 rw [List.getElem?_append] at hx
 rw [Array.getElem?_append,h.size] at hv
 split at hx
 ·rename_i hi
  rw [if_pos hi] at hv
  exact h.get i x v hx hv
 ·rename_i hi
  rw [if_neg hi] at hv
  exact k.get _ x v hx hv
theorem wQ {σ σ':List Ob} {x:AV} {y:D} (h:og σ x=some (y,σ')):σ'.length=σ.length:=by
 unfold og at h
 split at h
 ·split at h
  ·cases h
  ·simp only [Option.some.injEq,Prod.mk.injEq] at h;rw [h.2]
 ·split at h
  ·split at h
   ·simp only [Option.some.injEq,Prod.mk.injEq] at h;rw [← h.2];simp
   ·cases h
  ·cases h
 ·cases h
theorem lK:∀{xs:List AV} {σ σ':List Ob} {ys:List D},lD σ xs=some (ys,σ')→σ'.length=σ.length
 | [],σ,σ',ys,h=>by simp only [lD,Option.some.injEq,Prod.mk.injEq] at h;rw [h.2]
 | x::xs,σ,σ',ys,h=>by
  simp only [lD] at h
  split at h
  ·rename_i y σ1 h1
   split at h
   ·rename_i ys' σ2 h2
    simp only [Option.some.injEq,Prod.mk.injEq] at h
    rw [← h.2,lK h2,wQ h1]
   ·cases h
  ·cases h
theorem tT {sz:Nat}:∀{ps:List (Nat×AV)} {k:Nat} {σ σ':List Ob} {ds:List D},mh σ sz k ps=some (ds,σ')→σ'.length=σ.length
 | [],k,σ,σ',ds,h=>by simp only [mh,Option.some.injEq,Prod.mk.injEq] at h;rw [h.2]
 | (i, v)::ps,k,σ,σ',ds,h=>by
  simp only [mh] at h
  split at h
  ·split at h
   ·rename_i y σ1 hy
    split at h
    ·rename_i ys σ2 hys
     simp only [Option.some.injEq,Prod.mk.injEq] at h
     rw [← h.2,tT hys]
     unfold Df at hy
     split at hy
     ·split at hy
      ·rename_i es Jj hfz
       simp only [Option.some.injEq,Prod.mk.injEq] at hy
       rw [← hy.2,lK hfz]
      ·cases hy
     ·exact wQ hy
    ·cases h
   ·cases h
  ·cases h
theorem Ky:∀{l:List AV} {us:List Value},qM l=some us→us.length=l.length∧∀(i:Nat) (x:AV),l[i]?=some x→x.val=us[i]?
 | [],us,h=>by
  simp only [qM,Option.some.injEq] at h
  subst h
  exact ⟨rfl,fun i x hx=>by simp at hx⟩
 | y::l,us,h=>by
  simp only [qM] at h
  split at h
  ·rename_i u us' hu hus
   simp only [Option.some.injEq] at h
   subst h
   obtain ⟨h1,h2⟩:=Ky hus
   refine ⟨by simp [h1],fun i x hx=>?_⟩
   cases i with
   | zero=>
    simp only [List.getElem?_cons_zero,Option.some.injEq] at hx ⊢
    rw [← hx,hu]
   | succ i=>exact h2 i x (by simpa using hx)
  ·cases h
theorem zh {ro:Ro} {μ:Mu} {l:List AV} {us:List Value} {vs:Array Value} (h:qM l=some us) (hv:oo ro μ l vs):vs=us.toArray:=by
 obtain ⟨h1,h2⟩:=Ky h
 apply Array.ext
 ·rw [hv.size];simp [h1]
 ·intro i hi1 hi2
  have hl:i < l.length:=by rw [← hv.size];exact hi1
  have hu:i < us.length:=by omega
  have e:=h2 i l[i] (List.getElem?_eq_getElem hl)
  rw [List.getElem?_eq_getElem hu] at e
  have:=gP (hv.get i l[i] vs[i] (List.getElem?_eq_getElem hl) (Array.getElem?_eq_getElem hi1)) e
  simpa using this
theorem Lp {P:Program} {t:TypeId} {name:String} {g:FuncId} {ptr:Bool} (h:yM P t name=some (g,ptr)) (k:Nat) (u rv:Value) (w:World) (hr:∀wr,(receiverAt t (.val u) ptr wr).run P w=.ok rv w):(method (k+1) t u name).run P w=.ok (g,rv) w:=by
 unfold yM at h
 split at h
 ·rename_i i hi
  split at h
  ·rename_i m hm
   split at h
   ·rename_i hp
    have hp':m.path.toList=[]:=by
     have:m.path=#[]:=by simpa using hp
     rw [this]
    have hti:(typeInfo t).run P w=.ok i w:=by simp [typeInfo,hi]
    unfold method
    simp only [Sem.run_bind,hti,Result.andThen_ok,hm,hp',follow,Sem.run_pure,h,hr]
   ·cases h
  ·cases h
 ·cases h
theorem aau {P:Program} {t:TypeId} (h:Ol P t=true) (u:Value) (w:World):∀wr,(receiverAt t (.val u) true wr).run P w=.ok u w:=by
 unfold Ol at h
 split at h
 ·rename_i el hu
  exact fun wr=>by simp only [receiverAt,Sem.run_bind,run_underlying hu,Result.andThen_ok,Place.get,Sem.run_pure]
 ·cases h
theorem OE {P:Program} {call:Callee} (hc:ET P call) {o:Oper} {a:Act} {env:List AV} {σ σ':List Ob} {x:AV} {ro:Ro} {μ:Mu} {w:World} (h:kQ P call env σ o=some (x,σ')) (g:Good ro μ w (hp σ))
  (hfree:∀id,σ.length≤id→id < σ'.length→μ id=none) (he:oo ro μ env a.tmps) {K:Act→World→Prop} {Q:Exit→Act→World→Prop} (hK:Goes ro μ w σ x σ' (fun v w'=>K (a.put o.dst v) w')):
  o.wp P a w K Q:=by
 have still:∀(s:Sem Value),execOp a.eval o=(do pure (.value (← s)))→σ'=σ→(∃v,s.run P w=.ok v w∧VR ro μ x v)→o.wp P a w K Q:=by
  intro s hs hσ hv
  subst hσ
  exact kI hs (Step.still g hv) hK
 unfold kQ at h
 split at h
 ·-- move
  rename_i y ho
  split at h
  ·rename_i v hv
   simp only [Option.some.injEq,Prod.mk.injEq] at h
   obtain ⟨rfl,rfl⟩:=h
   exact still (pure (a.eval y)) (by simp [execOp,ho]) rfl ⟨_,rfl,bS he hv⟩
  ·cases h
 ·-- assign
  rename_i y ho
  split at h
  ·rename_i v hv
   simp only [Option.some.injEq,Prod.mk.injEq] at h
   obtain ⟨rfl,rfl⟩:=h
   exact still (pure (a.eval y)) (by simp [execOp,ho]) rfl ⟨_,rfl,bS he hv⟩
  ·cases h
 ·-- pick
  rename_i c y z ho
  split at h
  ·rename_i t hcv
   have ec:a.eval c=.bool t:=gP (bS he hcv) rfl
   split at h
   ·rename_i v hv
    simp only [Option.some.injEq,Prod.mk.injEq] at h
    obtain ⟨rfl,rfl⟩:=h
    refine still (pure (if t then a.eval y else a.eval z)) ?_ rfl ⟨_,rfl,?_⟩
    ·simp [execOp,ho,ec,asBool]
    ·have:=bS he hv
     cases t <;> exact this
   ·cases h
  ·cases h
 ·-- alloc
  rename_i t ho
  split at h
  ·rename_i z hz
   simp only [Option.some.injEq,Prod.mk.injEq] at h
   obtain ⟨rfl,rfl⟩:=h
   exact kI (s:=Instr.alloc t true (.tuple #[])) (by simp [execOp,ho]) (TA g (sS hfree (by simp)) hz) hK
  ·cases h
 ·-- box
  rename_i t y ho
  split at h
  ·cases h
  ·rename_i v hne hv
   simp only [Option.some.injEq,Prod.mk.injEq] at h
   obtain ⟨rfl,rfl⟩:=h
   exact kI (s:=Instr.box t (a.eval y)) (by simp [execOp,ho]) (OA g (sS hfree (by simp)) (bS he hv) hne) hK
  ·cases h
 ·-- build
  rename_i t ps ho
  split at h
  ·rename_i parts hps
   split at h
   ·rename_i v hv
    simp only [Option.some.injEq,Prod.mk.injEq] at h
    obtain ⟨rfl,rfl⟩:=h
    have hp:=xX he hps
    exact still (Instr.build t (ps.map fun (i,x)=>(i,a.eval x))) (by simp [execOp,ho]) rfl (QG (qs:=ps.map fun (i,x)=>(i,a.eval x)) (by simpa using hp) hv w)
   ·cases h
  ·cases h
 ·-- buildSlice
  rename_i t len ps ho
  split at h
  ·rename_i parts hps
   have hp:=xX he hps
   have hlen:σ.length < σ'.length:=by
    have h':=h
    unfold kH at h'
    split at h'
    ·split at h'
     ·split at h'
      ·split at h'
       ·rename_i ds σ1 hds
        simp only [Option.some.injEq,Prod.mk.injEq] at h'
        obtain ⟨_,rfl⟩:=h'
        have n1:=tT hds
        simp [n1]
       ·cases h'
      ·cases h'
     ·cases h'
    ·cases h'
   exact kI (s:=Instr.buildSlice t len (ps.map fun (i,x)=>(i,a.eval x))) (by simp [execOp,ho]) (GN g (sS hfree hlen) (by simpa using hp) h) hK
  ·cases h
 ·-- load
  rename_i t y ho
  split at h
  ·rename_i v hv
   split at h
   ·rename_i z hz
    simp only [Option.some.injEq,Prod.mk.injEq] at h
    obtain ⟨rfl,rfl⟩:=h
    obtain ⟨u,p,e,k1,k2⟩:=uM g (bS he hv) hz
    exact still (Instr.loadAt t (a.eval y)) (by simp [execOp,ho]) rfl ⟨u,by rw [e];simp only [Instr.loadAt,Instr.sureAddr,Sem.run_bind,Sem.run_pure,Result.andThen_ok,k1],k2⟩
   ·cases h
  ·cases h
 ·-- store
  rename_i t y z ho
  split at h
  ·rename_i v u hv hu
   split at h
   ·rename_i σ1 hst
    simp only [Option.some.injEq,Prod.mk.injEq] at h
    obtain ⟨rfl,rfl⟩:=h
    obtain ⟨p,w',ro',e,k1,k2,k3,k4⟩:=QA g (bS he hv) (bS he hu) hst
    unfold Oper.wp
    have:(execOp a.eval o).run P w=.ok .skip w':=by
     simp only [execOp,ho,e,Instr.storeAt,Instr.sureAddr,Sem.run_bind,Sem.run_pure,Result.andThen_ok,k1]
    rw [this]
    exact hK undef ro' μ w' (.tuple [] #[] rfl (fun i x v hx=>by simp at hx)) k2 k3 (fun id h=>absurd rfl h) (by omega)
   ·cases h
  ·cases h
 ·-- nilCheck
  rename_i y ho
  split at h
  ·rename_i id idx off hv
   simp only [Option.some.injEq,Prod.mk.injEq] at h
   obtain ⟨rfl,rfl⟩:=h
   have hv':=bS he hv
   obtain ⟨L,hL,e⟩:=zV hv'
   refine still (pure (a.eval y)) ?_ rfl ⟨_,rfl,hv'⟩
   simp [execOp,ho,e]
  ·rename_i cs hv
   simp only [Option.some.injEq,Prod.mk.injEq] at h
   obtain ⟨rfl,rfl⟩:=h
   have hv':=bS he hv
   obtain ⟨b,o',g',e,_⟩:=Mt hv'
   refine still (pure (a.eval y)) ?_ rfl ⟨_,rfl,hv'⟩
   simp [execOp,ho,e]
  ·rename_i t v hv
   simp only [Option.some.injEq,Prod.mk.injEq] at h
   obtain ⟨rfl,rfl⟩:=h
   have hv':=bS he hv
   obtain ⟨u,hu⟩:∃u,a.eval y=.iface t u:=by
    generalize a.eval y=q at hv'
    cases hv' with
    | iface _ _ u h=>exact ⟨_,rfl⟩
   refine still (pure (a.eval y)) ?_ rfl ⟨_,rfl,hv'⟩
   simp [execOp,ho,hu]
  ·cases h
 ·-- binOp
  rename_i op t y z yt ho
  split at h
  ·rename_i u v hu hv
   split at h
   ·rename_i r hr
    simp only [Option.some.injEq,Prod.mk.injEq] at h
    obtain ⟨rfl,rfl⟩:=h
    exact still (do eqGuard op t y z (a.eval y) (a.eval z);binOp op t (a.eval y) (a.eval z)) (by simp [execOp,ho]) rfl (QH (bS he hu) (bS he hv) hr w)
   ·cases h
  ·cases h
 ·-- unOp
  rename_i op t y ho
  split at h
  ·rename_i u hu
   split at h
   ·rename_i v hv
    split at h
    ·rename_i r hr
     simp only [Option.some.injEq,Prod.mk.injEq] at h
     obtain ⟨rfl,rfl⟩:=h
     have e:=gP (bS he hu) hv
     exact still (Op.unary op (a.eval y)) (by simp [execOp,ho]) rfl (by rw [e];exact tH hr ro μ w)
    ·cases h
   ·cases h
  ·cases h
 ·-- convert
  rename_i s d y ho
  split at h
  ·rename_i u hu
   exact kI (s:=convert s d (a.eval y)) (by simp [execOp,ho]) (Mr g (sS hfree) (bS he hu) h) hK
  ·cases h
 ·-- fieldAddr
  rename_i t y f ho
  split at h
  ·rename_i u hu
   split at h
   ·rename_i r hr
    simp only [Option.some.injEq,Prod.mk.injEq] at h
    obtain ⟨rfl,rfl⟩:=h
    exact still (Instr.fieldAt t (a.eval y) f) (by simp [execOp,ho]) rfl (y5 (bS he hu) hr w)
   ·cases h
  ·cases h
 ·-- field
  rename_i t y f ho
  split at h
  ·rename_i u hu
   split at h
   ·rename_i r hr
    simp only [Option.some.injEq,Prod.mk.injEq] at h
    obtain ⟨rfl,rfl⟩:=h
    exact still (Instr.field t (a.eval y) f) (by simp [execOp,ho]) rfl (QE (bS he hu) hr w)
   ·cases h
  ·cases h
 ·-- indexAddr
  rename_i t y z ho
  split at h
  ·rename_i u v hu hv
   split at h
   ·rename_i r hr
    simp only [Option.some.injEq,Prod.mk.injEq] at h
    obtain ⟨rfl,rfl⟩:=h
    exact still (Instr.indexAt t (a.eval y) (a.eval z)) (by simp [execOp,ho]) rfl (yZ (bS he hu) (bS he hv) hr w)
   ·cases h
  ·cases h
 ·-- index
  rename_i t y z ho
  split at h
  ·rename_i u v hu hv
   split at h
   ·rename_i u' v' hu' hv'
    split at h
    ·rename_i r hr
     simp only [Option.some.injEq,Prod.mk.injEq] at h
     obtain ⟨rfl,rfl⟩:=h
     have e1:=gP (bS he hu) hu'
     have e2:=gP (bS he hv) hv'
     exact still (Instr.index t (a.eval y) (a.eval z)) (by simp [execOp,ho]) rfl (by rw [e1,e2];exact tH hr ro μ w)
    ·cases h
   ·cases h
  ·cases h
 ·-- slice
  rename_i t y lo hi mx ho
  split at h
  ·rename_i u l hh m hu hl hhi hm
   split at h
   ·rename_i r hr
    simp only [Option.some.injEq,Prod.mk.injEq] at h
    obtain ⟨rfl,rfl⟩:=h
    have s1:=xD he hl
    have s2:=xD he hhi
    have s3:=xD he hm
    exact still (Instr.sliceAt t (a.eval y) (lo.map a.eval) (hi.map a.eval) (mx.map a.eval)) (by simp [execOp,ho]) rfl (QB (bS he hu) s1.1 s1.2 s2.1 s2.2 s3.1 s3.2 hr w)
   ·cases h
  ·cases h
 ·-- makeSlice
  rename_i t l c ho
  split at h
  ·rename_i u v hu hv
   have hlen:σ.length < σ'.length:=by
    have h':=h
    unfold mo at h'
    split at h'
    ·split at h'
     ·split at h'
      ·simp only [Option.some.injEq,Prod.mk.injEq] at h'
       rw [← h'.2];simp
      ·cases h'
     ·cases h'
    ·cases h'
   exact kI (s:=Instr.makeSlice t (a.eval l) (a.eval c)) (by simp [execOp,ho]) (yY g (sS hfree hlen) (bS he hu) (bS he hv) h) hK
  ·cases h
 ·-- makeMap
  rename_i t r ho
  split at h
  ·rename_i u hu
   have hlen:σ.length < σ'.length:=by
    have h':=h
    unfold wX at h'
    split at h'
    ·simp only [Option.some.injEq,Prod.mk.injEq] at h'
     rw [← h'.2];simp
    ·simp only [Option.some.injEq,Prod.mk.injEq] at h'
     rw [← h'.2];simp
    ·cases h'
   have s1:=xD he hu
   exact kI (s:=Instr.makeMap t (r.map a.eval)) (by simp [execOp,ho]) (Mk g (sS hfree hlen) s1.2 s1.1 h) hK
  ·cases h
 ·-- lookup
  rename_i t y z ok ho
  split at h
  ·rename_i u v hu hv
   split at h
   ·rename_i r hr
    simp only [Option.some.injEq,Prod.mk.injEq] at h
    obtain ⟨rfl,rfl⟩:=h
    exact still (Instr.lookup t (a.eval y) (a.eval z) ok) (by simp [execOp,ho]) rfl (NH g (bS he hu) (bS he hv) hr)
   ·cases h
  ·cases h
 ·-- mapUpdate
  rename_i t y z q ho
  split at h
  ·rename_i u v r hu hv hr
   obtain ⟨w',ro',rfl,k1,k2,k3,k4⟩:=Iw g (bS he hu) (bS he hv) (bS he hr) h
   unfold Oper.wp
   have:(execOp a.eval o).run P w=.ok .skip w':=by
    simp only [execOp,ho,Sem.run_bind,Sem.run_pure,Result.andThen_ok,k1]
   rw [this]
   exact hK undef ro' μ w' (.tuple [] #[] rfl (fun i x v hx=>by simp at hx)) k2 k3 (fun id h=>absurd rfl h) (by omega)
  ·cases h
 ·-- makeFunc
  rename_i fn first caps ho
  split at h
  ·rename_i xs ys hx hy
   simp only [Option.some.injEq,Prod.mk.injEq] at h
   obtain ⟨rfl,rfl⟩:=h
   have s1:=jr he hx
   have s2:=jr he hy
   refine still (Instr.makeFunc fn (first.map a.eval) (caps.map a.eval)) (by simp [execOp,ho]) rfl ⟨.func fn (first.map a.eval) (caps.map a.eval),rfl,?_⟩
   have e1:(first.toList.map a.eval).toArray=first.map a.eval:=Array.ext' (by simp)
   have e2:(caps.toList.map a.eval).toArray=caps.map a.eval:=Array.ext' (by simp)
   rw [e1] at s1
   rw [e2] at s2
   exact .fn fn xs ys _ _ s1.size s2.size s1.get s2.get
  ·cases h
 ·-- extract
  rename_i y i ho
  split at h
  ·rename_i vs hv
   split at h
   ·rename_i v hvi
    simp only [Option.some.injEq,Prod.mk.injEq] at h
    obtain ⟨rfl,rfl⟩:=h
    obtain ⟨us,e,hus⟩:=Ms (bS he hv)
    have hlt:i < us.size:=by rw [hus.size];exact cK hvi
    refine still (Instr.extract (a.eval y) i) (by simp [execOp,ho]) rfl ⟨us[i],?_,hus.get i v _ hvi (Array.getElem?_eq_getElem hlt)⟩
    rw [e]
    simp [Instr.extract,hlt]
   ·cases h
  ·cases h
 ·-- makeInterface
  rename_i t y ho
  split at h
  ·rename_i v hv
   split at h
   ·cases h
   ·rename_i d hu hni
    simp only [Option.some.injEq,Prod.mk.injEq] at h
    obtain ⟨rfl,rfl⟩:=h
    refine still (Instr.makeInterface t (a.eval y)) (by simp [execOp,ho]) rfl ⟨.iface t (a.eval y),?_,.iface t v _ (bS he hv)⟩
    simp only [Instr.makeInterface,Sem.run_bind,run_underlying hni,Result.andThen_ok]
    cases d <;> first | rfl | exact absurd rfl (hu _)
   ·cases h
  ·cases h
 ·-- typeAssert
  rename_i y xt t ok ho
  split at h
  ·rename_i t' v hv
   split at h
   ·cases h
   ·rename_i d hu hni
    split at h
    ·rename_i hq
     obtain ⟨rfl,rfl⟩:=hq
     simp only [Option.some.injEq,Prod.mk.injEq] at h
     obtain ⟨rfl,rfl⟩:=h
     have hi:=bS he hv
     generalize hy:a.eval y=u at hi
     cases hi with
     | iface _ _ u' hi'=>
      refine still (Instr.typeAssert (a.eval y) xt t' false) (by simp [execOp,ho]) rfl ⟨u',?_,hi'⟩
      rw [hy]
      simp only [Instr.typeAssert,Sem.run_bind,run_underlying hni,Result.andThen_ok]
      cases d <;> first | (simp;done) | exact absurd rfl (hu _)
    ·cases h
   ·cases h
  ·cases h
 ·-- call
  rename_i c ho
  ·have uL:∀(b:Builtin) (s:Sem Value),c.callee=.builtin b→(builtin b c.argTypes o.type (c.args.map fun | .const _=>true | _=>false) (c.args.map a.eval)=(do pure (.value (← s))))→execOp a.eval o=(do pure (.value (← s))):=by
    intro b s hb hs
    simp only [execOp,ho,resolve,hb,pure_bind,invoke]
    exact hs
   have fin:∀args,AL env c.args.toList=some args→∀fv,(∀f,c.callee=.value f→fv=oM env f)→(∀f nm,c.callee=.invoke f nm→fv=oM env f)→pJ P call σ c args fv=some (x,σ')→o.wp P a w K Q:=by
    clear h
    intro args hargs fv hfv hfi h
    unfold pJ at h
    split at h
    ·-- len
     rename_i hb
     split at h
     ·rename_i t y ht
      split at h
      ·rename_i r hr
       simp only [Option.some.injEq,Prod.mk.injEq] at h
       obtain ⟨rfl,rfl⟩:=h
       obtain ⟨v,ev,hv⟩:=acI he hargs
       refine still (Builtin.len_ c.argTypes o.type #[v]) (uL .len _ hb ?_) rfl (Vm ht hv hr)
       rw [ev];rfl
      ·cases h
     ·cases h
    ·-- append
     rename_i hb
     split at h
     ·rename_i t t2 y z ht ht2
      obtain ⟨v,u,ev,hv,hu⟩:=Tx he hargs
      have e:execOp a.eval o=(do pure (.value (← Builtin.append_ c.argTypes o.type #[v,u]))):=uL .append _ hb (by rw [ev];rfl)
      split at h
      ·cases h
      ·rename_i hq
       exact kI e (NI g (sS hfree) ht ht2 (by simpa using hq) hv hu h) hK
     ·cases h
    ·-- copy
     rename_i hb
     split at h
     ·rename_i t y z ht
      obtain ⟨v,u,ev,hv,hu⟩:=Tx he hargs
      have e:execOp a.eval o=(do pure (.value (← Builtin.copy_ c.argTypes o.type #[v,u]))):=uL .copy _ hb (by rw [ev];rfl)
      exact kI e (TB g ht hv hu h) hK
     ·cases h
    ·-- a function
     rename_i fo hb
     split at h
     ·rename_i f first caps
      split at h
      ·rename_i hcl
       have hf:=bS he (hfv fo hb).symm
       obtain ⟨vs,us,ef,h1,h2⟩:=OJ hf
       have hs:=jr he hargs
       have e0:(c.args.toList.map a.eval).toArray=c.args.map a.eval:=Array.ext' (by simp)
       rw [e0] at hs
       have hall:=jW (jW h1 hs) h2
       obtain ⟨hlen,EA⟩:=vJ hc h g hfree hall
       have hrun:(execOp a.eval o).run P w=.ok (.enter f (vs++c.args.map a.eval++us)) w:=by
        unfold callable at hcl
        split at hcl
        ·rename_i fn hfn
         simp only [Bool.and_eq_true,bne_iff_ne,ne_eq] at hcl
         have hbody:fn.body.isNone=false:=by simpa using hcl.2
         simp only [execOp,ho,resolve,hb,ef,Deferred.ofValue,pure_bind,invoke,callFunc,Sem.run_bind,run_program,Result.andThen_ok,hfn,beq_iff_eq,hcl.1,if_false,hbody,Bool.false_eq_true,Sem.run_pure]
        ·cases hcl
       unfold Oper.wp
       rw [hrun]
       simp only [Oper.upon]
       refine EA.mono ?_
       rintro e w' ⟨v,ro',μ',rfl,k1,k2,k3,k4⟩
       exact hK v ro' μ' w' k1 k2 k3 k4 hlen
      ·have hf:=bS he (hfv fo hb).symm
       obtain ⟨vs,us,ef,h1,h2⟩:=OJ hf
       have hs:=jr he hargs
       have e0:(c.args.toList.map a.eval).toArray=c.args.map a.eval:=Array.ext' (by simp)
       rw [e0] at hs
       have hall:=jW (jW h1 hs) h2
       unfold outside at h
       split at h
       ·rename_i ws hws
        have hw:=zh hws hall
        split at h
        ·rename_i v hpr
         split at h
         ·rename_i y hy
          simp only [Option.some.injEq,Prod.mk.injEq] at h
          obtain ⟨rfl,rfl⟩:=h
          have hrun:(execOp a.eval o).run P w=.ok (.value v) w:=by
           simp only [execOp,ho,resolve,hb,ef,Deferred.ofValue,pure_bind,invoke]
           rw [hw]
           exact K9 hpr w
          unfold Oper.wp
          rw [hrun]
          simp only [Oper.upon]
          exact hK v ro μ w (TH hy) g (Ext.refl _ _ _ _) (fun id q=>absurd rfl q) (Nat.le_refl _)
         ·cases h
        ·cases h
       ·cases h
     ·cases h
    ·-- a method
     rename_i xo name hb
     split at h
     ·rename_i t u
      split at h
      ·rename_i f hm
       split at h
       ·rename_i hq
        obtain ⟨hcl,hp⟩:=hq
        have hx:=bS he (hfi xo name hb).symm
        obtain ⟨uv,hu,hvu⟩:∃uv,a.eval xo=.iface t uv∧VR ro μ u uv:=by
         generalize a.eval xo=q at hx
         cases hx with
         | iface _ _ u h=>exact ⟨_,rfl,h⟩
        have hs:=jr he hargs
        have e0:(c.args.toList.map a.eval).toArray=c.args.map a.eval:=Array.ext' (by simp)
        rw [e0] at hs
        have hall:oo ro μ (u::args) (#[uv]++c.args.map a.eval):=jW (xs:=[u]) ⟨rfl,fun i y q hy hq=>by
         match i with
         | 0=>simp at hy hq;subst hy;subst hq;exact hvu
         | i+1=>simp at hy⟩ hs
        obtain ⟨hlen,EA⟩:=vJ hc h g hfree hall
        have hrun:(execOp a.eval o).run P w=.ok (.enter f (#[uv]++c.args.map a.eval)) w:=by
         unfold callable at hcl
         split at hcl
         ·rename_i fn hfn
          simp only [Bool.and_eq_true,bne_iff_ne,ne_eq] at hcl
          have hbody:fn.body.isNone=false:=by simpa using hcl.2
          obtain ⟨q,hq⟩:∃q,P.types.size+Made.depth=q+1:=⟨P.types.size+Made.depth - 1,by
           have:0 < Made.depth:=by decide
           omega⟩
          have hmr:=Lp (P:=P) hm q uv uv w (aau hp uv w)
          have ex:(#[Value.iface t uv]++c.args.map a.eval).extract 1 (#[Value.iface t uv]++c.args.map a.eval).size=c.args.map a.eval:=by
           apply Array.ext'
           simp
           rw [List.take_of_length_le (by simp)]
          have e1:(#[Value.iface t uv]++c.args.map a.eval)[0]?=some (.iface t uv):=by
           rw [Array.getElem?_append_left (by show 0 < 1;omega)];rfl
          simp only [execOp,ho,resolve,hb,hu,pure_bind,Go.invoke,e1,ex,callMethod,Sem.run_bind,run_program,Result.andThen_ok,hq,hmr,callFunc,hfn,beq_iff_eq,hcl.1,if_false,hbody,Bool.false_eq_true,Sem.run_pure]
         ·cases hcl
        unfold Oper.wp
        rw [hrun]
        simp only [Oper.upon]
        refine EA.mono ?_
        rintro e w' ⟨v,ro',μ',rfl,k1,k2,k3,k4⟩
        exact hK v ro' μ' w' k1 k2 k3 k4 hlen
       ·cases h
      ·cases h
     ·cases h
    ·-- max
     rename_i hb
     have hs:=jr he hargs
     have e0:(c.args.toList.map a.eval).toArray=c.args.map a.eval:=Array.ext' (by simp)
     rw [e0] at hs
     split at h
     ·rename_i ws hws
      have hw:=zh hws hs
      split at h
      ·rename_i y hy
       simp only [Option.some.injEq,Prod.mk.injEq] at h
       obtain ⟨rfl,rfl⟩:=h
       exact still (Builtin.max_ c.argTypes 0 ws.toArray) (uL .max _ hb (by rw [hw];rfl)) rfl (tH hy ro μ w)
      ·cases h
     ·cases h
    ·-- min
     rename_i hb
     have hs:=jr he hargs
     have e0:(c.args.toList.map a.eval).toArray=c.args.map a.eval:=Array.ext' (by simp)
     rw [e0] at hs
     split at h
     ·rename_i ws hws
      have hw:=zh hws hs
      split at h
      ·rename_i y hy
       simp only [Option.some.injEq,Prod.mk.injEq] at h
       obtain ⟨rfl,rfl⟩:=h
       exact still (Builtin.min_ c.argTypes 0 ws.toArray) (uL .min _ hb (by rw [hw];rfl)) rfl (tH hy ro μ w)
      ·cases h
     ·cases h
    ·cases h
   split at h
   ·rename_i args hargs
    split at h
    ·rename_i f hf
     exact fin args hargs (oM env f) (fun f' hf'=>by rw [hf] at hf';cases hf';rfl) (fun f' nm hf'=>by rw [hf] at hf';cases hf') h
    ·rename_i f nm hf
     exact fin args hargs (oM env f) (fun f' hf'=>by rw [hf] at hf';cases hf') (fun f' nm' hf'=>by rw [hf] at hf';cases hf';rfl) h
    ·rename_i hnf hni
     exact fin args hargs none (fun f hf=>absurd hf (hnf f)) (fun f nm hf=>absurd hf (hni f nm)) h
   ·cases h
 ·cases h
end Lv
/- What an operation looks at. -/
namespace Lv
open Go
variable [bJ]
def dJ {β:Type} (T:List Nat) (n:Nat) (G:List Ob→Option (β×List Ob)):Prop:=∀σ y σ',σ.length=n→G σ=some (y,σ')→
 n≤σ'.length∧(∀id,id < n→id∉T→σ'[id]?=σ[id]?)∧
 ∀σ1:List Ob,σ1.length=n→(∀id,id∈T→σ1[id]?=σ[id]?)→∃Jj,G σ1=some (y,Jj)∧Jj.length=σ'.length∧(∀id,(id∈T∨n≤id)→Jj[id]?=σ'[id]?)∧(∀id,id∉T→id < n→Jj[id]?=σ1[id]?)
section
variable {β γ:Type} {T:List Nat} {n:Nat}
theorem dJ.keep {G:List Ob→Option (β×List Ob)} (x:β) (h:∀σ,σ.length=n→G σ=some (x,σ)):dJ T n G:=by
 intro σ y σ' hn hg
 rw [h σ hn] at hg
 simp only [Option.some.injEq,Prod.mk.injEq] at hg
 obtain ⟨rfl,rfl⟩:=hg
 refine ⟨by omega,fun _ _ _=>rfl,fun σ1 h1 h2=>⟨σ1,h σ1 h1,by omega,fun id hid=>?_,fun _ _ _=>rfl⟩⟩
 rcases hid with hid | hid
 ·exact h2 id hid
 ·rw [List.getElem?_eq_none (by omega),List.getElem?_eq_none (by omega)]
theorem dJ.no {G:List Ob→Option (β×List Ob)} (h:∀σ,σ.length=n→G σ=none):dJ T n G:=by
 intro σ y σ' hn hg
 rw [h σ hn] at hg;cases hg
theorem dJ.read {G:List Ob→Option (β×List Ob)} {α:Type} (rd:List Ob→α) (hr:∀σ σ1,(∀id,id∈T→σ1[id]?=σ[id]?)→rd σ1=rd σ) (F:α→List Ob→Option (β×List Ob)) (hG:∀σ,G σ=F (rd σ) σ) (hF:∀a,dJ T n (F a)):dJ T n G:=by
 intro σ y σ' hn hg
 rw [hG] at hg
 obtain ⟨h1,h2,h3⟩:=hF (rd σ) σ y σ' hn hg
 refine ⟨h1,h2,fun σ1 k1 k2=>?_⟩
 rw [hG,hr σ σ1 k2]
 exact h3 σ1 k1 k2
theorem dJ.push {x:β} {ob:Ob} {G:List Ob→Option (β×List Ob)} (h:∀σ,σ.length=n→G σ=some (x,σ++[ob])):dJ T n G:=by
 intro σ y σ' hn hg
 rw [h σ hn] at hg
 simp only [Option.some.injEq,Prod.mk.injEq] at hg
 obtain ⟨rfl,rfl⟩:=hg
 refine ⟨by simp;omega,fun id hid _=>by rw [List.getElem?_append_left (by omega)],fun σ1 h1 h2=>⟨σ1++[ob],h σ1 h1,by simp;omega,fun id hid=>?_,fun id _ hid=>by rw [List.getElem?_append_left (by omega)]⟩⟩
 by_cases hl:id < n
 ·rw [List.getElem?_append_left (by omega),List.getElem?_append_left (by omega)]
  exact h2 id (hid.resolve_right (by omega))
 ·rw [List.getElem?_append_right (by omega),List.getElem?_append_right (by omega),hn,h1]
theorem dJ.set {x:β} {i:Nat} {ob:Ob} (hi:i∈T) {G:List Ob→Option (β×List Ob)} (h:∀σ,σ.length=n→G σ=some (x,σ.set i ob)):dJ T n G:=by
 intro σ y σ' hn hg
 rw [h σ hn] at hg
 simp only [Option.some.injEq,Prod.mk.injEq] at hg
 obtain ⟨rfl,rfl⟩:=hg
 have ne:∀id,id∉T→i≠id:=fun id hid e=>hid (e▸hi)
 refine ⟨by simp;omega,fun id hid hT=>by rw [List.getElem?_set,if_neg (ne id hT)],fun σ1 h1 h2=>⟨σ1.set i ob,h σ1 h1,by simp;omega,fun id hid=>?_,fun id hT _=>by rw [List.getElem?_set,if_neg (ne id hT)]⟩⟩
 rw [List.getElem?_set,List.getElem?_set]
 by_cases e:i=id
 ·simp [e,h1,hn]
 ·rw [if_neg e,if_neg e]
  rcases hid with hid | hid
  ·exact h2 id hid
  ·rw [List.getElem?_eq_none (by omega),List.getElem?_eq_none (by omega)]
theorem dJ.bind {F:List Ob→Option (β×List Ob)} {H:β→List Ob→Option (γ×List Ob)} {G:List Ob→Option (γ×List Ob)} (hF:dJ T n F) (hl:∀σ y σ',σ.length=n→F σ=some (y,σ')→σ'.length=n) (hH:∀y,dJ T n (H y))
  (hG:∀σ,G σ=match F σ with | some (y,σ')=>H y σ' | none=>none):dJ T n G:=by
 intro σ z σ' hn hg
 rw [hG] at hg
 split at hg
 ·rename_i y σ2 hf
  have hl2:=hl σ y σ2 hn hf
  obtain ⟨a1,a2,a3⟩:=hF σ y σ2 hn hf
  obtain ⟨b1,b2,b3⟩:=hH y σ2 z σ' hl2 hg
  refine ⟨b1,fun id hid hT=>(b2 id hid hT).trans (a2 id hid hT),fun σ1 h1 h2=>?_⟩
  obtain ⟨σ3,c1,c2,c3,c4⟩:=a3 σ1 h1 h2
  obtain ⟨σ4,d1,d2,d3,d4⟩:=b3 σ3 (by omega) (fun id hid=>c3 id (.inl hid))
  refine ⟨σ4,by rw [hG,c1];exact d1,d2,d3,fun id hT hid=>(d4 id hT hid).trans (c4 id hT hid)⟩
 ·cases hg
end
theorem Qb {T:List Nat} {n:Nat} (x:AV) (hT:∀i,i∈x.ids→i∈T):dJ T n (fun σ=>og σ x):=by
 cases x
 case d y=>
  by_cases h:y.isAgg
  ·exact dJ.no fun σ _=>by simp [og,h]
  ·exact dJ.keep y fun σ _=>by simp [og,h]
 case slc id sz off len cap=>
  have hid:id∈T:=hT id (by simp [AV.ids])
  refine dJ.read (fun σ=>σ[id]?) (fun σ σ1 h=>h id hid) (fun a σ=>match a with
   | some (.row sz' xs _)=>if sz'=sz∧off+len≤xs.length then some (.y8 sz ((xs.drop off).take len),σ.set id (.row sz' xs false)) else none
   | _=>none) (fun σ=>by simp only [og] <;> rfl) (fun a=>?_)
  split
  ·split
   ·exact dJ.set hid fun σ _=>rfl
   ·exact dJ.no fun σ _=>rfl
  ·exact dJ.no fun σ _=>rfl
 all_goals exact dJ.no fun σ _=>by simp [og]
theorem Gl {T:List Nat} {n:Nat}:∀(l:List AV),(∀i,i∈kN l→i∈T)→dJ T n (fun σ=>lD σ l)
 | [],_=>dJ.keep [] fun σ _=>rfl
 | x::l,hT=>by
  simp only [kN,List.mem_append] at hT
  refine dJ.bind (F:=fun σ=>og σ x) (H:=fun y σ=>match lD σ l with
   | some (ys,σ2)=>some (y::ys,σ2)
   | none=>none) (Qb x fun i hi=>hT i (.inl hi)) (fun σ y σ' hn h=>by rw [wQ h,hn]) (fun y=>?_) (fun σ=>by
   simp only [lD]
   rcases og σ x with _ | ⟨a,b⟩
   ·rfl
   ·rcases lD b l with _ | ⟨c,d⟩ <;> rfl)
  exact dJ.bind (F:=fun σ=>lD σ l) (H:=fun ys σ=>some (y::ys,σ)) (Gl l fun i hi=>hT i (.inr hi)) (fun σ y σ' hn h=>by rw [lK h,hn]) (fun ys=>dJ.keep _ fun σ _=>rfl) (fun σ=>by rcases lD σ l with _ | ⟨c,d⟩ <;> rfl)
theorem Ez (x:AV):∀i,i∈kN x.cells→i∈x.ids:=by
 intro i hi
 cases x
 case d y=>
  exfalso
  have hd:∀(l:List D),kN (l.map AV.d)=[]:=by
   intro l
   induction l with
   | nil=>rfl
   | cons a l ih=>simp [kN,AV.ids,ih]
  cases y <;> simp [AV.cells,kN,AV.ids,hd] at hi
 all_goals (simp [AV.cells,kN,AV.ids] at hi ⊢;try exact hi)
theorem Mg {T:List Nat} {n sz:Nat}:∀(l:List (Nat×AV)) (k:Nat),(∀i,i∈kN (l.map (·.2))→i∈T)→dJ T n (fun σ=>mh σ sz k l)
 | [],k,_=>dJ.keep [] fun σ _=>rfl
 | (i,v)::l,k,hT=>by
  simp only [List.map_cons,kN,List.mem_append] at hT
  by_cases hc:i=k∧v.cells.length=sz
  ·refine dJ.bind (F:=fun σ=>Df σ v) (H:=fun y σ=>match mh σ sz (k+1) l with
    | some (ys,σ2)=>some (y::ys,σ2)
    | none=>none) ?_ (fun σ y σ' hn h=>?_) (fun y=>?_) (fun σ=>by
    simp only [mh,if_pos hc]
    rcases Df σ v with _ | ⟨a,b⟩
    ·rfl
    ·rcases mh b sz (k+1) l with _ | ⟨c,d⟩ <;> rfl)
   ·unfold Df
    by_cases ha:v.isAgg
    ·simp only [ha,if_true]
     exact dJ.bind (F:=fun σ=>lD σ v.cells) (H:=fun ds σ=>some (D.agg ds,σ)) (Gl _ fun j hj=>hT j (.inl (Ez v j hj))) (fun σ y σ' hn h=>by rw [lK h,hn]) (fun ds=>dJ.keep _ fun σ _=>rfl) (fun σ=>by rcases lD σ v.cells with _ | ⟨c,d⟩ <;> rfl)
    ·simp only [ha]
     exact Qb v fun j hj=>hT j (.inl hj)
   ·unfold Df at h
    split at h
    ·split at h
     ·rename_i es σ1 hfz
      simp only [Option.some.injEq,Prod.mk.injEq] at h
      rw [← h.2,lK hfz,hn]
     ·cases h
    ·rw [wQ h,hn]
   ·exact dJ.bind (F:=fun σ=>mh σ sz (k+1) l) (H:=fun ys σ=>some (y::ys,σ)) (Mg l (k+1) fun j hj=>hT j (.inr hj)) (fun σ y σ' hn h=>by rw [tT h,hn]) (fun ys=>dJ.keep _ fun σ _=>rfl) (fun σ=>by rcases mh σ sz (k+1) l with _ | ⟨c,d⟩ <;> rfl)
  ·exact dJ.no fun σ _=>by simp only [mh,if_neg hc]
section
variable {β:Type} {T:List Nat} {n:Nat} {G:List Ob→Option (β×List Ob)}
theorem dJ.still (h:∀σ v σ',G σ=some (v,σ')→σ'=σ∧∀σ1:List Ob,σ1.length=σ.length→(∀id,id∈T→σ1[id]?=σ[id]?)→G σ1=some (v,σ1)):dJ T n G:=by
 intro σ y σ' hn hg
 obtain ⟨rfl,h2⟩:=h σ y σ' hg
 refine ⟨by omega,fun _ _ _=>rfl,fun σ1 h1 h3=>⟨σ1,h2 σ1 (by omega) h3,by omega,fun id hid=>?_,fun _ _ _=>rfl⟩⟩
 rcases hid with hid | hid
 ·exact h3 id hid
 ·rw [List.getElem?_eq_none (by omega),List.getElem?_eq_none (by omega)]
theorem dJ.pushes (h:∀σ v σ',G σ=some (v,σ')→∃ob,σ'=σ++[ob]∧∀σ1:List Ob,σ1.length=σ.length→(∀id,id∈T→σ1[id]?=σ[id]?)→G σ1=some (v,σ1++[ob])):dJ T n G:=by
 intro σ y σ' hn hg
 obtain ⟨ob,rfl,h2⟩:=h σ y σ' hg
 refine ⟨by simp;omega,fun id hid _=>by rw [List.getElem?_append_left (by omega)],fun σ1 h1 h3=>⟨σ1++[ob],h2 σ1 (by omega) h3,by simp;omega,fun id hid=>?_,fun id _ hid=>by rw [List.getElem?_append_left (by omega)]⟩⟩
 by_cases hl:id < n
 ·rw [List.getElem?_append_left (by omega),List.getElem?_append_left (by omega)]
  exact h3 id (hid.resolve_right (by omega))
 ·rw [List.getElem?_append_right (by omega),List.getElem?_append_right (by omega),hn,h1]
theorem dJ.sets (h:∀σ v σ',G σ=some (v,σ')→∃i ob,i∈T∧σ'=σ.set i ob∧∀σ1:List Ob,σ1.length=σ.length→(∀id,id∈T→σ1[id]?=σ[id]?)→G σ1=some (v,σ1.set i ob)):dJ T n G:=by
 intro σ y σ' hn hg
 obtain ⟨i,ob,hi,rfl,h2⟩:=h σ y σ' hg
 have ne:∀id,id∉T→i≠id:=fun id hid e=>hid (e▸hi)
 refine ⟨by simp;omega,fun id hid hT=>by rw [List.getElem?_set,if_neg (ne id hT)],fun σ1 h1 h3=>⟨σ1.set i ob,h2 σ1 (by omega) h3,by simp;omega,fun id hid=>?_,fun id hT _=>by rw [List.getElem?_set,if_neg (ne id hT)]⟩⟩
 rw [List.getElem?_set,List.getElem?_set]
 by_cases e:i=id
 ·simp [e,h1,hn]
 ·rw [if_neg e,if_neg e]
  rcases hid with hid | hid
  ·exact h3 id hid
  ·rw [List.getElem?_eq_none (by omega),List.getElem?_eq_none (by omega)]
end
theorem Vj {P:Program} {t:TypeId} {v:AV} {σ σ1:List Ob} (h:∀id,id∈v.ids→σ1[id]?=σ[id]?):mQ P σ1 t v=mQ P σ t v:=by
 cases v
 case ref id idx off=>simp only [mQ];rw [h id (by simp [AV.ids])]
 all_goals rfl
theorem EN {sz:Nat} {v:AV} {σ σ1:List Ob} (h:∀id,id∈v.ids→σ1[id]?=σ[id]?):elems σ1 sz v=elems σ sz v:=by
 cases v
 case slc id sz' off len cap=>simp only [elems];rw [h id (by simp [AV.ids])]
 case d y=>cases y <;> rfl
 all_goals rfl
theorem Vi {P:Program} {t:TypeId} {v y:AV} {T:List Nat} {n:Nat} (hv:∀i,i∈v.ids→i∈T) (hy:∀i,i∈y.ids→i∈T):dJ T n (fun σ=>match mg P σ t v y with
  | some σ'=>some (AV.tuple [],σ')
  | none=>none):=by
 unfold mg
 rcases dF P t with _ | s
 ·exact dJ.no fun σ _=>rfl
 simp only
 by_cases hc:y.cells.length=s∧y.cells.all AV.one=true
 ·cases v
  case ref id idx off=>
   have hid:id∈T:=hv id (by simp [AV.ids])
   simp only [if_pos hc]
   refine dJ.read (fun σ=>σ[id]?) (fun σ σ1 h=>h id hid) (fun a σ=>match (match a with
    | some (.box x)=>if idx=0∧off+s≤x.cells.length then
      (if x.isAgg then some (σ.set id (.box (BR (over x.cells off y.cells)))) else match y.cells with
       | [z]=>some (σ.set id (.box z))
       | _=>none)
      else none
    | some (.row _ _ _)=>match lD σ y.cells with
     | some (ds,σ1)=>match σ1[id]? with
      | some (.row sz xs true)=>match xs[idx]? with
       | some x=>if off+s≤x.cells.length then
         (if x.isAgg then some (σ1.set id (.row sz (xs.set idx (.agg (over x.cells off ds))) true)) else match ds with
          | [z]=>some (σ1.set id (.row sz (xs.set idx z) true))
          | _=>none)
         else none
       | none=>none
      | _=>none
     | none=>none
    | _=>none:Option (List Ob)) with
    | some σ'=>some (AV.tuple [],σ')
    | none=>none) (fun σ=>rfl) (fun a=>?_)
   rcases a with _ | o
   ·exact dJ.no fun σ _=>rfl
   cases o
   case box x=>
    simp only
    split
    ·split
     ·exact dJ.set hid fun σ _=>rfl
     ·split
      ·exact dJ.set hid fun σ _=>rfl
      ·exact dJ.no fun σ _=>rfl
    ·exact dJ.no fun σ _=>rfl
   case row sz xs wr=>
    simp only
    refine dJ.bind (F:=fun σ=>lD σ y.cells) (H:=fun ds σ1=>match (match σ1[id]? with
      | some (.row sz xs true)=>match xs[idx]? with
       | some x=>if off+s≤x.cells.length then
         (if x.isAgg then some (σ1.set id (.row sz (xs.set idx (.agg (over x.cells off ds))) true)) else match ds with
          | [z]=>some (σ1.set id (.row sz (xs.set idx z) true))
          | _=>none)
         else none
       | none=>none
      | _=>none:Option (List Ob)) with
      | some σ'=>some (AV.tuple [],σ')
      | none=>none) (Gl _ fun i hi=>hy i (Ez y i hi)) (fun σ y σ' hn h=>by rw [lK h,hn]) (fun ds=>?_) (fun σ=>by
      rcases lD σ y.cells with _ | ⟨a,b⟩ <;> rfl)
    refine dJ.sets fun σ u σ' h=>?_
    split at h
    ·rename_i σ2 hm
     simp only [Option.some.injEq,Prod.mk.injEq] at h
     obtain ⟨rfl,rfl⟩:=h
     split at hm
     ·rename_i sz' xs' hr
      split at hm
      ·rename_i x hx
       split at hm
       ·rename_i ho
        split at hm
        ·rename_i ha
         simp only [Option.some.injEq] at hm
         subst hm
         exact ⟨id,_,hid,rfl,fun σ1 _ h1=>by rw [h1 id hid,hr];simp only [hx,if_pos ho,ha,if_true]⟩
        ·rename_i ha
         split at hm
         ·simp only [Option.some.injEq] at hm
          subst hm
          exact ⟨id,_,hid,rfl,fun σ1 _ h1=>by rw [h1 id hid,hr];simp only [hx,if_pos ho,if_neg ha]⟩
         ·cases hm
       ·cases hm
      ·cases hm
     ·cases hm
    ·cases h
   all_goals exact dJ.no fun σ _=>rfl
  all_goals exact dJ.no fun σ _=>by simp only [if_pos hc]
 ·exact dJ.no fun σ _=>by simp only [if_neg hc]
inductive Vs (T:List Nat):(List Ob→List Ob)→Prop
 | still:Vs T (fun σ=>σ)
 | push (ob:Ob):Vs T (fun σ=>σ++[ob])
 | set (i:Nat) (ob:Ob) (hi:i∈T):Vs T (fun σ=>σ.set i ob)
 | both (i:Nat) (o ob:Ob) (hi:i∈T):Vs T (fun σ=>σ.set i o++[ob])
theorem Vs.loc {T:List Nat} {f:List Ob→List Ob} (h:Vs T f) (n:Nat):dJ T n (fun σ=>some ((),f σ)):=by
 cases h with
 | still=>exact dJ.keep _ fun σ _=>rfl
 | push ob=>exact dJ.push fun σ _=>rfl
 | set i ob hi=>exact dJ.set hi fun σ _=>rfl
 | both i o ob hi=>
  refine dJ.bind (β:=Unit) (F:=fun σ=>some ((),σ.set i o)) (H:=fun _ σ=>some ((),σ++[ob])) (dJ.set hi fun σ _=>rfl) (fun σ y σ' hn h=>?_) (fun _=>dJ.push fun σ _=>rfl) (fun σ=>rfl)
  simp only [Option.some.injEq,Prod.mk.injEq,true_and] at h
  rw [← h];simpa using hn
theorem dJ.deed {β:Type} {T:List Nat} {n:Nat} {G:List Ob→Option (β×List Ob)} (h:∀σ v σ',G σ=some (v,σ')→∃f,Vs T f∧σ'=f σ∧∀σ1:List Ob,σ1.length=σ.length→(∀id,id∈T→σ1[id]?=σ[id]?)→G σ1=some (v,f σ1)):dJ T n G:=by
 intro σ v σ' hn hg
 obtain ⟨f,hf,rfl,h2⟩:=h σ v σ' hg
 obtain ⟨k1,k2,k3⟩:=hf.loc n σ () (f σ) hn rfl
 refine ⟨k1,k2,fun σ1 h1 h3=>?_⟩
 obtain ⟨Jj,e,q⟩:=k3 σ1 h1 h3
 simp only [Option.some.injEq,Prod.mk.injEq,true_and] at e
 subst e
 exact ⟨_,h2 σ1 (by omega) h3,q⟩
theorem TF {P:Program} {t:TypeId} {s x:AV} {T:List Nat} {n:Nat} (hs:∀i,i∈s.ids→i∈T) (hx:∀i,i∈x.ids→i∈T):dJ T n (fun σ=>jm P σ t s x):=by
 refine dJ.deed fun σ v σ' h=>?_
 have hr:∀(sz:Nat) (σ1:List Ob),(∀id,id∈T→σ1[id]?=σ[id]?)→elems σ1 sz x=elems σ sz x:=fun sz σ1 h1=>EN fun id hid=>h1 id (hx id hid)
 simp only [jm] at h ⊢
 split at h
 ·rename_i e he
  split at h
  ·rename_i i hi
   split at h
   ·rename_i ys z hys hz
    split at h
    ·rename_i hc
     split at h
     ·split at h
      ·rename_i hc2
       simp only [Option.some.injEq,Prod.mk.injEq] at h
       obtain ⟨rfl,rfl⟩:=h
       exact ⟨_,.push _,rfl,fun σ1 hl h1=>by simp only [hr _ σ1 h1,hys,hz,hc,ne_eq,not_false_eq_true,and_self,if_true,if_pos hc2,hl]⟩
      ·cases h
     ·split at h
      ·rename_i hc2
       simp only [Option.some.injEq,Prod.mk.injEq] at h
       obtain ⟨rfl,rfl⟩:=h
       exact ⟨_,.still,rfl,fun σ1 hl h1=>by simp only [hr _ σ1 h1,hys,hz,hc,ne_eq,not_false_eq_true,and_self,if_true,if_pos hc2]⟩
      ·cases h
     ·rename_i id sz off len cap
      have hid:id∈T:=hs id (by simp [AV.ids])
      split at h
      ·rename_i sz' xs wr hrow
       split at h
       ·rename_i hc2
        split at h
        ·rename_i c
         split at h
         ·rename_i hc3
          split at h
          ·rename_i hc4
           simp only [Option.some.injEq,Prod.mk.injEq] at h
           obtain ⟨rfl,rfl⟩:=h
           exact ⟨_,.set _ _ hid,rfl,fun σ1 hl h1=>by simp only [hr _ σ1 h1,hys,hz,hc,ne_eq,not_false_eq_true,and_self,if_true,h1 id hid,hrow,if_pos hc2,if_pos hc3,if_pos hc4]⟩
          ·cases h
         ·rename_i hc3
          simp only [Option.some.injEq,Prod.mk.injEq] at h
          obtain ⟨rfl,rfl⟩:=h
          exact ⟨_,.push _,rfl,fun σ1 hl h1=>by simp only [hr _ σ1 h1,hys,hz,hc,ne_eq,not_false_eq_true,and_self,if_true,h1 id hid,hrow,if_pos hc2,if_neg hc3,hl]⟩
        ·split at h
         ·rename_i hc3
          simp only [Option.some.injEq,Prod.mk.injEq] at h
          obtain ⟨rfl,rfl⟩:=h
          exact ⟨_,.both _ _ _ hid,rfl,fun σ1 hl h1=>by simp only [hr _ σ1 h1,hys,hz,hc,ne_eq,not_false_eq_true,and_self,if_true,h1 id hid,hrow,if_pos hc2,if_pos hc3,hl]⟩
         ·cases h
       ·cases h
      ·cases h
     ·cases h
    ·cases h
   ·cases h
  ·cases h
 ·cases h
theorem Zk {P:Program} {t:TypeId} {s x:AV} {T:List Nat} {n:Nat} (hs:∀i,i∈s.ids→i∈T) (hx:∀i,i∈x.ids→i∈T):dJ T n (fun σ=>TD P σ t s x):=by
 refine dJ.deed fun σ v σ' h=>?_
 have hr:∀(sz:Nat) (σ1:List Ob),(∀id,id∈T→σ1[id]?=σ[id]?)→elems σ1 sz x=elems σ sz x:=fun sz σ1 h1=>EN fun id hid=>h1 id (hx id hid)
 simp only [TD] at h ⊢
 split at h
 ·rename_i e he
  split at h
  ·rename_i z hz
   split at h
   ·rename_i ys hys
    split at h
    ·simp only [Option.some.injEq,Prod.mk.injEq] at h
     obtain ⟨rfl,rfl⟩:=h
     exact ⟨_,.still,rfl,fun σ1 hl h1=>by simp only [hr _ σ1 h1,hys]⟩
    ·rename_i id sz off len cap
     have hid:id∈T:=hs id (by simp [AV.ids])
     split at h
     ·rename_i sz' xs hrow
      split at h
      ·rename_i hc
       simp only [Option.some.injEq,Prod.mk.injEq] at h
       obtain ⟨rfl,rfl⟩:=h
       exact ⟨_,.set _ _ hid,rfl,fun σ1 hl h1=>by simp only [hr _ σ1 h1,hys,hz,hc,ne_eq,not_false_eq_true,and_self,if_true,h1 id hid,hrow,if_pos hc]⟩
      ·cases h
     ·cases h
    ·cases h
   ·cases h
  ·cases h
 ·cases h
theorem QF {P:Program} {t t':TypeId} {x:AV} {T:List Nat} {n:Nat} (hx:∀i,i∈x.ids→i∈T):dJ T n (fun σ=>gy P σ t t' x):=by
 unfold gy
 split
 ·split
  ·split
   ·exact dJ.no fun σ _=>rfl
   ·refine dJ.still fun σ v σ' h=>?_
    have hr:∀σ1:List Ob,(∀id,id∈T→σ1[id]?=σ[id]?)→elems σ1 1 x=elems σ 1 x:=fun σ1 h1=>EN fun id hid=>h1 id (hx id hid)
    split at h
    ·rename_i xs hxs
     split at h
     ·rename_i bs hbs
      simp only [Option.some.injEq,Prod.mk.injEq] at h
      obtain ⟨rfl,rfl⟩:=h
      exact ⟨rfl,fun σ1 _ h1=>by rw [hr σ1 h1,hxs];simp only [hbs]⟩
     ·cases h
    ·cases h
  ·exact dJ.no fun σ _=>rfl
 ·split
  ·split
   ·rename_i s
    refine dJ.push (x:=.slc n 1 0 s.size none) fun σ hn=>by rw [hn]
   ·exact dJ.no fun σ _=>rfl
  ·exact dJ.no fun σ _=>rfl
 ·split
  ·rename_i id sz off len cap _
   refine dJ.still fun σ v σ' h=>?_
   have hr:∀σ1:List Ob,(∀id,id∈T→σ1[id]?=σ[id]?)→σ1[id]?=σ[id]?:=fun σ1 h1=>h1 id (hx id (by simp [AV.ids]))
   split at h
   ·rename_i s0 xs hid
    split at h
    ·rename_i hc
     simp only [Option.some.injEq,Prod.mk.injEq] at h
     obtain ⟨rfl,rfl⟩:=h
     exact ⟨rfl,fun σ1 _ h1=>by rw [hr σ1 h1,hid];simp only [hc,ne_eq,not_false_eq_true,and_self,if_true]⟩
    ·cases h
   ·cases h
  ·exact dJ.no fun σ _=>rfl
 ·split
  ·split
   ·exact dJ.keep _ fun σ _=>rfl
   ·exact dJ.no fun σ _=>rfl
  ·exact dJ.no fun σ _=>rfl
 ·exact dJ.no fun σ _=>rfl
theorem JX {P:Program} {t:TypeId} {len:Nat} {ps:List (Nat×AV)} {T:List Nat} {n:Nat} (hx:∀i,i∈kN (ps.map (·.2))→i∈T):dJ T n (fun σ=>kH P σ t len ps):=by
 unfold kH
 split
 ·rename_i e he
  rcases dF P e with _ | s
  ·exact dJ.no fun σ _=>rfl
  rcases zeroOf P e with _ | z
  ·exact dJ.no fun σ _=>rfl
  simp only
  split
  ·exact dJ.bind (F:=fun σ=>mh σ s 0 ps) (H:=fun ds σ1=>some (AV.slc σ1.length s 0 len (some len),σ1++[.row s ds true])) (Mg ps 0 hx) (fun σ y σ' hn h=>by rw [tT h,hn]) (fun ds=>dJ.push (x:=.slc n s 0 len (some len)) fun σ hn=>by rw [hn]) (fun σ=>by rcases mh σ s 0 ps with _ | ⟨a,b⟩ <;> rfl)
  ·exact dJ.no fun σ _=>rfl
 ·exact dJ.no fun σ _=>rfl
theorem Mj {P:Program} {t:TypeId} {l c:AV} {T:List Nat} {n:Nat}:dJ T n (fun σ=>mo P σ t l c):=by
 unfold mo
 split
 ·split
  ·split
   ·rename_i i z _ _ _
    refine dJ.push (x:=.slc n i.size 0 _ _) fun σ hn=>by rw [hn]
   ·exact dJ.no fun σ _=>rfl
  ·exact dJ.no fun σ _=>rfl
 ·exact dJ.no fun σ _=>rfl
theorem QC {P:Program} {t:TypeId} {r:Option AV} {T:List Nat} {n:Nat}:dJ T n (fun σ=>wX P σ t r):=by
 unfold wX
 split
 ·exact dJ.push (x:=.uW n) fun σ hn=>by rw [hn]
 ·exact dJ.push (x:=.uW n) fun σ hn=>by rw [hn]
 ·exact dJ.no fun σ _=>rfl
theorem QD {P:Program} {t:TypeId} {v i:AV} {ok:Bool} {σ σ1:List Ob} (h:∀id,id∈v.ids→σ1[id]?=σ[id]?):zT P σ1 t v i ok=zT P σ t v i ok:=by
 cases v
 case uW id=>
  unfold zT
  split
  ·rename_i td e id' k hT hx
   cases hx
   rw [h _ (by simp [AV.ids])]
  ·rfl
 all_goals
  unfold zT
  split
  ·rename_i h;cases h
  ·rfl
theorem abT {T:List Nat} {n:Nat} (x:AV) (hT:∀i,i∈x.ids→i∈T):dJ T n (fun σ=>Df σ x):=by
 unfold Df
 by_cases ha:x.isAgg
 ·simp only [ha,if_true]
  exact dJ.bind (F:=fun σ=>lD σ x.cells) (H:=fun ds σ=>some (D.agg ds,σ)) (Gl _ fun j hj=>hT j (Ez x j hj)) (fun σ y σ' hn h=>by rw [lK h,hn]) (fun ds=>dJ.keep _ fun σ _=>rfl) (fun σ=>by rcases lD σ x.cells with _ | ⟨c,d⟩ <;> rfl)
 ·simp only [ha]
  exact Qb x hT
theorem S9 {x:AV} {σ σ':List Ob} {y:D} (h:Df σ x=some (y,σ')):σ'.length=σ.length:=by
 unfold Df at h
 split at h
 ·split at h
  ·rename_i es σ1 hfz
   simp only [Option.some.injEq,Prod.mk.injEq] at h
   rw [← h.2,lK hfz]
  ·cases h
 ·rw [wQ h]
theorem Mi {P:Program} {t:TypeId} {m i v:AV} {T:List Nat} {n:Nat} (hm:∀i,i∈m.ids→i∈T) (hv:∀i,i∈v.ids→i∈T):dJ T n (fun σ=>wW P σ t m i v):=by
 unfold wW
 split
 ·rename_i td e id k hT
  have hid:id∈T:=hm id (by simp [AV.ids])
  split
  ·refine dJ.bind (F:=fun σ=>Df σ v) (H:=fun y σ1=>match σ1[id]? with
    | some (.map es)=>match aeg k y es with
     | some es'=>some (AV.tuple [],σ1.set id (.map es'))
     | none=>none
    | _=>none) (abT v hv) (fun σ y σ' hn h=>by rw [S9 h,hn]) (fun y=>?_) (fun σ=>by rcases Df σ v with _ | ⟨a,b⟩ <;> rfl)
   refine dJ.read (fun σ=>σ[id]?) (fun σ σ1 h=>h id hid) (fun a σ=>match a with
    | some (.map es)=>match aeg k y es with
     | some es'=>some (AV.tuple [],σ.set id (.map es'))
     | none=>none
    | _=>none) (fun σ=>rfl) (fun a=>?_)
   split
   ·split
    ·exact dJ.set hid fun σ _=>rfl
    ·exact dJ.no fun σ _=>rfl
   ·exact dJ.no fun σ _=>rfl
  ·exact dJ.no fun σ _=>rfl
 ·exact dJ.no fun σ _=>rfl
end Lv
