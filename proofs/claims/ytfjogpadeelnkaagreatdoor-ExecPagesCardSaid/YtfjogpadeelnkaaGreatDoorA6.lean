/- Arguments of plain data, read off memory, of sizes that are known. -/
import Derived.Test.YtfjogpadeelnkaaGreatDoorA2
import Derived.SizedLaws
set_option linter.unnecessarySimpa false
set_option linter.unusedVariables false
set_option linter.unusedSimpArgs false
set_option linter.unusedSectionVars false
/- Arguments of plain data, read off memory, of sizes that are known. -/
namespace Lv
open Go
structure ME {H:Type} (P:Program) (R:Nat) (good:TypeId→DataW H→Prop):Prop where
 str:∀t (bs:List UInt8),good t (.lit (.string bs))→bs.length≤R
 agg:∀t (ps:List (DataW H)),P.underlying t=some (.struct (P.fieldsOf t))→good t (.agg ps)→∀(j:Nat) t' d,((P.fieldsOf t).toList.map (·.type))[j]?=some t'→ps[j]?=some d→good t' d
 slice:∀t e (es r:List (DataW H)),P.underlying t=some (.slice e)→P.bytesOf e≠0→good t (.slice es r)→es.length≤R∧∀d∈es,good e d
theorem Wy {H:Type} {P:Program} {e:TypeId}:∀{l:List (DataW H)} {d:DataW H},d∈l→∀n∈d.weights P e,n∈DataW.weightsAll P e l
 | d0::l,d,hd,n,hn=>by
  simp only [DataW.weightsAll,List.mem_append]
  rcases List.mem_cons.1 hd with rfl | hd
  ·exact .inl hn
  ·exact .inr (Wy hd n hn)
theorem YC {H:Type} (P:Program):ME (H:=H) P reachBytes (fun t d=>∀n∈d.weights P t,n≤reachBytes) where
 str t bs h:=h bs.length (by simp [DataW.weights])
 agg t ps hu h j t' d ht hd n hn:=h n (by
  simp only [DataW.weights,hu]
  exact DataW.weights_mem_each ht hd n hn)
 slice t e es r hu hb h:=by
  have h1:=h ((es.length+r.length)*P.bytesOf e) (by simp [DataW.weights,hu])
  refine ⟨?_,fun d hd n hn=>h n ?_⟩
  ·have:es.length≤(es.length+r.length)*P.bytesOf e:=Nat.le_trans (Nat.le_add_right _ _) (Nat.le_mul_of_pos_right _ (Nat.pos_of_ne_zero hb))
   omega
  ·simp only [DataW.weights,hu,List.mem_cons,List.mem_append]
   exact .inr (.inl (Wy hd n hn))
theorem qm {H:Type} {P:Program} {t e:TypeId} {K:Nat} (hu:P.underlying t=some (.slice e)) (hK:P.bytesOf e=K) (es r:List (DataW H)) (h:∀n∈(DataW.slice es r).weights P t,n≤reachBytes):es.length*K≤reachBytes:=by
 have h1:=h ((es.length+r.length)*P.bytesOf e) (by simp [DataW.weights,hu])
 rw [hK] at h1
 exact Nat.le_trans (Nat.mul_le_mul_right _ (Nat.le_add_right _ _)) h1
structure Sd {H:Type} (good:TypeId→DataW H→Prop) (enc:TypeId×Value→H) (P:Program) (w:World) (t:TypeId) {α:Type} (f:α→D) (sz:Nat) (ok:α→Prop):Prop where
 get:∀{b:Nat} {sp:Nat→Bool} {held:Bool} {n:Nat} {cs:List Value} {x:DataW H×List MemPlace},DataW.trod enc P w b sp held n t cs=some x→∃a:α,cs.length=sz∧(f a).F8 sz∧nL w cs 0 (f a).cells∧(good t x.1→ok a)
theorem Ip {w:World} {x:D} {v:Value} (hx:x.cells=[x]) (h:DR (fun q=>w.cell? q) x v):nL w [v] 0 x.cells:=by
 intro j c hc
 rw [hx] at hc
 cases j with
 | zero=>simp at hc;subst hc;exact ⟨v,rfl,h⟩
 | succ j=>simp at hc
theorem D6 {w:World} {a:Addr} {v:Value} (h:w.cell? a=some v):a.spot=none:=by
 unfold World.cell? at h
 split at h
 ·split at h
  ·cases h
  ·rename_i hs;cases hsp:a.spot with
   | none=>rfl
   | some x=>rw [hsp] at hs;simp at hs
 ·cases h
section
variable {H:Type} {R:Nat} {good:TypeId→DataW H→Prop} {enc:TypeId×Value→H} {P:Program} {w:World} {t:TypeId} (B:ME P R good)
include B
theorem akC (hu:P.underlying t=some (.int .i64)):Sd good enc P w t eI 1 (fun n=> -9223372036854775808≤n∧n < 9223372036854775808) where
 get h:=by
  obtain ⟨n,rfl,rfl,hw⟩:=DataW.trod_int hu h
  refine ⟨n,rfl,⟨rfl,fun c hc=>by simp [D.cells] at hc;subst hc;rfl⟩,Ip rfl (.int _ _),fun _=>?_⟩
  simp only [Lit.wf,Bool.and_eq_true,decide_eq_true_eq] at hw
  have e1:IntKind.i64.min = -9223372036854775808:=rfl
  have e2:IntKind.i64.max=9223372036854775807:=rfl
  rw [e1,e2] at hw
  omega
theorem akA (hu:P.underlying t=some (.int .u64)):Sd good enc P w t eX 1 (fun _=>True) where
 get h:=by
  obtain ⟨n,rfl,rfl,hw⟩:=DataW.trod_int hu h
  simp only [Lit.wf,Bool.and_eq_true,decide_eq_true_eq] at hw
  have e1:IntKind.u64.min=0:=rfl
  have e2:IntKind.u64.max=18446744073709551615:=rfl
  rw [e1,e2] at hw
  have hn:eX (UInt64.ofNat n.toNat)=.int .u64 n:=by
   show D.int .u64 _=_
   congr 1
   rw [UInt64.toNat_ofNat']
   omega
  refine ⟨UInt64.ofNat n.toNat,rfl,⟨rfl,fun c hc=>by simp [D.cells] at hc;subst hc;rfl⟩,?_,fun _=>trivial⟩
  exact Ip rfl (by rw [hn];exact .int _ _)
theorem ahm (hu:P.underlying t=some .bool):Sd good enc P w t eB 1 (fun _=>True) where
 get h:=by
  obtain ⟨n,rfl,rfl⟩:=DataW.trod_bool hu h
  exact ⟨n,rfl,⟨rfl,fun c hc=>by simp [D.cells] at hc;subst hc;rfl⟩,Ip rfl (.bool _),fun _=>trivial⟩
theorem akB (hu:P.underlying t=some .string):Sd good enc P w t eS 1 (fun s=>s.length≤R) where
 get h:=by
  obtain ⟨s,rfl,rfl,hs⟩:=DataW.trod_string hu h
  exact ⟨s.data.toList,rfl,⟨rfl,fun c hc=>by simp [D.cells] at hc;subst hc;rfl⟩,Ip rfl (.str _),fun hg=>B.str _ _ hg⟩
theorem vZ {el:TypeId} {α:Type} {f:α→D} {sz K:Nat} {ok:α→Prop} (hu:P.underlying t=some (.slice el)) (hc:P.cellsOf el=sz) (h0:sz≠0) (hby:P.bytesOf el≠0) (hK:∀(es r:List (DataW H)),good t (.slice es r)→es.length*K≤R) (Q:Sd good enc P w el f sz ok):Sd good enc P w t (eL sz f) 1 (fun l=>l.length*K≤R∧∀x∈l,ok x) where
 get h :=by
  rcases DataW.trod_slice hu h with ⟨rfl,rfl⟩ | ⟨a,len,cap,elems,rest,n,_,rfl,rfl,hb,hl,hm,hlen,hel,_,_⟩
  ·exact ⟨[],rfl,⟨rfl,fun c hc=>by simp [D.cells] at hc;subst hc;rfl⟩,Ip rfl (.nl sz),fun _=>⟨by simp,fun x hx=>by simp at hx⟩⟩
  ·have each:∀i,i < len→∃(y:α) (cs:List Value) (d:DataW H×List MemPlace),elems[i]?=some d∧(∀j v,cs[j]?=some v→w.cell? (a.add (i*sz+j))=some v)∧cs.length=sz∧(f y).F8 sz∧nL w cs 0 (f y).cells∧(good el d.1→ok y):=by
    intro i hi
    have he:=hel i hi
    obtain ⟨d,hd⟩:∃d,elems[i]?=some d:=⟨_,List.getElem?_eq_getElem (by omega)⟩
    rw [hd,Option.bind_eq_some_iff] at he
    obtain ⟨cs,h1,h2⟩:=he
    obtain ⟨y,k1,k2,k3,k4⟩:=Q.get h2
    refine ⟨y,cs,d,hd,fun j v hv=>?_,k1,k2,k3,k4⟩
    rw [hc] at h1
    obtain ⟨_,q1,q2⟩:=World.cells?_some h1
    have hj:j < sz:=by rw [← k1];exact WC hv
    have:=q2 j hj
    rw [hv] at this
    have e:(a.add (i*sz)).add j=a.add (i*sz+j):=by
     simp only [Addr.add]
     by_cases hj0:j=0
     ·subst hj0;simp
     ·by_cases hi0:i*sz=0
      ·simp [hi0,hj0]
      ·simp [hi0,hj0];omega
    rw [← e];exact this
   -- the list
   have build:∀k,k≤len→∃l:List α,l.length=k∧∀i x,l[i]?=some x→i < len∧∃(cs:List Value) (d:DataW H×List MemPlace),elems[i]?=some d∧(∀j v,cs[j]?=some v→w.cell? (a.add (i*sz+j))=some v)∧cs.length=sz∧(f x).F8 sz∧nL w cs 0 (f x).cells∧(good el d.1→ok x):=by
    intro k
    induction k with
    | zero=>intro _;exact ⟨[],rfl,fun i x h=>by simp at h⟩
    | succ k ih=>
     intro hk
     obtain ⟨l,h1,h2⟩:=ih (by omega)
     obtain ⟨y,rest⟩:=each k (by omega)
     refine ⟨l++[y],by simp [h1],fun i x hx=>?_⟩
     rw [List.getElem?_append] at hx
     split at hx
     ·exact h2 i x hx
     ·rename_i hi
      have hi2:i=k:=by
       have:=WC hx
       simp at this
       omega
      subst hi2
      rw [h1,Nat.sub_self] at hx
      simp at hx
      subst hx
      exact ⟨by omega,rest⟩
   obtain ⟨l,hll,hl2⟩:=build len (Nat.le_refl _)
   refine ⟨l,rfl,⟨rfl,fun c hc=>by simp [D.cells] at hc;subst hc;rfl⟩,Ip rfl ?_,fun hg=>?_⟩
   ·have hd:=DR.y8 (ro:=fun q=>w.cell? q) sz (l.map f) a cap (fun k=>(w.cell? (a.add k)).getD undef) (by simp;omega) (fun hne=>?_) (fun i x hx=>?_) (fun i x j c hx hj=>?_) (fun i x j c hx hj=>?_)
    ·rw [List.length_map,hll] at hd;exact hd
    ·have:l≠[]:=by intro e;subst e;simp at hne
     have hpos:0 < l.length:=List.length_pos_iff.2 this
     obtain ⟨_,cs,d,_,k1,k2,k3,_⟩:=hl2 0 _ (List.getElem?_eq_getElem hpos)
     have hcs:0 < cs.length:=by omega
     have:=k1 0 _ (List.getElem?_eq_getElem hcs)
     have e:a.add (0*sz+0)=a:=by simp [Addr.add]
     rw [e] at this
     exact D6 this
    ·simp only [List.getElem?_map,Option.map_eq_some_iff] at hx
     obtain ⟨y,hy,rfl⟩:=hx
     obtain ⟨_,cs,d,_,_,_,k3,_⟩:=hl2 i y hy
     exact k3
    all_goals
     simp only [List.getElem?_map,Option.map_eq_some_iff] at hx
     obtain ⟨y,hy,rfl⟩:=hx
     obtain ⟨_,cs,d,_,k1,k2,k3,k4,_⟩:=hl2 i y hy
     obtain ⟨v,q1,q2⟩:=k4 j c hj
     rw [Nat.zero_add] at q1
     have q3:=k1 j v q1
    ·have hsp:a.spot=none:=by
      have:=D6 q3
      unfold Addr.add at this
      split at this
      ·exact this
      ·have hpos:0 < l.length:=by have:=WC hy;omega
       obtain ⟨_,cs',d',_,k1',k2',_⟩:=hl2 0 _ (List.getElem?_eq_getElem hpos)
       have hcs:0 < cs'.length:=by omega
       have:=k1' 0 _ (List.getElem?_eq_getElem hcs)
       have e:a.add (0*sz+0)=a:=by simp [Addr.add]
       rw [e] at this
       exact D6 this
     have e:cellAt a.block (a.off+(i*sz+j))=a.add (i*sz+j):=by
      unfold Addr.add cellAt
      split
      ·rename_i h0';rw [h0',Nat.add_zero];obtain ⟨ab,ao,asp⟩:=a;simp only at hsp;subst hsp;rfl
      ·obtain ⟨ab,ao,asp⟩:=a;rfl
     simp only [e,q3];rfl
    ·simp only [q3];exact q2
   ·obtain ⟨g1,g2⟩:=B.slice t el (elems.map (·.1)) (rest.map (·.1)) hu hby hg
    have g0:=hK _ _ hg
    rw [List.length_map] at g0
    refine ⟨by rw [hll,← hlen];exact g0,fun x hx=>?_⟩
    obtain ⟨i,hi⟩:=List.getElem?_of_mem hx
    obtain ⟨_,cs,d,h1,_,_,_,_,h⟩:=hl2 i x hi
    exact h (g2 _ (List.mem_map.2 ⟨d,List.mem_of_getElem? h1,rfl⟩))
structure SdF {H:Type} (good:TypeId→DataW H→Prop) (enc:TypeId×Value→H) (P:Program) (w:World) (fs:List (TypeId×Nat)) (off:Nat) {α:Type} (g:α→List D) (sz:Nat) (ok:α→Prop):Prop where
 get:∀{b:Nat} {sp:Nat→Bool} {held:Bool} {n:Nat} {cs:List Value} {xs:List (DataW H×List MemPlace)},xs.length=fs.length→(∀(i:Nat) t o,fs[i]?=some (t,o)→DataW.trod enc P w b sp held n t ((cs.drop o).take (P.cellsOf t))=xs[i]?)→
  ∃a:α,(g a).length=sz∧(∀c∈g a,c.isAgg=false)∧nL w cs off (g a)∧((∀(i:Nat) t o x,fs[i]?=some (t,o)→xs[i]?=some x→good t x.1)→ok a)
omit B in
theorem KI {off:Nat}:SdF good enc P w [] off (fun _:Unit=>[]) 0 (fun _=>True) where
 get _ _:=⟨(),rfl,fun c hc=>by simp at hc,fun j c h=>by simp at h,fun _=>trivial⟩
omit B in
theorem iE {off sz sz':Nat} {fs:List (TypeId×Nat)} {α α':Type} {f:α→D} {g:α'→List D} {ok:α→Prop} {ok':α'→Prop} (hc:P.cellsOf t=sz) (Q:Sd good enc P w t f sz ok) (F:SdF good enc P w fs (off+sz) g sz' ok'):
  SdF good enc P w ((t,off)::fs) off (fun p:α×α'=>(f p.1).cells++g p.2) (sz+sz') (fun p=>ok p.1∧ok' p.2) where
 get hl h:=by
  rename_i b sp held n cs xs
  cases xs with
  | nil=>simp at hl
  | cons x xs=>
   have h0:=h 0 t off rfl
   obtain ⟨a,k1,k2,k3,k5⟩:=Q.get (x:=x) h0
   obtain ⟨a',m1,m2,m3,m5⟩:=F.get (xs:=xs) (by simpa using hl) (fun i t o hi=>by have:=h (i+1) t o (by simpa using hi);simpa using this)
   refine ⟨(a,a'),by rw [List.length_append,m1,k2.1],fun c hc=>?_,?_,fun hg=>⟨k5 (hg 0 t off x rfl rfl),m5 fun i t o y h1 h2=>hg (i+1) t o y (by simpa using h1) (by simpa using h2)⟩⟩
   ·rcases List.mem_append.1 hc with hc | hc
    ·exact k2.2 c hc
    ·exact m2 c hc
   ·refine nL.append (nL.part (sz:=P.cellsOf t) k3) ?_
    rw [k2.1];exact m3
theorem vY {fs:List (TypeId×Nat)} {α S:Type} {f:S→D} {g:α→List D} {sz:Nat} {ok:α→Prop} {ok':S→Prop} (mk:α→S) (hu:P.underlying t=some (.struct (P.fieldsOf t))) (hc:P.cellsOf t=sz) (hf:(P.fieldsOf t).toList.map (fun x=>(x.type,x.offset))=fs)
  (F:SdF good enc P w fs 0 g sz ok) (hm:∀a,f (mk a)=.agg (g a)) (hok:∀a,ok a→ok' (mk a)):Sd good enc P w t f sz ok' where
 get h:=by
  obtain ⟨xs,n,rfl,rfl,hl,hlen,hel⟩:=DataW.trod_struct hu h
  obtain ⟨a,k1,k2,k3,k5⟩:=F.get (xs:=xs) (by rw [hlen,← hf];simp) (fun i t' o hi=>by
   rw [← hf,List.getElem?_map,Option.map_eq_some_iff] at hi
   obtain ⟨y,hy,he⟩:=hi
   injection he with h1 h2
   subst h1;subst h2
   exact hel i y (by simpa using hy))
  refine ⟨mk a,by rw [hl,hc],?_,?_,fun hg=>hok a (k5 fun i t' o x h1 h2=>?_)⟩
  ·rw [hm];exact ⟨k1,k2⟩
  ·rw [hm];exact k3
  ·refine B.agg t (xs.map (·.1)) hu hg i t' x.1 ?_ (by simp [h2])
   rw [← hf,List.getElem?_map,Option.map_eq_some_iff] at h1
   obtain ⟨y,hy,he⟩:=h1
   injection he with q1 q2
   subst q1
   rw [List.getElem?_map,hy];rfl
theorem Wd {α:Type} {f:α→D} {sz:Nat} {ok:α→Prop} (Q:Sd good enc P w t f sz ok) {b:Nat} {sp:Nat→Bool} {held:Bool} {v:Value} {d:DataW H} {p:List MemPlace} (h:DataW.Trod enc P w b sp held t v d p)
  (hv:(∀a,(f a).isAgg=true∧∃cs,v=.agg cs)∨(∀a,(f a).isAgg=false∧∀cs,v≠.agg cs)) (hg:good t d):∃a:α,VR (fun q=>w.cell? q) (fun _=>none) (.d (f a)) v∧ok a:=by
 obtain ⟨n,hn⟩:=h
 obtain ⟨a,h1,h2,h3,h5⟩:=Q.get hn
 refine ⟨a,.d _ _ ?_,h5 hg⟩
 rcases hv with hv | hv
 ·obtain ⟨ha,cs,rfl⟩:=hv a
  cases hf:f a with
  | agg ds=>
   rw [hf] at h2 h3
   have hl:ds.length=sz:=h2.1
   have hcs:cs.toList.length=sz:=h1
   refine .agg ds cs (by rw [hl];simpa using hcs) fun i x u hx hu=>?_
   obtain ⟨v,q1,q2⟩:=h3 i x hx
   have:cs.toList[i]?=some v:=by rw [Nat.zero_add] at q1;exact q1
   have:v=u:=by
    have h9:cs[i]?=some v:=by simpa using this
    rw [hu] at h9;exact (Option.some.inj h9).symm
   subst this
   exact q2
  | _=>rw [hf] at ha;simp [D.isAgg] at ha
 ·obtain ⟨ha,hna⟩:=hv a
  have hc:v.cells=#[v]:=by
   cases v with
   | agg cs=>exact absurd rfl (hna cs)
   | _=>rfl
  have hfc:(f a).cells=[f a]:=by
   cases hf:f a with
   | agg ds=>rw [hf] at ha;simp [D.isAgg] at ha
   | _=>rfl
  obtain ⟨u,q1,q2⟩:=h3 0 (f a) (by rw [hfc];rfl)
  rw [hc] at q1
  simp at q1
  subst q1
  exact q2
end
end Lv
