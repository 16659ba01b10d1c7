/- Part of the proof of a law. -/
import Derived.Test.YtfjogpadeelnkaaGreatDoorA4
import Derived.Test.YtfjogpadeelnkaaGreatDoorA2
import Derived.Lib.ValidLaws
import Derived.KernelRfl
set_option linter.unnecessarySimpa false
set_option linter.unusedVariables false
set_option linter.unusedSimpArgs false
set_option linter.unusedSectionVars false
set_option maxRecDepth 100000
namespace Lv
open Go Go.Proofs
variable [bJ]
def val (v:aj):Bool:=
 (v.Kind==0&&(v.N==0&&v.S==[])) || ((v.Kind==1 || v.Kind==2)&&v.S==[]) || (v.Kind==3&&(decide (v.N < 2)&&v.S==[])) ||
 (v.Kind==4&&(v.N==0&&decide (v.S.length≤64))) || (v.Kind==5&&(v.N==0&&(decide (v.S.length≤64)&&Go.Lib.validD v.S)))
theorem vT (v:aj) (h:v.S.length < 4611686018427387904):lG v=some (val v):=by
 have e1:Kz v.S=some (Go.Lib.validD v.S):=by unfold Kz;rw [if_pos (by omega)]
 have e2:((v.S.length:Int)≤64)=(v.S.length≤64):=propext (by omega)
 have e3:(v.N≤1)=(v.N < 2):=propext (by rw [UInt64.le_iff_toNat_le,UInt64.lt_iff_toNat_lt];show _≤1↔_ < 2;omega)
 obtain ⟨K,N,S⟩:=v
 unfold lG val
 simp only [e1,e2,e3,gq,Bool.and_true] at *
 by_cases k0:K=0
 ·subst k0;simp
 by_cases k1:K=1
 ·subst k1;simp
 by_cases k2:K=2
 ·subst k2;simp
 by_cases k3:K=3
 ·subst k3;by_cases hN:N < 2 <;> simp [hN]
 by_cases k4:K=4
 ·subst k4;cases hN:(N==0) <;> simp [hN]
 by_cases k5:K=5
 ·subst k5;cases hN:(N==0) <;> by_cases hS:S.length≤64 <;> simp [hN,hS]
 simp [beq_eq_false_iff_ne.2 k0,beq_eq_false_iff_ne.2 k1,beq_eq_false_iff_ne.2 k2,beq_eq_false_iff_ne.2 k3,beq_eq_false_iff_ne.2 k4,beq_eq_false_iff_ne.2 k5]
def XG (s : List UInt8) (i n:Int):Int×Int→Option ((Int×Int)⊕(Int⊕Bool)):=fun (afc,ZK)=>
                      bif (decide (ZK < n)) then
                        Option.bind (bP s (bL (i+ZK))) fun Z5=>
                        Option.bind (α:=Bool)
                          (bif (decide ((Z5.toNat:Int) < (128:Int))) then
                            some true
                          else
                            some (decide ((Z5.toNat:Int)≥(192:Int))))
                          fun ajS=>
                        bif ajS then
                          some (Sum.inr (Sum.inr false))
                        else
                          some (Sum.inl ((bL ((bL ((bL (afc*(64:Int)))+(Z5.toNat:Int))) - (128:Int))),(bL (ZK+(1:Int)))))
                      else
                        some (Sum.inr (Sum.inl afc))
theorem yC (s:List UInt8) (i:Nat) (n k c:Int) (b:UInt8) (hk:0≤k) (hn:k < n) (hn4:n≤4) (hi:i+k.toNat < s.length) (hs:s.length < 4611686018427387904) (hc:0≤c∧c < 4294967296) (hb:s.getD (i+k.toNat) 0=b):
  loop (XG s i n) (c,k)=if b.toNat / 64=2 then loop (XG s i n) (c*64+(b.toNat:Int) - 128,k+1) else some (.inr false):=by
 have hg:bP s (bL ((i:Int)+k))=some b:=by
  rw [gL (by omega) (by omega)]
  unfold bP
  rw [if_pos (by omega),show ((i:Int)+k).toNat=i+k.toNat by omega,List.getElem?_eq_getElem hi]
  rw [List.getD_eq_getElem?_getD,List.getElem?_eq_getElem hi] at hb
  exact congrArg some hb
 have hlt:=b.toNat_lt
 by_cases h:b.toNat / 64=2
 ·rw [if_pos h]
  refine gB ?_
  show (bif (decide (k < n)) then _ else _)=_
  rw [decide_eq_true hn,cond_true,hg,av,aP (show ¬((b.toNat:Int) < 128) by omega),av,aP (show ¬((b.toNat:Int)≥192) by omega)]
  rw [gL (n:=c*64) (by omega) (by omega),gL (n:=c*64+_) (by omega) (by omega),gL (n:=c*64+_ - _) (by omega) (by omega),gL (n:=k+1) (by omega) (by omega)]
 ·rw [if_neg h]
  refine fM ?_
  show (bif (decide (k < n)) then _ else _)=_
  rw [decide_eq_true hn,cond_true,hg,av]
  by_cases h2:b.toNat < 128
  ·rw [aD (show ((b.toNat:Int) < 128) by omega),av,cond_true]
  ·rw [aP (show ¬((b.toNat:Int) < 128) by omega),av,aD (show ((b.toNat:Int)≥192) by omega)]
theorem J2 (s:List UInt8) (i:Nat) (n c:Int):loop (XG s i n) (c,n)=some (.inl c):=by
 refine fM ?_
 show (bif (decide (n < n)) then _ else _)=_
 rw [aP (show ¬(n < n) by omega)]
def pV (l:List UInt8):Nat:=
 if (Go.Lib.decodeN l.length (l.getD 0 0).toNat (l.getD 1 0).toNat (l.getD 2 0).toNat (l.getD 3 0).toNat).1=65533∧(Go.Lib.decodeN l.length (l.getD 0 0).toNat (l.getD 1 0).toNat (l.getD 2 0).toNat (l.getD 3 0).toNat).2=1 then 0
 else (Go.Lib.decodeN l.length (l.getD 0 0).toNat (l.getD 1 0).toNat (l.getD 2 0).toNat (l.getD 3 0).toNat).2
theorem Q9 (l:List UInt8) (hne:l≠[]):Go.Lib.validD l=if pV l=0 then false else Go.Lib.validD (l.drop (pV l)):=by
 have hw:=Go.Lib.decodeL_width l
 have hl:0 < l.length:=List.length_pos_iff.2 hne
 rw [Go.Lib.validD_step l hne,Go.Lib.decodeL_N]
 rw [Go.Lib.decodeL_N] at hw
 unfold pV
 split
 ·simp
 ·rw [if_neg (by omega)]
theorem aad (l:List UInt8) (h:(l.getD 0 0).toNat < 128):pV l=1:=by
 unfold pV Go.Lib.decodeN
 rw [if_pos h]
 simp only
 rw [if_neg (by omega)]
theorem Fu (l:List UInt8) (h:(128≤(l.getD 0 0).toNat∧(l.getD 0 0).toNat < 194)∨245≤(l.getD 0 0).toNat):pV l=0:=by
 unfold pV
 have:=(l.getD 0 0).toNat_lt
 rw [Go.Lib.decodeN_bad _ _ _ _ _ (by omega)]
 rfl
theorem aac (l:List UInt8) (h:194≤(l.getD 0 0).toNat∧(l.getD 0 0).toNat < 224):pV l=if 1 < l.length∧(l.getD 1 0).toNat / 64=2 then 2 else 0:=by
 unfold pV Go.Lib.decodeN
 repeat' split
 all_goals first | rfl | (exfalso;omega) | (simp only at *;omega)
theorem Z9 (l:List UInt8) (h:224≤(l.getD 0 0).toNat∧(l.getD 0 0).toNat < 240):pV l=if (2 < l.length∧(l.getD 1 0).toNat / 64=2∧(l.getD 2 0).toNat / 64=2)∧2048≤(l.getD 0 0).toNat % 16*4096+(l.getD 1 0).toNat % 64*64+(l.getD 2 0).toNat % 64∧((l.getD 0 0).toNat % 16*4096+(l.getD 1 0).toNat % 64*64+(l.getD 2 0).toNat % 64 < 55296∨57344≤(l.getD 0 0).toNat % 16*4096+(l.getD 1 0).toNat % 64*64+(l.getD 2 0).toNat % 64) then 3 else 0:=by
 unfold pV Go.Lib.decodeN
 repeat' split
 all_goals first | rfl | (exfalso;omega) | (simp only at *;omega)
theorem Z8 (l:List UInt8) (h:240≤(l.getD 0 0).toNat∧(l.getD 0 0).toNat < 245):pV l=if (3 < l.length∧(l.getD 1 0).toNat / 64=2∧(l.getD 2 0).toNat / 64=2∧(l.getD 3 0).toNat / 64=2)∧65536≤(l.getD 0 0).toNat % 8*262144+(l.getD 1 0).toNat % 64*4096+(l.getD 2 0).toNat % 64*64+(l.getD 3 0).toNat % 64∧(l.getD 0 0).toNat % 8*262144+(l.getD 1 0).toNat % 64*4096+(l.getD 2 0).toNat % 64*64+(l.getD 3 0).toNat % 64≤1114111 then 4 else 0:=by
 unfold pV Go.Lib.decodeN
 repeat' split
 all_goals first | rfl | (exfalso;omega) | (simp only at *;omega)
theorem Qs {p q:Prop} [Decidable p] [Decidable q] (h:p↔q):decide p=decide q:=decide_eq_decide.2 h
noncomputable def OZ (p0:List UInt8) (ZM y1207 y1208 y1209:Int):Option (Int⊕(Unit⊕Bool)):=
              bif (decide ((bL (ZM+y1207)) > (p0.length:Int))) then
                some (Sum.inr (Sum.inr false))
              else
                fP (Y :=Int) (E:=Bool)
                  (Option.bind (α:=Int⊕Bool) (loop (XG p0 ZM y1207) (y1209,(1:Int)))
                    (Sum.elim (fun e=>some (Sum.inl e)) (fun e=>some (Sum.inr e))))
                  (fun VI =>
                    Option.bind (α:=Bool)
                      (bif (decide (VI < y1208)) then
                        some true
                      else
                        bif (decide (VI > (1114111:Int))) then
                          some true
                        else
                          bif (decide (VI≥(55296:Int))) then
                            some (decide (VI < (57344:Int)))
                          else
                            some false)
                      fun ajR=>
                    bif ajR then
                      some (Sum.inr (Sum.inr false))
                    else
                      some (Sum.inl (bL (ZM+y1207))))
                  (fun e=>some (Sum.inr (Sum.inr e)))
theorem Fq {s:List UInt8} {i n:Nat} {m c c':Int} (hn:n≤4) (hs:s.length < 4611686018427387904) (hi:i+n≤s.length) (h:loop (XG s i n) (c,1)=some (.inl c')):
  OZ s i n m c=some (if c' < m∨c' > 1114111∨(55296≤c'∧c' < 57344) then .inr (.inr false) else .inl ((i+n:Nat):Int)):=by
 unfold OZ
 rw [gL (n:=(i:Int)+n) (by omega) (by omega),aP (show ¬((i:Int)+n > (s.length:Int)) by omega),h,av,Sum.elim_inl,GH]
 by_cases h1:c' < m
 ·rw [aD h1,av,cond_true,if_pos (.inl h1)]
 rw [aP h1]
 by_cases h2:c' > 1114111
 ·rw [aD h2,av,cond_true,if_pos (.inr (.inl h2))]
 rw [aP h2]
 by_cases h3:c'≥55296
 ·rw [aD h3,av]
  by_cases h4:c' < 57344
  ·rw [aD h4,if_pos (.inr (.inr ⟨h3,h4⟩))]
  ·rw [aP h4,if_neg (by omega)];rfl
 ·rw [aP h3,av,cond_false,if_neg (by omega)];rfl
theorem Cu {s:List UInt8} {i n:Nat} {m c:Int} (hn:n≤4) (hs:s.length < 4611686018427387904) (hi:i+n≤s.length) (h:loop (XG s i n) (c,1)=some (.inr false)):
  OZ s i n m c=some (.inr (.inr false)):=by
 unfold OZ
 rw [gL (n:=(i:Int)+n) (by omega) (by omega),aP (show ¬((i:Int)+n > (s.length:Int)) by omega),h,av,Sum.elim_inr,Xe]
theorem DY {s:List UInt8} {i n:Nat} {m c:Int} (hn:n≤4) (hs:s.length < 4611686018427387904) (hi:i≤s.length) (hi:¬i+n≤s.length):OZ s i n m c=some (.inr (.inr false)):=by
 unfold OZ
 rw [gL (n:=(i:Int)+n) (by omega) (by omega),aD (show ((i:Int)+n > (s.length:Int)) by omega)]
theorem Nh (s:List UInt8) (hs:s.length < 4611686018427387904):wE s=some (Go.Lib.validD s):=by
 unfold wE
 refine Eq.trans (congrArg (fun x=>fP (Y:=Unit) (E:=Bool) (Option.bind (α:=Unit⊕Bool) x (Sum.elim (fun e=>some (Sum.inl e)) (fun e=>some (Sum.inr e)))) (fun _=>some true) (fun e=>some e))
  (aei (fun y:Int=>∃i:Nat,y=i∧i≤s.length) (fun y=>s.length - y.toNat) (fun y=>if Go.Lib.validD (s.drop y.toNat)=true then .inl () else .inr false) ?_ 0 ⟨0,rfl,by omega⟩)) ?_
 ·rintro y ⟨i,rfl,hi⟩
  rcases Nat.lt_or_ge i s.length with hlt | hge
  rotate_left
  ·right
   have:i=s.length:=by omega
   subst this
   simp only [ltI,Nat.lt_irrefl,decide_false,cond_false,Int.toNat_natCast,List.drop_length,Go.Lib.validD_nil,if_true]
  have hne:s.drop i≠[]:=by intro e;have:=congrArg List.length e;simp at this;omega
  have hv:=Q9 (s.drop i) hne
  have hlen:(s.drop i).length=s.length - i:=by simp
  have hd:∀k,(s.drop i).getD k 0=s.getD (i+k) 0:=fun k=>Go.Lib.getD_dropU s i k
  have hg:bP s (i:Int)=some (s.getD i 0):=by
   rw [cu hlt,List.getD_eq_getElem?_getD,List.getElem?_eq_getElem hlt];rfl
  have hb:=(s.getD i 0).toNat_lt
  -- what a round must show
  suffices hB:∀B:Option (Int⊕(Unit⊕Bool)),B=some (if pV (s.drop i)=0 then .inr (.inr false) else .inl ((i+pV (s.drop i):Nat):Int))→pV (s.drop i)≤s.length - i→
    (∃y',B=some (.inl y')∧(∃j:Nat,y'=j∧j≤s.length)∧s.length - y'.toNat < s.length - ((i:Int)).toNat∧(if Go.Lib.validD (s.drop y'.toNat)=true then Sum.inl () else Sum.inr false)=(if Go.Lib.validD (s.drop ((i:Int)).toNat)=true then Sum.inl () else Sum.inr false))∨B=some (.inr (if Go.Lib.validD (s.drop ((i:Int)).toNat)=true then .inl () else .inr false)) by
   have hle:pV (s.drop i)≤s.length - i:=by
    rcases Nat.lt_or_ge (s.getD i 0).toNat 128 with c1 | c1
    ·rw [aad _ (by rw [hd];exact c1)];omega
    rcases Nat.lt_or_ge (s.getD i 0).toNat 194 with c2 | c2
    ·rw [Fu _ (by rw [hd,Nat.add_zero];omega)];omega
    rcases Nat.lt_or_ge (s.getD i 0).toNat 224 with c3 | c3
    ·rw [aac _ (by rw [hd,Nat.add_zero];omega)];split <;> omega
    rcases Nat.lt_or_ge (s.getD i 0).toNat 240 with c4 | c4
    ·rw [Z9 _ (by rw [hd,Nat.add_zero];omega)];split <;> omega
    rcases Nat.lt_or_ge (s.getD i 0).toNat 245 with c5 | c5
    ·rw [Z8 _ (by rw [hd,Nat.add_zero];omega)];split <;> omega
    ·rw [Fu _ (by rw [hd,Nat.add_zero];omega)];omega
   refine hB _ ?_ hle
   rw [ltI,decide_eq_true hlt,cond_true,hg,av]
   have d0:=hd 0
   rw [Nat.add_zero] at d0
   have d1:=hd 1
   have d2:=hd 2
   have d3:=hd 3
   have b1:=(s.getD (i+1) 0).toNat_lt
   have b2:=(s.getD (i+2) 0).toNat_lt
   have b3:=(s.getD (i+3) 0).toNat_lt
   rcases Nat.lt_or_ge (s.getD i 0).toNat 128 with c1 | c1
   ·have hu:=aad (s.drop i) (by rw [d0];exact c1)
    rw [hu,aD (show ((s.getD i 0).toNat:Int) < 128 by omega),GH]
    refine (Fq (n:=1) (by omega) hs (by omega) (J2 s i 1 _)).trans ?_
    rw [if_neg (by omega),if_neg (by omega)]
   rw [aP (show ¬(((s.getD i 0).toNat:Int) < 128) by omega)]
   rcases Nat.lt_or_ge (s.getD i 0).toNat 194 with c2 | c2
   ·have hu:=Fu (s.drop i) (by rw [d0];omega)
    rw [hu,aP (show ¬(((s.getD i 0).toNat:Int)≥194) by omega),av,cond_false,aP (show ¬(((s.getD i 0).toNat:Int)≥224) by omega),av,cond_false,aP (show ¬(((s.getD i 0).toNat:Int)≥240) by omega),av,cond_false]
    rfl
   rw [aD (show (((s.getD i 0).toNat:Int)≥194) by omega),av]
   rcases Nat.lt_or_ge (s.getD i 0).toNat 224 with c3 | c3
   ·have hu:=aac (s.drop i) (by rw [d0];omega)
    rw [d1,hlen] at hu
    rw [aD (show (((s.getD i 0).toNat:Int) < 224) by omega),GH]
    show OZ s i (2:Nat) 128 _=_
    by_cases hn:i+2≤s.length
    ·rw [gL (n:=((s.getD i 0).toNat:Int) - 192) (by omega) (by omega)]
     have q:=yC s i 2 1 (((s.getD i 0).toNat:Int) - 192) (s.getD (i+1) 0) (by omega) (by omega) (by omega) (by omega) hs (by omega) rfl
     by_cases t1:(s.getD (i+1) 0).toNat / 64=2
     ·rw [if_pos t1] at q
      refine (Fq (n:=2) (by omega) hs (by omega) (q.trans (J2 s i 2 _))).trans ?_
      rw [hu,if_pos (show 1 < s.length - i∧(s.getD (i+1) 0).toNat / 64=2 by omega)]
      split
      ·exfalso;omega
      ·rfl
     ·rw [if_neg t1] at q
      refine (Cu (n:=2) (by omega) hs (by omega) q).trans ?_
      rw [show pV (s.drop i)=0 by rw [hu];exact if_neg (by omega)]
      rfl
    ·rw [show pV (s.drop i)=0 by rw [hu];exact if_neg (by omega)]
     exact DY (by omega) hs hi hn
   rw [aP (show ¬(((s.getD i 0).toNat:Int) < 224) by omega),aD (show (((s.getD i 0).toNat:Int)≥224) by omega),av]
   rcases Nat.lt_or_ge (s.getD i 0).toNat 240 with c4 | c4
   ·have hu:=Z9 (s.drop i) (by rw [d0];omega)
    rw [d0,d1,d2,hlen] at hu
    rw [aD (show (((s.getD i 0).toNat:Int) < 240) by omega),GH]
    show OZ s i (3:Nat) 2048 _=_
    by_cases hn:i+3≤s.length
    ·rw [gL (n:=((s.getD i 0).toNat:Int) - 224) (by omega) (by omega)]
     have q:=yC s i 3 1 (((s.getD i 0).toNat:Int) - 224) (s.getD (i+1) 0) (by omega) (by omega) (by omega) (by omega) hs (by omega) rfl
     by_cases t1:(s.getD (i+1) 0).toNat / 64=2
     ·rw [if_pos t1] at q
      have q2:=yC s i 3 2 ((((s.getD i 0).toNat:Int) - 224)*64+((s.getD (i+1) 0).toNat:Int) - 128) (s.getD (i+2) 0) (by omega) (by omega) (by omega) (by omega) hs (by omega) rfl
      by_cases t2:(s.getD (i+2) 0).toNat / 64=2
      ·rw [if_pos t2] at q2
       refine (Fq (n:=3) (by omega) hs (by omega) (q.trans (q2.trans (J2 s i 3 _)))).trans ?_
       split
       ·rw [show pV (s.drop i)=0 by rw [hu];exact if_neg (by omega)]
        rfl
       ·rw [show pV (s.drop i)=3 by rw [hu];exact if_pos (by omega)]
        rfl
      ·rw [if_neg t2] at q2
       refine (Cu (n:=3) (by omega) hs (by omega) (q.trans q2)).trans ?_
       rw [show pV (s.drop i)=0 by rw [hu];exact if_neg (by omega)]
       rfl
     ·rw [if_neg t1] at q
      refine (Cu (n:=3) (by omega) hs (by omega) q).trans ?_
      rw [show pV (s.drop i)=0 by rw [hu];exact if_neg (by omega)]
      rfl
    ·rw [show pV (s.drop i)=0 by rw [hu];exact if_neg (by omega)]
     exact DY (by omega) hs hi hn
   rw [aP (show ¬(((s.getD i 0).toNat:Int) < 240) by omega),aD (show (((s.getD i 0).toNat:Int)≥240) by omega),av]
   rcases Nat.lt_or_ge (s.getD i 0).toNat 245 with c5 | c5
   ·have hu:=Z8 (s.drop i) (by rw [d0];omega)
    rw [d0,d1,d2,d3,hlen] at hu
    rw [aD (show (((s.getD i 0).toNat:Int) < 245) by omega),GH]
    show OZ s i (4:Nat) 65536 _=_
    by_cases hn:i+4≤s.length
    ·rw [gL (n:=((s.getD i 0).toNat:Int) - 240) (by omega) (by omega)]
     have q:=yC s i 4 1 (((s.getD i 0).toNat:Int) - 240) (s.getD (i+1) 0) (by omega) (by omega) (by omega) (by omega) hs (by omega) rfl
     by_cases t1:(s.getD (i+1) 0).toNat / 64=2
     ·rw [if_pos t1] at q
      have q2:=yC s i 4 2 ((((s.getD i 0).toNat:Int) - 240)*64+((s.getD (i+1) 0).toNat:Int) - 128) (s.getD (i+2) 0) (by omega) (by omega) (by omega) (by omega) hs (by omega) rfl
      by_cases t2:(s.getD (i+2) 0).toNat / 64=2
      ·rw [if_pos t2] at q2
       have q3:=yC s i 4 3 (((((s.getD i 0).toNat:Int) - 240)*64+((s.getD (i+1) 0).toNat:Int) - 128)*64+((s.getD (i+2) 0).toNat:Int) - 128) (s.getD (i+3) 0) (by omega) (by omega) (by omega) (by omega) hs (by omega) rfl
       by_cases t3:(s.getD (i+3) 0).toNat / 64=2
       ·rw [if_pos t3] at q3
        refine (Fq (n:=4) (by omega) hs (by omega) (q.trans (q2.trans (q3.trans (J2 s i 4 _))))).trans ?_
        split
        ·rw [show pV (s.drop i)=0 by rw [hu];exact if_neg (by omega)]
         rfl
        ·rw [show pV (s.drop i)=4 by rw [hu];exact if_pos (by omega)]
         rfl
       ·rw [if_neg t3] at q3
        refine (Cu (n:=4) (by omega) hs (by omega) (q.trans (q2.trans q3))).trans ?_
        rw [show pV (s.drop i)=0 by rw [hu];exact if_neg (by omega)]
        rfl
      ·rw [if_neg t2] at q2
       refine (Cu (n:=4) (by omega) hs (by omega) (q.trans q2)).trans ?_
       rw [show pV (s.drop i)=0 by rw [hu];exact if_neg (by omega)]
       rfl
     ·rw [if_neg t1] at q
      refine (Cu (n:=4) (by omega) hs (by omega) q).trans ?_
      rw [show pV (s.drop i)=0 by rw [hu];exact if_neg (by omega)]
      rfl
    ·rw [show pV (s.drop i)=0 by rw [hu];exact if_neg (by omega)]
     exact DY (by omega) hs hi hn
   ·have hu:=Fu (s.drop i) (by rw [d0];omega)
    rw [hu,aP (show ¬(((s.getD i 0).toNat:Int) < 245) by omega)]
    rfl
  intro B hB hle
  rw [Int.toNat_natCast,hv]
  by_cases h0:pV (s.drop i)=0
  ·right;rw [hB,if_pos h0,if_pos h0];rfl
  ·left
   rw [if_neg h0] at hB
   refine ⟨_,hB,⟨_,rfl,by omega⟩,by rw [Int.toNat_natCast];omega,?_⟩
   rw [Int.toNat_natCast,if_neg h0,List.drop_drop]
 ·simp only [Int.toNat_zero,List.drop_zero]
  by_cases h:Go.Lib.validD s=true
  ·rw [h];rfl
  ·rw [if_neg h,Bool.eq_false_iff.2 h];rfl
theorem K3 (v:aj) (h:v.S.length < 4611686018427387904):uD v=some (val v):=by
 have e1:=Nh v.S h
 have e2:((v.S.length:Int)≤64)=(v.S.length≤64):=propext (by omega)
 obtain ⟨K,N,S⟩:=v
 unfold uD val
 simp only [e1,e2,Bool.and_true] at *
 by_cases k0:K=0
 ·subst k0;cases hN:(N==0) <;> simp [hN]
 by_cases k1:K=1
 ·subst k1;simp
 by_cases k2:K=2
 ·subst k2;simp
 by_cases k3:K=3
 ·subst k3;by_cases hN:N < 2 <;> simp [hN]
 by_cases k4:K=4
 ·subst k4;cases hN:(N==0) <;> simp [hN]
 by_cases k5:K=5
 ·subst k5;cases hN:(N==0) <;> by_cases hS:S.length≤64 <;> simp [hN,hS,e1]
 simp [beq_eq_false_iff_ne.2 k0,beq_eq_false_iff_ne.2 k1,beq_eq_false_iff_ne.2 k2,beq_eq_false_iff_ne.2 k3,beq_eq_false_iff_ne.2 k4,beq_eq_false_iff_ne.2 k5]
def eY (n:UInt64):Nat→List UInt8
 | 0=>[]
 | k+1=>UInt8.ofNat (n.toNat / 2 ^ (8*k))::eY n k
theorem eU (n:UInt64):∀k,(eY n k).length=k
 | 0=>rfl
 | k+1=>by simp [eY,eU n k]
theorem XQ (n:UInt64) (m:Nat):(dO n m).toUInt8=UInt8.ofNat (n.toNat / 2 ^ m):=by
 unfold dO
 rw [← UInt8.toNat_inj]
 have h:n.toNat / 2 ^ m < 18446744073709551616:=Nat.lt_of_le_of_lt (Nat.div_le_self _ _) n.toNat_lt
 simp [UInt64.toNat_ofNat,Nat.mod_eq_of_lt h]
theorem ak1 (n:UInt64):n.toUInt8=UInt8.ofNat (n.toNat / 2 ^ (8*0)):=by
 rw [← UInt8.toNat_inj];simp
theorem jy (n:UInt64) (k:Nat) (acc:List UInt8) (hk:k≤8) (hr:acc.length+8≤70368744177664):bU n k acc=some (acc++eY n k):=by
 unfold bU
 rw [gL (n:=(k:Int) - 1) (by omega) (by omega)]
 suffices h:∀(k:Nat) (acc:List UInt8),k≤8→acc.length+k≤70368744177664→∀B:Int×List UInt8→Option ((Int×List UInt8)⊕List UInt8),B=(fun (y21,y22)=>
   bif (decide (y21≥(0:Int))) then
    bif decide (0≤(bL ((8:Int)*y21))) then
    bif decide ((y22.length+[((dO n ((bL ((8:Int)*y21)).toNat)).toUInt8)].length)*1≤room) then
    some (Sum.inl ((bL (y21 - (1:Int))),(y22++[((dO n ((bL ((8:Int)*y21)).toNat)).toUInt8)])))
    else none
    else none
   else
    some (Sum.inr y22))→loop B ((k:Int) - 1,acc)=some (acc++eY n k) by
  rw [show (loop _ ((k:Int) - 1,acc))=_ from h k acc hk (by omega) _ rfl]
  rfl
 intro k
 induction k with
 | zero=>
  intro acc _ _ B hB
  rw [eY,List.append_nil]
  refine fM ?_
  rw [hB]
  rfl
 | succ k ih=>
  intro acc hk hr B hB
  have e:bL ((8:Int)*(((k+1:Nat):Int) - 1))=((8*k:Nat):Int):=by rw [gL (by omega) (by omega)];omega
  have e2:bL ((((k+1:Nat):Int) - 1) - 1)=(k:Int) - 1:=by rw [gL (by omega) (by omega)];omega
  have st:B (((k+1:Nat):Int) - 1,acc)=some (Sum.inl ((k:Int) - 1,acc++[UInt8.ofNat (n.toNat / 2 ^ (8*k))])):=by
   rw [hB]
   show (bif _ then _ else _)=_
   rw [e,e2,aD (by omega),aD (by omega),Int.toNat_natCast,XQ,aD (by rw [dL];simp;omega)]
  rw [gB st,ih (acc++[_]) (by omega) (by simp;omega) B hB,eY,List.append_assoc]
  rfl
theorem Cr (n:UInt64) (k:Int):jI n k=bU n k []:=rfl
def turn (d:Bool) (b:List UInt8):List UInt8:=if d then b.map (fun x=> ~~~ x) else b
theorem Fw (d:Bool) (b:List UInt8):(turn d b).length=b.length:=by cases d <;> simp [turn]
theorem Ny (b:List UInt8) (h:b.length < 4611686018427387904):lY b=some (b.map (fun x=> ~~~ x)):=by
  unfold lY
  have q:=BU (B:=(fun (y57,y58)=>
        bif (decide (y58 < (b.length:Int))) then
          Option.bind (bP y57 y58) fun v67=>
          Option.bind (bP y57 y58) fun v68=>
          some (Sum.inl ((List.set y57 y58.toNat (~~~ v67)),(bL (y58+(1:Int)))))
        else
          some (Sum.inr y57))) (fun i=>(mapped (fun x=> ~~~ x) b i,(i:Int))) b.length (w:=b.map (fun x=> ~~~ x)) ?_ ?_
  · rw [Jb] at q
    rw [show (loop _ (b,(0:Int)))=_ from q]
    rfl
  · intro i hi
    show (bif _ then _ else _)=_
    rw [aD (by omega),Ca,Lu _ _ hi,av,av,bX (by omega),Int.toNat_natCast]
    exact congrArg (fun x=>some (Sum.inl (x,_))) (Lr _ _ hi)
  · show (bif _ then _ else _)=_
    rw [aP (by omega),Lx]
def esc:List UInt8→List UInt8
 | []=>[]
 | x::r=>if x=0 then 0::255::esc r else x::esc r
theorem CQ:∀s,(esc s).length≤2*s.length
 | []=>by simp [esc]
 | x::r=>by have:=CQ r;unfold esc;split <;> simp <;> omega
open Go.Lib in
theorem BZ (b:UInt8) (l:List UInt8):index (b::l) [0]=if b=0 then 0 else if index l [0] = -1 then -1 else index l [0]+1:=by
 conv=>lhs;unfold index
 by_cases hb:b=0
 ·subst hb;simp [List.isPrefixOf]
 ·rw [if_neg hb]
  rw [if_neg (by simp [List.isPrefixOf];exact fun h=>hb h.symm)]
  by_cases h:index l [0] = -1
  ·simp [h]
  ·rw [if_neg h,if_neg (by simpa using h)]
open Go.Lib in
theorem Rz (b:UInt8) (l new:List UInt8) (hb:b≠0):∀k,replaceK [0] new k (b::l)=b::replaceK [0] new k l
 | 0=>rfl
 | k+1=>by
  have h:=BZ b l
  rw [if_neg hb] at h
  unfold replaceK
  by_cases hm:index l [0] = -1
  ·rw [if_pos hm] at h
   rw [h,hm];rfl
  ·have hge:=index_ge l [0]
   rw [if_neg hm] at h
   rw [if_neg (by rw [h];intro e;have:=beq_iff_eq.1 e;omega),if_neg (by intro e;exact hm (beq_iff_eq.1 e)),h]
   have e1:(index l [0]+1).toNat=(index l [0]).toNat+1:=by omega
   rw [e1,List.take_succ_cons,Nat.add_right_comm,List.drop_succ_cons]
   simp
open Go.Lib in
theorem Tg (b:UInt8) (l:List UInt8):count (b::l) [0]=if b=0 then 1+count l [0] else count l [0]:=by
 have h:=BZ b l
 by_cases hb:b=0
 ·rw [if_pos hb] at h ⊢
  exact count_hit (i:=0) (by simp) h
 ·rw [if_neg hb] at h ⊢
  by_cases hm:index l [0] = -1
  ·rw [if_pos hm] at h
   rw [count_miss h,count_miss hm]
  ·have hge:=index_ge l [0]
   rw [if_neg hm] at h
   have e1:index (b::l) [0]=((index l [0]).toNat+1:Nat):=by omega
   have e2:index l [0]=((index l [0]).toNat:Nat):=by omega
   rw [count_hit (by simp) e1,count_hit (s:=l) (by simp) e2]
   rfl
open Go.Lib in
theorem Ry (s:List UInt8):replaceAll s [0] [0,255]=esc s:=by
 have e:replaceNum s [0] (-1)=count s [0]:=by unfold replaceNum;rw [if_pos (.inl (by omega))]
 unfold replaceAll replace
 rw [if_neg (by decide),e]
 induction s with
 | nil=>rfl
 | cons b l ih=>
  rw [Tg]
  unfold esc
  by_cases hb:b=0
  ·have h:=BZ b l
   rw [if_pos hb] at h
   rw [if_pos hb,if_pos hb,Nat.add_comm,replaceK_hit _ _ _ _ 0 h]
   have e:replaceNum l [0] (-1)=count l [0]:=by unfold replaceNum;rw [if_pos (.inl (by omega))]
   simp only [List.take_zero,List.nil_append,List.length_singleton,Nat.zero_add,List.drop_succ_cons,List.drop_zero]
   rw [ih e];rfl
  ·rw [if_neg hb,if_neg hb,Rz _ _ _ hb,ih (by unfold replaceNum;rw [if_pos (.inl (by omega))])]
theorem XW (s:List UInt8) (h:s.length≤1048576):KP s ([0]:List UInt8) ([0,255]:List UInt8)=some (esc s):=by
 unfold KP
 have:=Go.Lib.count_le s [0]
 rw [if_pos ⟨by omega,by simp,(by show s.length+Go.Lib.count s [0]*2≤_;omega)⟩,Ry]
def body (v:aj):List UInt8:=
 if v.Kind=1 then eY (v.N ^^^ 9223372036854775808) 8 else if v.Kind=2 then eY v.N 8 else if v.Kind=3 then eY v.N 1
 else if v.Kind=4∨v.Kind=5 then esc v.S++[0,0] else []
def enc (v:aj):List UInt8:=(if v.Kind=0 then 0 else 1)::body v
theorem Md (v:aj):(body v).length≤2*v.S.length+8:=by
 unfold body
 have:=CQ v.S
 repeat' split
 all_goals simp [eU] <;> omega
theorem RX (a b:List UInt8) (h:b.length+a.length≤70368744177664):kT a b=some ():=by
 unfold kT;rw [aD (by rw [dL];omega)]
theorem O7 (n:UInt64) (m:Nat) (x:UInt16) (h:x.toNat=n.toNat / 2 ^ m % 65536):(fK x 8).toUInt8=UInt8.ofNat (n.toNat / 2 ^ (m+8)):=by
 unfold fK
 rw [← UInt8.toNat_inj]
 have hx:=x.toNat_lt
 have e:n.toNat / 2 ^ (m+8)=n.toNat / 2 ^ m / 256:=by rw [Nat.pow_add,Nat.div_div_eq_div_mul]
 simp [UInt16.toNat_ofNat,e]
 omega
theorem O6 (n:UInt64) (m:Nat) (x:UInt16) (h:x.toNat=n.toNat / 2 ^ m % 65536):x.toUInt8=UInt8.ofNat (n.toNat / 2 ^ m):=by
 rw [← UInt8.toNat_inj]
 simp [h]
 try omega
theorem aky (n:UInt64):(dO n 32).toUInt32.toNat=n.toNat / 2 ^ 32:=by
 unfold dO
 have:=n.toNat_lt
 simp [UInt64.toNat_ofNat]
 omega
theorem Oz (n:UInt64) (acc:List UInt8):(((acc++[((fK ((fT ((dO n 32).toUInt32) 16).toUInt16) 8).toUInt8),(((fT ((dO n 32).toUInt32) 16).toUInt16).toUInt8)])++[((fK (((dO n 32).toUInt32).toUInt16) 8).toUInt8),((((dO n 32).toUInt32).toUInt16).toUInt8)])++[((fK ((fT (n.toUInt32) 16).toUInt16) 8).toUInt8),(((fT (n.toUInt32) 16).toUInt16).toUInt8)])++[((fK ((n.toUInt32).toUInt16) 8).toUInt8),(((n.toUInt32).toUInt16).toUInt8)]=acc++eY n 8:=by
 have hn:=n.toNat_lt
 have h1:((fT ((dO n 32).toUInt32) 16).toUInt16).toNat=n.toNat / 2 ^ 48 % 65536:=by
  unfold fT
  have:=aky n
  simp [UInt32.toNat_ofNat] at *
  omega
 have h2:(((dO n 32).toUInt32).toUInt16).toNat=n.toNat / 2 ^ 32 % 65536:=by
  have:=aky n
  simp at *
  omega
 have h3:((fT (n.toUInt32) 16).toUInt16).toNat=n.toNat / 2 ^ 16 % 65536:=by
  unfold fT
  simp [UInt32.toNat_ofNat]
  omega
 have h4:((n.toUInt32).toUInt16).toNat=n.toNat / 2 ^ 0 % 65536:=by
  simp
 rw [O7 n 48 _ h1,O6 n 48 _ h1,O7 n 32 _ h2,O6 n 32 _ h2,O7 n 16 _ h3,O6 n 16 _ h3,O7 n 0 _ h4,O6 n 0 _ h4]
 simp [eY]
theorem MB (x:UInt16) (b:List UInt8) (h:b.length+2≤70368744177664):oI x b=some ():=by
 unfold oI;rw [RX _ _ (by simpa using h)];rfl
theorem Mx (x:UInt32) (b:List UInt8) (h:b.length+4≤70368744177664):oH x b=some ():=by
 unfold oH;rw [MB _ _ (by omega),av,MB _ _ (by simp;omega)];rfl
theorem Mw (x:UInt64) (b:List UInt8) (h:b.length+8≤70368744177664):kD x b=some ():=by
 unfold kD;rw [Mx _ _ (by omega),av,Mx _ _ (by simp;omega)];rfl
theorem UL (v:aj) (d:Bool) (h:v.S.length≤1048576):xG v d=some (turn d (enc v)):=by
 have hf:mW (v.Kind != (0:Int))=some [if v.Kind=0 then 0 else 1]:=by
  unfold mW
  by_cases k:v.Kind=0
  ·rw [k];rfl
  ·rw [if_neg k,show (v.Kind != 0)=true by simpa using k];rfl
 have hb:=Md v
 obtain ⟨K,N,S⟩:=v
 simp only at h hf hb
 unfold xG
 simp only
 rw [hf,av]
 -- the middle
 have key:∀(m:Option (List UInt8)) (q:List UInt8),m=some q→(if K=4∨K=5 then q++(esc S++[0,0]) else q)=enc ⟨K,N,S⟩→q.length≤100→
   (Option.bind (α:=(List UInt8)) m
  fun y50=>
 Option.bind (jP y50) fun _=>
 Option.bind (α:=(List UInt8))
  (Option.bind (α:=Bool)
   (bif (K==(4:Int)) then
    some true
   else
    some (K==(5:Int)))
   fun IG=>
  bif IG then
   Option.bind (KP S ([0]:List UInt8) ([0,255]:List UInt8)) fun r75=>
   bif decide ((y50.length+r75.length)*1≤room) then
   bif decide (((y50++r75).length+[(0:UInt8),(0:UInt8)].length)*1≤room) then
   some ((y50++r75)++[(0:UInt8),(0:UInt8)])
   else none
   else none
  else
   some y50)
  fun y68=>
 bif d then
  Option.bind (lY y68) fun r80=>
  some r80
 else
  some y68)=some (turn d (enc ⟨K,N,S⟩)):=by
  intro m q hm he hq
  subst hm
  have hl:=CQ S
  rw [av,show jP q=some () by unfold jP;rw [aD (by rw [dL];omega)],av,XW S h]
  have hlen:(enc ⟨K,N,S⟩).length≤4194304:=by unfold enc;simp;omega
  have ht:(bif d then Option.bind (lY (enc ⟨K,N,S⟩)) fun r80=>some r80 else some (enc ⟨K,N,S⟩))=some (turn d (enc ⟨K,N,S⟩)):=by
   cases d with
   | false=>rfl
   | true=>rw [cond_true,Ny _ (by omega)];rfl
  by_cases k4:K=4
  ·rw [if_pos (.inl k4)] at he
   rw [k4] at he ht ⊢
   simp only [BEq.rfl,cond_true,av]
   rw [aD (by rw [dL];omega),aD (by rw [dL];simp;omega),av,List.append_assoc,he]
   exact ht
  by_cases k5:K=5
  ·rw [if_pos (.inr k5)] at he
   rw [k5] at he ht ⊢
   simp only [show ((5:Int)==4)=false from rfl,cond_false,BEq.rfl,cond_true,av]
   rw [aD (by rw [dL];omega),aD (by rw [dL];simp;omega),av,List.append_assoc,he]
   exact ht
  rw [if_neg (by omega)] at he
  subst he
  rw [beq_eq_false_iff_ne.2 k4,beq_eq_false_iff_ne.2 k5,cond_false,av,cond_false,av]
  exact ht
 by_cases k1:K=1
 ·subst k1
  refine key _ ([1]++eY (N ^^^ 9223372036854775808) 8) ?_ ?_ ?_
  rotate_left
  ·rfl
  ·simp [eU]
  ·simp only [BEq.rfl,cond_true]
   rw [Mw _ _ (by simp),av,Oz]
   rfl
 by_cases k2:K=2
 ·subst k2
  refine key _ ([1]++eY N 8) ?_ ?_ ?_
  rotate_left
  ·rfl
  ·simp [eU]
  ·simp only [show ((2:Int)==1)=false from rfl,cond_false,BEq.rfl,cond_true]
   rw [Mw _ _ (by simp),av,Oz]
   rfl
 by_cases k3:K=3
 ·subst k3
  refine key _ ([1]++eY N 1) ?_ ?_ ?_
  rotate_left
  ·rfl
  ·simp [eU]
  ·simp only [show ((3:Int)==1)=false from rfl,show ((3:Int)==2)=false from rfl,cond_false,BEq.rfl,cond_true]
   rw [show qD (N.toUInt8) [if (3:Int)=0 then 0 else 1]=some () from by unfold qD;rw [RX _ _ (by simp)];rfl,av,ak1]
   rfl
 refine key _ ([if K=0 then 0 else 1]) ?_ ?_ ?_
 rotate_left
 ·unfold enc body
  simp only [k1,k2,k3,if_false]
  split <;> rfl
 ·simp
 ·rw [beq_eq_false_iff_ne.2 k1,beq_eq_false_iff_ne.2 k2,beq_eq_false_iff_ne.2 k3];rfl
structure Sm (l:List aj):Prop where
 len:l.length≤1048576
 txt:∀v∈l,v.S.length≤1048576
theorem Sm.get {l:List aj} (h:Sm l) {i:Nat} (hi:i < l.length):(l[i]'hi).S.length≤1048576:=h.txt _ (List.getElem_mem hi)
def bad (v:aj):Bool:= !val v
def yQ:List aj→List Bool→List UInt8
 | v::l,d::ds=>turn d (enc v)++yQ l ds
 | _,_=>[]
def encS (l:List aj) (ds:List Bool):List UInt8×Int:=
 if l.length=ds.length then
  if l.any bad=true then ([],8) else if (yQ l ds).length > 256 then ([],7) else (yQ l ds,0)
 else ([],1)
theorem Il:∀(l:List aj) (ds:List Bool) (i:Nat) (h:i < l.length) (h2:i < ds.length),yQ (l.take (i+1)) (ds.take (i+1))=yQ (l.take i) (ds.take i)++turn ds[i] (enc l[i])
 | v::l,d::ds,0,h,h2=>by simp [yQ]
 | v::l,d::ds,i+1,h,h2=>by
  simp only [List.take_succ_cons,yQ,List.getElem_cons_succ]
  rw [Il l ds i (by simpa using h) (by simpa using h2),List.append_assoc]
theorem G8 {v:aj} (h:val v=true):v.S.length≤64:=by
 unfold val at h
 simp only [Bool.or_eq_true,Bool.and_eq_true,beq_iff_eq,decide_eq_true_eq] at h
 rcases h with (((⟨_,_,h⟩ | ⟨_,h⟩) | ⟨_,_,h⟩) | ⟨_,_,h⟩) | ⟨_,_,h,_⟩
 ·rw [h];simp
 ·rw [h];simp
 ·rw [h];simp
 ·exact h
 ·exact h
theorem Ik {v:aj} (h:val v=true):(enc v).length≤137:=by
 have:=Md v
 have:=G8 h
 unfold enc
 simp;omega
theorem zP:∀(l:List aj) (ds:List Bool),l.any bad=false→(yQ l ds).length≤137*l.length
 | [],ds,_=>by simp [yQ]
 | v::l,[],_=>by simp [yQ]
 | v::l,d::ds,h=>by
  rw [List.any_cons,Bool.or_eq_false_iff] at h
  have:=Ik (v:=v) (by have:=h.1;unfold bad at this;simpa using this)
  have:=zP l ds h.2
  simp [yQ,Fw]
  omega
theorem Tz {α:Type} (p:α→Bool) (l:List α) (i:Nat) (h:l.any p=false):(l.take i).any p=false:=by
 rw [List.any_eq_false] at h ⊢
 exact fun x hx=>h x (List.mem_of_mem_take hx)
theorem TN (v:aj) (h:v.S.length≤1048576):lZ v=some (bad v):=by
 unfold lZ;rw [vT v (by omega)];rfl
theorem Zh (l:List aj) (h:Sm l):dz l=some (l.any bad):=by
  unfold dz dN
  have hl:=h.len
  have q := Sl (B:=(fun y69=>
        bif (decide (y69 < (l.length:Int))) then
          Option.bind (bP l y69) fun v79=>
          Option.bind (lZ v79) fun r80=>
          bif r80 then
            some (Sum.inr (Sum.inr y69))
          else
            some (Sum.inl (bL (y69+(1:Int))))
        else
          some (Sum.inr (Sum.inl ())))) l bad (fun i=>.inr (i:Int)) (.inl ()) (fun i hi=>by
      show (bif _ then _ else _)=_
      rw [aD (by omega),cu hi,av,TN _ (h.get hi),av]
      cases bad l[i]
      · rw [cond_false,bX (by omega)];rfl
      · rfl) (by
      show (bif _ then _ else _)=_
      rw [aP (by omega)])
  rcases q with ⟨q1,i,_,_,q2⟩ | ⟨q1,q2⟩
  · rw [show (loop _ (0:Int))=_ from q2,q1]
    show some (decide ((i:Int)≥0))=_
    rw [decide_eq_true (by omega)]
  · rw [show (loop _ (0:Int))=_ from q2,q1]
    rfl
theorem NA (l :List aj) (ds:List Bool) (h:Sm l):nY l ds=some (encS l ds):=by
  unfold nY encS
  have hl:=h.len
  by_cases he:l.length=ds.length
  rotate_left
  · rw [if_neg he,show ((l.length:Int) != (ds.length:Int))=true by simp;omega];rfl
  rw [if_pos he,show ((l.length:Int) != (ds.length:Int))=false by simp;omega,cond_false,Zh l h,av]
  cases hb:l.any bad with
  | true=>rfl
  | false=>
    rw [cond_false,if_neg (by simp)]
    have hs:=zP l ds hb
    have q := BU (B:=(fun (Xn,y98)=>
            bif (decide (y98 < (l.length:Int))) then
              Option.bind (bP l y98) fun aqu=>
              Option.bind (bP ds y98) fun aqt=>
              Option.bind (xG aqu aqt) fun K7=>
              bif decide ((Xn.length+K7.length)*1≤room) then
              some (Sum.inl ((Xn++K7),(bL (y98+(1:Int)))))
              else none
            else
              some (Sum.inr Xn))) (fun i=>(yQ (l.take i) (ds.take i),(i:Int))) l.length (w:=yQ l ds) ?_ ?_
    · rw [show (loop _ (([]:List UInt8),(0:Int)))=_ from q,av,av]
      by_cases hlen:(yQ l ds).length > 256
      · rw [if_pos hlen,aD (by omega)]
      · rw [if_neg hlen,aP (by omega)]
    · intro i hi
      have h1:=zP (l.take i) (ds.take i) (Tz _ _ _ hb)
      have h2:=Ik (v:=l[i]) (by rw [List.any_eq_false] at hb;have:=hb _ (List.getElem_mem hi);unfold bad at this;simpa using this)
      rw [List.length_take,Nat.min_eq_left (Nat.le_of_lt hi)] at h1
      show (bif _ then _ else _)=_
      rw [aD (by omega),cu hi,av,cu (by omega),av,UL _ _ (h.get hi),av,aD (by rw [dL,Fw];omega),bX (by omega),Il l ds i hi (by omega)]
    · show (bif _ then _ else _)=_
      rw [aP (by omega),List.take_length,he,List.take_length]
end Lv
namespace Lv
open Go Go.Proofs
variable [bJ]
end Lv
namespace Lv
open Go Go.Proofs
variable [bJ]
def num (l:List UInt8):UInt64:=l.foldl (fun y b=>pz y 8 ||| b.toUInt64) 0
theorem aaO (l:List UInt8) (b:UInt8):num (l++[b])=pz (num l) 8 ||| b.toUInt64:=by simp [num]
theorem ahl (y:UInt64) (b:UInt8):pz y 8+b.toUInt64=pz y 8 ||| b.toUInt64:=by
 unfold pz
 rw [← UInt64.toNat_inj]
 have hb:=b.toNat_lt
 have hy:=y.toNat_lt
 rw [UInt64.toNat_add,UInt64.toNat_or,UInt64.toNat_ofNat']
 have e:y.toNat * 2 ^ 8 % 2 ^ 64=(y.toNat % 2 ^ 56) <<< 8:=by rw [Nat.shiftLeft_eq];omega
 rw [e,← Nat.shiftLeft_add_eq_or_of_lt (by simpa using hb),Nat.shiftLeft_eq,UInt8.toNat_toUInt64,Nat.mod_eq_of_lt]
 omega
theorem PS (b:UInt8):num [b]=b.toUInt64:=by
 show pz 0 8 ||| b.toUInt64=_
 rw [show pz 0 8=0 from rfl];simp
theorem F9 {R:Type} (p:List UInt8) (off n:Nat) (hn:off+n≤p.length) (hp:p.length < 4611686018427387904) (w:UInt64→R):
    loop (Y:=UInt64×Int) (W:=R) (fun (y80,y81)=>
        bif (decide (y81 < (n:Int))) then
          Option.bind (mP p off n y81) fun v89=>
          some (Sum.inl (((pz y80 8) ||| (v89.toUInt64)),(bL (y81+(1:Int)))))
        else
          some (Sum.inr (w y80))) ((0:UInt64),(0:Int))=some (w (num ((p.drop off).take n))):=by
  refine BU (B:=(fun (y80,y81)=>
        bif (decide (y81 < (n:Int))) then
          Option.bind (mP p off n y81) fun v89=>
          some (Sum.inl (((pz y80 8) ||| (v89.toUInt64)),(bL (y81+(1:Int)))))
        else
          some (Sum.inr (w y80)))) (fun i=>(num ((p.drop off).take i),(i:Int))) n ?_ ?_
  · intro i hi
    show (bif _ then _ else _)=_
    have hlt:off+i < p.length:=by omega
    have hg:mP p off n (i:Int)=some (p[off+i]'hlt):=by
      unfold mP
      rw [if_pos (by omega),Int.toNat_natCast,List.getElem?_eq_getElem hlt]
    rw [aD (by omega),hg,av,bX (by omega),← aaO]
    congr 3
    rw [List.take_succ_eq_append_getElem (by simp;omega),List.getElem_drop]
  · show (bif _ then _ else _)=_
    rw [aP (by omega)]
theorem R4 (p:List UInt8) (k off len:Nat) (b:Bool) (hp:p.length < 4611686018427387904) (h:off+len≤p.length) (hk:k < 100):
  eF k p off len b=some (if b=true∨len < k then (0,off,len,true) else (num ((p.drop off).take k),off+k,len - k,false)):=by
 unfold eF
 by_cases hb:b=true∨len < k
 ·have ht:gG (k:Int) p off len b=some (0,0,off,len,true):=by
   unfold gG
   cases b with
   | true=>rfl
   | false=>
    have:len < k:=by simpa using hb
    rw [cond_false,av,aD (by omega)];rfl
  rw [if_pos hb,ht,av]
  have q:=F9 p 0 0 (by omega) hp (fun y=>(y,off,len,true))
  show (Option.bind (Option.bind (loop _ ((0:UInt64),(0:Int))) _) _)=_
  rw [show (loop _ ((0:UInt64),(0:Int)))=_ from q]
  rfl
 ·have hbf:b=false:=by cases b <;> simp_all
  subst hbf
  have hlk:¬len < k:=by simpa using hb
  have ht:gG (k:Int) p off len false=some (off,k,off+k,len - k,false):=by
   unfold gG
   rw [cond_false,av,aP (show ¬((len:Int) < (k:Int)) by omega),aD (by omega),aD (by omega),Int.toNat_natCast]
  rw [if_neg hb,ht,av]
  have q:=F9 p off k (by omega) hp (fun y=>(y,off+k,len - k,false))
  show (Option.bind (Option.bind (loop _ ((0:UInt64),(0:Int))) _) _)=_
  rw [show (loop _ ((0:UInt64),(0:Int)))=_ from q]
  rfl
theorem number_eq (p:List UInt8) (hp:p.length < 4611686018427387904):jR (1:Int) p false=some (if p.length < 1 then (0,0,p.length,true) else (num (p.take 1),1,p.length - 1,false)):=by
 unfold jR
 by_cases hb:p.length < 1
 ·have ht:kE (1:Int) p false=some (0,0,p.length,true):=by
   unfold kE
   rw [cond_false,av,aD (by omega)];rfl
  rw [if_pos hb,ht,av]
  have q:=F9 p 0 0 (by omega) hp (fun y=>(y,0,p.length,true))
  show (Option.bind (Option.bind (loop _ ((0:UInt64),(0:Int))) _) _)=_
  rw [show (loop _ ((0:UInt64),(0:Int)))=_ from q]
  rfl
 ·have ht:kE (1:Int) p false=some (1,1,p.length - 1,false):=by
   unfold kE
   rw [cond_false,av,aP (show ¬((p.length:Int) < 1) by omega),aD (by omega),aD (by omega)];rfl
  rw [if_neg hb,ht,av]
  have q:=F9 p 0 1 (by omega) hp (fun y=>(y,1,p.length - 1,false))
  show (Option.bind (Option.bind (loop _ ((0:UInt64),(0:Int))) _) _)=_
  rw [show (loop _ ((0:UInt64),(0:Int)))=_ from q]
  rfl
end Lv
namespace Lv
open Go Go.Proofs
variable [bJ]
variable [bJ]
variable [bJ]
end Lv
namespace Lv
open Go Go.Proofs
variable [bJ]
theorem PU (l:List UInt8):∀y:UInt64,(l.foldl (fun y b=>pz y 8 ||| b.toUInt64) y).toNat=(y.toNat * 256 ^ l.length+l.foldl (fun a b=>a*256+b.toNat) 0) % 18446744073709551616:=by
 have fold:∀(l:List UInt8) (a:Nat),l.foldl (fun a b=>a*256+b.toNat) a=a*256 ^ l.length+l.foldl (fun a b=>a*256+b.toNat) 0:=by
  intro l
  induction l with
  | nil=>intro a;simp
  | cons b l ih=>
   intro a
   rw [List.foldl_cons,List.foldl_cons,ih,ih (0*256+b.toNat),List.length_cons,Nat.pow_succ]
   rw [Nat.add_mul,Nat.zero_mul,Nat.zero_add,Nat.mul_assoc,Nat.mul_comm 256 (256 ^ l.length),Nat.add_assoc]
 induction l with
 | nil=>
  intro y
  have:=y.toNat_lt
  simp
 | cons b l ih=>
  intro y
  rw [List.foldl_cons,ih,List.foldl_cons,fold l (0*256+b.toNat),← ahl]
  have h:(pz y 8+b.toUInt64).toNat=(y.toNat * 256+b.toNat) % 18446744073709551616:=by
   unfold pz
   rw [UInt64.toNat_add,UInt64.toNat_ofNat',UInt8.toNat_toUInt64]
   omega
  rw [h,List.length_cons,Nat.pow_succ,Nat.zero_mul,Nat.zero_add]
  rw [← Nat.add_assoc,Nat.add_mod,Nat.mul_mod,Nat.mod_mod,← Nat.mul_mod,← Nat.add_mod]
  congr 2
  rw [Nat.add_mul,Nat.mul_assoc,Nat.mul_comm 256 (256 ^ l.length)]
theorem Sc (n:UInt64):∀k,(eY n k).foldl (fun a b=>a*256+b.toNat) 0=n.toNat % 256 ^ k:=by
 have fold:∀(l:List UInt8) (a:Nat),l.foldl (fun a b=>a*256+b.toNat) a=a*256 ^ l.length+l.foldl (fun a b=>a*256+b.toNat) 0:=by
  intro l
  induction l with
  | nil=>intro a;simp
  | cons b l ih=>
   intro a
   rw [List.foldl_cons,List.foldl_cons,ih,ih (0*256+b.toNat),List.length_cons,Nat.pow_succ]
   rw [Nat.add_mul,Nat.zero_mul,Nat.zero_add,Nat.mul_assoc,Nat.mul_comm 256 (256 ^ l.length),Nat.add_assoc]
 intro k
 induction k with
 | zero=>simp [eY,Nat.mod_one]
 | succ k ih=>
  rw [eY,List.foldl_cons,fold,eU,ih,Nat.zero_mul,Nat.zero_add,UInt8.toNat_ofNat']
  have e:(2:Nat) ^ (8*k)=256 ^ k:=by rw [Nat.pow_mul]
  have e2:n.toNat % 256 ^ (k+1)=n.toNat % 256 ^ k+256 ^ k*(n.toNat / 256 ^ k % 256):=by rw [Nat.pow_succ,Nat.mod_mul]
  rw [e2,e,show (2:Nat) ^ 8=256 from rfl,Nat.mul_comm,Nat.add_comm]
theorem UD (n:UInt64):num (eY n 8)=n:=by
 have:=n.toNat_lt
 rw [← UInt64.toNat_inj]
 unfold num
 rw [PU,Sc]
 have e:(0:UInt64).toNat=0:=rfl
 rw [e]
 omega
theorem ZP {v:aj} (h:val v=true) (k:v.Kind=0):v=⟨0,0,[]⟩:=by
 unfold val at h
 obtain ⟨K,N,S⟩:=v
 simp only at k
 subst k
 simp only [Bool.or_eq_true,Bool.and_eq_true,beq_iff_eq,decide_eq_true_eq] at h
 have:N=0∧S=[]:=by
  rcases h with (((⟨_,h⟩ | ⟨h,_⟩) | ⟨h,_⟩) | ⟨h,_⟩) | ⟨h,_⟩
  ·exact h
  ·omega
  ·omega
  ·omega
  ·omega
 rw [this.1,this.2]
theorem VN {v:aj} (h:val v=true) (k:v.Kind=1∨v.Kind=2∨v.Kind=3):v.S=[]∧(v.Kind=3→v.N.toNat < 2):=by
 unfold val at h
 simp only [Bool.or_eq_true,Bool.and_eq_true,beq_iff_eq,decide_eq_true_eq,UInt64.lt_iff_toNat_lt] at h
 have e:(2:UInt64).toNat=2:=rfl
 rw [e] at h
 rcases h with (((⟨h,_⟩ | ⟨h,h2⟩) | ⟨h,h1,h2⟩) | ⟨h,_⟩) | ⟨h,_⟩
 ·omega
 ·exact ⟨h2,fun _=>by omega⟩
 ·exact ⟨h2,fun _=>h1⟩
 ·omega
 ·omega
theorem adA {v:aj} (h:val v=true) (k:v.Kind=4∨v.Kind=5):v.N=0:=by
 unfold val at h
 simp only [Bool.or_eq_true,Bool.and_eq_true,beq_iff_eq,decide_eq_true_eq] at h
 rcases h with (((⟨h,_⟩ | ⟨h,_⟩) | ⟨h,_⟩) | ⟨h,h2,_⟩) | ⟨h,h2,_⟩
 ·omega
 ·omega
 ·omega
 ·exact h2
 ·exact h2
end Lv
namespace Lv
open Go Go.Proofs
variable [bJ]
variable [bJ]
variable [bJ]
end Lv
namespace Lv
open Go Go.Proofs
variable [bJ]
def letter (c:UInt8):Bool:=decide (97≤c)&&decide (c≤122)
def rV (c:UInt8):Bool:=letter c || c==95 || (decide (48≤c)&&decide (c≤57))
def rW:List UInt8→Bool
 | []=>false
 | c::r=>decide (r.length < 16)&&(letter c&&r.all rV)
theorem nall (l:List UInt8):(l.any fun c=> !rV c) = !l.all rV:=by induction l <;> simp_all [List.any_cons,List.all_cons]
theorem MX (s:List UInt8) (hs:s.length < 4611686018427387904):pR s=some (rW s):=by
 unfold pR
 cases s with
 | nil=>rfl
 | cons c r=>
  have hlen:(c::r).length=r.length+1:=rfl
  refine bo (a:=decide (r.length≥16)) ?_ ?_
  ·rw [show ((c::r)==([]:List UInt8))=false from rfl,cond_false,hlen];congr 1;exact Qs (by omega)
  by_cases h16:r.length≥16
  ·rw [aD h16];simp only [rW];rw [decide_eq_false (by omega)];rfl
  rw [aP h16]
  have e1:rW (c::r)=(letter c&&r.all rV):=by simp only [rW];rw [decide_eq_true (by omega)];rfl
  rw [e1]
  refine TS (w:=if (letter c&&r.all rV)=true then .inl () else .inr false) (nmB fun B hB=>?_) ?_
  rotate_left
  ·cases (letter c&&r.all rV) <;> rfl
  have step:∀(i:Nat) (x:UInt8),i < (c::r).length→(c::r)[i]?=some x→B (i:Int)=some (if (if i=0 then !letter x else !rV x)=true then .inr (.inr false) else .inl ((i+1:Nat):Int)):=by
   intro i x hi hx
   rw [hB]
   show (bif _ then _ else _)=_
   rw [aD (by omega),Ca,hx,av,show ((i:Int)==0)=decide (i=0) by rw [Bool.eq_iff_iff];simp,bX (by omega)]
   generalize ((i+1:Nat):Int)=k
   by_cases h0:i=0
   ·simp only [h0,decide_true,if_true]
    clear hx
    refine bo (a:=letter x) ?_ ?_
    ·revert x;exact u8F (by decide +kernel)
    ·cases letter x <;> rfl
   ·simp only [h0,decide_false,if_false]
    clear hx
    refine bo (a:=letter x) ?_ (bo (a:= !rV x) ?_ ?_)
    ·revert x;exact u8F (by decide +kernel)
    ·revert x;exact u8F (by decide +kernel)
    ·cases rV x <;> rfl
  have s0:=step 0 c (by omega) rfl
  rw [show (0:Int)=((0:Nat):Int) from rfl]
  cases hc:letter c with
  | false=>rw [hc] at s0;exact fM s0
  | true=>
   rw [hc] at s0
   rw [gB (y':=((0+1:Nat):Int)) s0]
   refine (lq3 r (fun c=> !rV c) (.inr false) (.inl ()) (fun i=>((i+1:Nat):Int)) (fun i hi=>?_) ?_ rfl).trans ?_
   ·rw [step (i+1) r[i] (by omega) (by simp [hi])]
    simp
   ·rw [hB]
    show (bif _ then _ else _)=_
    rw [aP (by omega)]
   ·rw [nall];cases r.all rV <;> rfl
theorem xW (s:List UInt8) (hs:s.length < 4611686018427387904):qb s=some (rW s):=by
 unfold qb
 cases s with
 | nil=>rfl
 | cons c r=>
  have hlen:(c::r).length=r.length+1:=rfl
  have e1:rW (c::r)=(decide (r.length < 16)&&(letter c&&r.all rV)):=rfl
  rw [e1]
  refine bo (a:= !(decide (r.length < 16)&&letter c)) ?_ ?_
  ·rw [aP (by omega),show bP (c::r) 0=some c from rfl]
   by_cases h16:r.length < 16
   ·rw [aP (by omega),decide_eq_true h16]
    simp only [av,Bool.true_and]
    clear e1 hlen hs
    revert c;exact u8F (by decide +kernel)
   ·rw [aD (by omega),decide_eq_false h16];rfl
  by_cases h16:r.length < 16
  rotate_left
  ·rw [decide_eq_false h16];rfl
  rw [decide_eq_true h16,Bool.true_and,Bool.true_and]
  cases hc:letter c with
  | false=>rfl
  | true=>
   rw [Bool.not_true,cond_false,Bool.true_and]
   refine TS (w:=if r.all rV=true then .inl () else .inr false) (nmB fun B hB=>?_) ?_
   rotate_left
   ·cases r.all rV <;> rfl
   refine (lq3 r (fun c=> !rV c) (.inr false) (.inl ()) (fun i=>((i+1:Nat):Int)) (fun i hi=>?_) ?_ rfl).trans ?_
   ·rw [hB]
    show (bif _ then _ else _)=_
    rw [aD (by omega),Ca,show (c::r)[i+1]?=some r[i] by simp [hi],bX (by omega)]
    generalize ((i+1+1:Nat):Int)=k
    generalize r[i]=x
    simp only [av]
    refine bo (a:= !rV x) ?_ ?_
    ·revert x;exact u8F (by decide +kernel)
    ·cases rV x <;> rfl
   ·rw [hB]
    show (bif _ then _ else _)=_
    rw [aP (by omega)]
   ·rw [nall];cases r.all rV <;> rfl
def yP (c:aA) (v:aj):Int:=
 if val v=false then 8 else if v.Kind=0 then (if c.Au=true then 0 else 8) else if v.Kind≠c.Kind then 8 else if (v.Kind=4∨v.Kind=5)∧(v.S.length:Int) > c.Max then 7 else 0
theorem WG (k:Int):jM k=some (decide (k=4∨k=5)):=by
 unfold jM
 by_cases h:k=4
 ·subst h;rfl
 ·rw [show (k==4)=false by simpa using h]
  simp only [cond_false,av,h,false_or]
  congr 1
theorem xQ (c:aA) (v:aj) (h:v.S.length < 4611686018427387904):kJ c v=some (yP c v):=by
 unfold kJ yP
 rw [vT v h,av]
 cases hv:val v with
 | false=>rfl
 | true=>
  simp only [Bool.not_true,cond_false,Bool.true_eq_false,if_false]
  by_cases h0:v.Kind=0
  ·rw [show (v.Kind==0)=true by simpa using h0,if_pos h0]
   cases c.Au <;> rfl
  rw [show (v.Kind==0)=false by simpa using h0,if_neg h0,cond_false]
  by_cases hk:v.Kind=c.Kind
  rotate_left
  ·rw [show (v.Kind != c.Kind)=true by simpa using hk,if_pos hk];rfl
  rw [show (v.Kind != c.Kind)=false by simpa using hk,if_neg (by simpa using hk),cond_false,WG,av]
  by_cases hl:v.Kind=4∨v.Kind=5
  ·rw [aD hl,av]
   by_cases hm:(v.S.length:Int) > c.Max
   ·rw [if_pos ⟨hl,hm⟩,aD hm]
   ·rw [if_neg (fun h=>hm h.2),aP hm]
  ·rw [aP hl,av,if_neg (fun h=>hl h.1)];rfl
theorem DC (c:aA) (v:aj) (h:v.S.length < 4611686018427387904):sH c v=some (yP c v):=by
 unfold sH yP
 rw [K3 v h,av]
 cases hv:val v with
 | false=>rfl
 | true=>
  simp only [Bool.not_true,cond_false,Bool.true_eq_false,if_false]
  by_cases h0:v.Kind=0
  ·rw [show (v.Kind==0)=true by simpa using h0,if_pos h0,show (v.Kind != 0)=false by simpa using h0,h0]
   cases c.Au <;> rfl
  rw [show (v.Kind==0)=false by simpa using h0,if_neg h0,show (v.Kind != 0)=true by simpa using h0]
  simp only [cond_false,cond_true,av]
  by_cases hk:v.Kind=c.Kind
  rotate_left
  ·rw [show (v.Kind != c.Kind)=true by simpa using hk,if_pos hk];rfl
  rw [show (v.Kind != c.Kind)=false by simpa using hk,if_neg (by simpa using hk),cond_false]
  refine bo (a:=decide ((v.Kind=4∨v.Kind=5)∧(v.S.length:Int) > c.Max)) ?_ ?_
  ·by_cases h4:v.Kind=4
   ·rw [show (v.Kind==4)=true by simpa using h4];simp [h4]
   ·rw [show (v.Kind==4)=false by simpa using h4]
    by_cases h5:v.Kind=5
    ·rw [show (v.Kind==5)=true by simpa using h5];simp [h5]
    ·rw [show (v.Kind==5)=false by simpa using h5];simp [h4,h5]
  ·by_cases q:(v.Kind=4∨v.Kind=5)∧(v.S.length:Int) > c.Max
   ·rw [aD q,if_pos q]
   ·rw [aP q,if_neg q]
def rP (c:aA):Int:=
 if rW c.Name=false then 1 else if c.Kind < 1∨c.Kind > 5 then 8 else if (if c.Kind=4∨c.Kind=5 then c.Max < 1∨c.Max > 64 else c.Max≠0) then 7 else yP c c.Default
theorem Jp (c:aA) (h:c.Name.length < 4611686018427387904) (h2:c.Default.S.length < 4611686018427387904):lM c=some (rP c):=by
 unfold lM rP
 rw [MX _ h,av]
 cases rW c.Name with
 | false=>rfl
 | true=>
  simp only [Bool.not_true,cond_false,Bool.true_eq_false,if_false]
  refine bo (a:=decide (c.Kind < 1∨c.Kind > 5)) ?_ ?_
  ·by_cases k1:c.Kind < 1
   ·rw [aD k1,decide_eq_true (Or.inl k1)]
   ·rw [aP k1];congr 1;exact Qs (by omega)
  by_cases hk:c.Kind < 1∨c.Kind > 5
  ·rw [aD hk,if_pos hk]
  rw [aP hk,if_neg hk]
  simp only [WG,av]
  refine bo (a:=decide (if c.Kind=4∨c.Kind=5 then c.Max < 1∨c.Max > 64 else c.Max≠0)) ?_ ?_
  ·by_cases hl:c.Kind=4∨c.Kind=5
   ·simp only [hl,decide_true,cond_true,if_true,Bool.not_true,cond_false]
    by_cases m1:c.Max < 1
    ·rw [aD m1];simp [m1]
    ·rw [aP m1]
     by_cases m2:c.Max > 64
     ·rw [aD m2];simp [m2]
     ·rw [aP m2];simp [m1,m2]
   ·simp only [hl,decide_false,cond_false,if_false,Bool.not_false,cond_true]
    congr 1
    by_cases m:c.Max=0
    ·simp [m]
    ·simp [m]
  by_cases q:(if c.Kind=4∨c.Kind=5 then c.Max < 1∨c.Max > 64 else c.Max≠0)
  ·rw [aD q,if_pos q]
  ·rw [aP q,if_neg q,xQ _ _ h2,av]
theorem Ae (c:aA) (h:c.Name.length < 4611686018427387904) (h2:c.Default.S.length < 4611686018427387904):oD c=some (rP c):=by
 unfold oD rP
 rw [xW _ h,av]
 cases rW c.Name with
 | false=>rfl
 | true=>
  simp only [Bool.not_true,cond_false,Bool.true_eq_false,if_false]
  refine bo (a:=decide (c.Kind < 1∨c.Kind > 5)) ?_ ?_
  ·by_cases k1:c.Kind < 1
   ·rw [aD k1,decide_eq_true (Or.inl k1)]
   ·rw [aP k1];congr 1;exact Qs (by omega)
  by_cases hk:c.Kind < 1∨c.Kind > 5
  ·rw [aD hk,if_pos hk]
  rw [aP hk,if_neg hk]
  refine bo (a:=decide (if c.Kind=4∨c.Kind=5 then c.Max < 1∨c.Max > 64 else c.Max≠0)) ?_ ?_
  ·by_cases hl:c.Kind=4∨c.Kind=5
   ·rw [aP (by omega),aD (by omega)]
    simp only [hl,if_true]
    by_cases m1:c.Max < 1
    ·rw [aD m1];simp [m1]
    ·rw [aP m1];simp [m1]
   ·rw [aD (by omega)]
    simp only [hl,if_false]
    by_cases m:c.Max=0
    ·rw [show (c.Max != 0)=false by simpa using m,cond_false,aP (by omega)];simp [m]
    ·rw [show (c.Max != 0)=true by simpa using m];simp [m]
  by_cases q:(if c.Kind=4∨c.Kind=5 then c.Max < 1∨c.Max > 64 else c.Max≠0)
  ·rw [aD q,if_pos q]
  ·rw [aP q,if_neg q,DC _ _ h2,av]
def OkC (c:aA):Prop:=c.Name.length < 4611686018427387904∧c.Default.S.length < 4611686018427387904
def GQ (l:List aA):Prop:=l.length < 4611686018427387904∧∀c∈l,OkC c
def Iz (l:List aj):Prop:=l.length < 4611686018427387904∧∀v∈l,v.S.length < 4611686018427387904
def rO (l:List aA):Bool:=decide (1≤l.length∧l.length≤24)&&l.all fun c=>rP c==0
def Dh (p:aA×aj):Option Int:=if yP p.1 p.2=0 then none else some (yP p.1 p.2)
def rH (bW:List aA) (l:List aj):Int:=if rO bW=false∨l.length≠bW.length then 1 else ((bW.zip l).findSome? Dh).getD 0
theorem aoR (l:List aA):(l.any fun c=>rP c != 0) = !(l.all fun c=>rP c==0):=by
 induction l with
 | nil=>rfl
 | cons x r ih=>rw [List.any_cons,List.all_cons,ih];cases h:(rP x==0) <;> simp [bne,h]
theorem Bo (l:List aA) (h:GQ l):lI l=some (rO l):=by
 unfold lI
 have hl:=h.1
 refine bo (a:=rO l) ?_ rfl
 by_cases h1:l.length≥1
 rotate_left
 ·rw [aP (by omega),rO,decide_eq_false (by omega)];rfl
 rw [aD (by omega)]
 by_cases h2:l.length≤24
 rotate_left
 ·rw [aP (by omega),rO,decide_eq_false (by omega)];rfl
 rw [aD (by omega)]
 refine bo (a:=l.any fun c=>rP c != 0) ?_ ?_
 ·unfold dD dK
  refine bo (lqX l (fun c=>rP c != 0) (fun i hi=>?_) ?_) (by rw [Sy])
  ·show (bif _ then _ else _)=_
   rw [aD (by omega),cu hi,av,mU,Jp _ (h.2 _ (List.getElem_mem hi)).1 (h.2 _ (List.getElem_mem hi)).2,av,av,bX (by omega)]
   cases rP l[i] != 0 <;> rfl
  ·show (bif _ then _ else _)=_
   rw [aP (by omega)]
 ·rw [aoR,rO,decide_eq_true ⟨h1,h2⟩,Bool.not_not];rfl
theorem Hy (l:List aA) (h:GQ l):pF l=some (rO l):=by
 unfold pF
 have hl:=h.1
 refine bo (a:= !decide (1≤l.length∧l.length≤24)) ?_ ?_
 ·by_cases h1:l.length≥1
  ·rw [aP (by omega)];congr 1;rw [← decide_not];exact Qs (by omega)
  ·rw [aD (by omega)];congr 1;rw [decide_eq_false (by omega)];rfl
 by_cases h12:1≤l.length∧l.length≤24
 rotate_left
 ·rw [decide_eq_false h12,rO,decide_eq_false h12];rfl
 rw [decide_eq_true h12,rO,decide_eq_true h12,Bool.not_true,cond_false,Bool.true_and]
 refine TS (lq3 l (fun c=>rP c != 0) (.inr false) (.inl ()) (fun i=>(i:Int)) (fun i hi=>?_) ?_ rfl) ?_
 ·show (bif _ then _ else _)=_
  rw [aD (by omega),cu hi,av,Ae _ (h.2 _ (List.getElem_mem hi)).1 (h.2 _ (List.getElem_mem hi)).2,av,bX (by omega)]
  cases rP l[i] != 0 <;> rfl
 ·show (bif _ then _ else _)=_
  rw [aP (by omega)]
 ·rw [aoR];cases (l.all fun c=>rP c==0) <;> rfl
theorem ajx {α β:Type} {a:List α} {b:List β} (h:b.length=a.length):(a.zip b).length=a.length:=by simp [h]
theorem WO (l:List (aA×aj)):l.findSome? (fun p=>(Dh p).map fun x=>(.inr x:Unit⊕Int))=(l.findSome? Dh).map fun x=>(.inr x:Unit⊕Int):=by
 induction l with
 | nil=>rfl
 | cons x r ih=>rw [List.findSome?_cons,List.findSome?_cons];cases Dh x <;> simp [ih]
theorem Rv (bW:List aA) (l:List aj) (h:GQ bW) (hv:Iz l):wB bW l=some (rH bW l):=by
 unfold wB rH
 have hl:=hv.1
 refine bo (a:=decide (rO bW=false∨l.length≠bW.length)) ?_ ?_
 ·rw [Bo _ h,av]
  cases rO bW with
  | false=>simp
  | true=>rw [Bool.not_true,cond_false,nat_ne];simp [bne,Bool.beq_eq_decide_eq]
 by_cases q:rO bW=false∨l.length≠bW.length
 ·rw [aD q,if_pos q]
 rw [aP q,if_neg q]
 have e:l.length=bW.length:=by rw [not_or] at q;simpa using q.2
 have z:=ajx (a:=bW) (b:=l) e
 refine TS (lq2 (bW.zip l) (fun p=>(Dh p).map fun x=>(.inr x:Unit⊕Int)) (.inl ()) (fun i=>(i:Int)) (fun i hi=>?_) ?_ rfl) ?_
 ·show (bif _ then _ else _)=_
  rw [aD (by omega),cu (by omega),av,cu (by omega),av,xQ _ _ (hv.2 _ (List.getElem_mem _)),av,bX (by omega),List.getElem_zip]
  unfold Dh
  by_cases k:yP bW[i] l[i]=0
  ·simp [k]
  ·rw [if_neg k,show (yP bW[i] l[i] != 0)=true by simpa using k];rfl
 ·show (bif _ then _ else _)=_
  rw [aP (by omega)]
 ·rw [WO]
  cases (bW.zip l).findSome? Dh <;> rfl
theorem xU (bW:List aA) (l:List aj) (h:GQ bW) (hv:Iz l):sG bW l=some (rH bW l):=by
 unfold sG rH
 have hl:=hv.1
 refine bo (a:=decide (rO bW=false∨l.length≠bW.length)) ?_ ?_
 ·rw [Hy _ h,av]
  cases rO bW with
  | false=>simp
  | true=>rw [Bool.not_true,cond_false,nat_ne];simp [bne,Bool.beq_eq_decide_eq]
 by_cases q:rO bW=false∨l.length≠bW.length
 ·rw [aD q,if_pos q]
 rw [aP q,if_neg q]
 have e:l.length=bW.length:=by rw [not_or] at q;simpa using q.2
 have z:=ajx (a:=bW) (b:=l) e
 refine TS (lq2 (bW.zip l) (fun p=>(Dh p).map fun x=>(.inr x:Unit⊕Int)) (.inl ()) (fun i=>(i:Int)) (fun i hi=>?_) ?_ rfl) ?_
 ·show (bif _ then _ else _)=_
  rw [aD (by omega),cu (by omega),av,cu (by omega),av,DC _ _ (hv.2 _ (List.getElem_mem _)),av,bX (by omega),List.getElem_zip]
  unfold Dh
  by_cases k:yP bW[i] l[i]=0
  ·simp [k]
  ·rw [if_neg k,show (yP bW[i] l[i] != 0)=true by simpa using k];rfl
 ·show (bif _ then _ else _)=_
  rw [aP (by omega)]
 ·rw [WO]
  cases (bW.zip l).findSome? Dh <;> rfl
theorem adI (x:UInt8):(255:UInt8) - x = ~~~ x:=by
 rw [← UInt8.toNat_inj]
 have:=x.toNat_lt
 rw [UInt8.toNat_sub,UInt8.toNat_not]
 show (256 - x.toNat+255) % 256=_
 simp
 omega
theorem asI:eY 1 1=[1]:=by decide
theorem ajy:eY 0 1=[0]:=by decide
theorem agV:eY 0 2=[0,0]:=by decide
theorem b8 (x:UInt8):eY x.toUInt64 1=[x]:=by
 unfold eY
 simp [eY]
theorem aur:eY 255 1=[255]:=by decide
theorem KX (v : aj) (d:Bool) (h:v.S.length≤1048576):qV v d=some (turn d (enc v)):=by
  have hl:=CQ v.S
  have hb:=Md v
  have hlen:(enc v).length≤4194304:=by unfold enc;simp;omega
  unfold qV
  have h1:(bif (v.Kind==(0:Int)) then
      Option.bind (jI (0:UInt64) (1:Int)) fun Ya=>
      some Ya
    else
      Option.bind (jI (1:UInt64) (1:Int)) fun asD=>
      some asD)=some [if v.Kind=0 then 0 else 1]:=by
    have e0:=jy 0 1 [] (by omega) (by simp)
    have e1:=jy 1 1 [] (by omega) (by simp)
    by_cases k:v.Kind=0
    · rw [k,if_pos rfl]
      simp only [BEq.rfl,cond_true,Cr]
      rw [show bU 0 1 []=_ from e0,ajy];rfl
    · rw [if_neg k,beq_eq_false_iff_ne.2 k,cond_false,Cr,show bU 1 1 []=_ from e1,asI];rfl
  rw [h1,av]
  -- the middle
  have key:∀(m:Option (List UInt8)) (f:List UInt8→Option (List UInt8)),m=some (enc v)→f (enc v)=some (turn d (enc v))→Option.bind m f=some (turn d (enc v)):=by
    intro m f hm hf;subst hm;exact hf
  refine key _ _ ?_ ?_
  · by_cases k1 : v.Kind=1
    · rw [k1,BEq.rfl,cond_true]
      rw [show bU (v.N ^^^ 9223372036854775808) 8 _=_ from jy _ 8 _ (by omega) (by simp)]
      unfold enc body
      rw [k1]
      rfl
    by_cases k2:v.Kind=2
    · rw [k2,show ((2:Int)==1)=false from rfl,cond_false,BEq.rfl,cond_true]
      rw [show bU v.N 8 _=_ from jy _ 8 _ (by omega) (by simp)]
      unfold enc body
      rw [k2]
      rfl
    by_cases k3:v.Kind=3
    · rw [k3,show ((3:Int)==1)=false from rfl,show ((3:Int)==2)=false from rfl,cond_false,cond_false,BEq.rfl,cond_true]
      rw [show bU v.N 1 _=_ from jy _ 1 _ (by omega) (by simp)]
      unfold enc body
      rw [k3]
      rfl
    rw [beq_eq_false_iff_ne.2 k1,beq_eq_false_iff_ne.2 k2,beq_eq_false_iff_ne.2 k3,cond_false,cond_false,cond_false]
    by_cases k45:v.Kind=4∨v.Kind=5
    · have c : (bif v.Kind==4 then some (v.Kind==4) else some (v.Kind==5))=some true:=by rcases k45 with k | k <;> rw [k] <;> rfl
      have k0:¬v.Kind=0:=by omega
      rw [c,av,cond_true,if_neg k0]
      have q := BU (B :=(fun (ac9,ajK)=>
                  bif (decide (ac9 < (v.S.length:Int))) then
                    Option.bind (α:=(List UInt8))
                      (Option.bind (bP v.S ac9) fun aqp=>
                      Option.bind (bU (aqp.toUInt64) (1:Int) ajK) fun akL=>
                      Option.bind (bP v.S ac9) fun aqo=>
                      bif (aqo==(0:UInt8)) then
                        Option.bind (bU (255:UInt64) (1:Int) akL) fun asC=>
                        some asC
                      else
                        some akL)
                      fun apU=>
                    some (Sum.inl ((bL (ac9+(1:Int))),apU))
                  else
                    some (Sum.inr ajK))) (fun i=>((i:Int),[1]++esc (v.S.take i))) v.S.length (w:=[1]++esc v.S) ?_ ?_
      · rw [show (loop _ ((0:Int),[(1:UInt8)]))=_ from q,av,av]
        rw [show bU 0 2 _=_ from jy 0 2 _ (by omega) (by simp;omega),agV]
        unfold enc body
        rcases k45 with k | k <;> simp [k]
      · intro i hi
        have es:=CQ (v.S.take i)
        have tl:(v.S.take i).length≤v.S.length:=by simp;omega
        have he:esc (v.S.take (i+1))=esc (v.S.take i)++(if v.S[i]=0 then [0,255] else [v.S[i]]):=by
          rw [List.take_succ_eq_append_getElem hi]
          generalize v.S.take i=l
          induction l with
          | nil=>unfold esc;simp only [List.nil_append];split <;> simp_all [esc]
          | cons x l ih=>
            rw [List.cons_append]
            unfold esc
            split <;> simp [ih]
        show (bif _ then _ else _)=_
        rw [aD (by omega),cu hi,av]
        rw [show bU (v.S[i].toUInt64) 1 _=_ from jy _ 1 _ (by omega) (by simp;omega),av,av,b8,he]
        by_cases hz:v.S[i]=0
        · rw [hz,BEq.rfl,cond_true,if_pos rfl]
          rw [show bU 255 1 _=_ from jy 255 1 _ (by omega) (by simp;omega),av,av,aur,bX (by omega)]
          simp
        · rw [beq_eq_false_iff_ne.2 hz,cond_false,if_neg hz,av,bX (by omega)]
          simp
      · show (bif _ then _ else _)=_
        rw [aP (by omega),List.take_length]
    · have c:(bif v.Kind==4 then some (v.Kind==4) else some (v.Kind==5))=some false:=by
        rw [beq_eq_false_iff_ne.2 (show ¬v.Kind=4 by omega),beq_eq_false_iff_ne.2 (show ¬v.Kind=5 by omega)];rfl
      rw [c,av,cond_false]
      unfold enc body
      simp only [k1,k2,k3,k45,if_false]
  · generalize enc v=b at hlen
    refine QS (w:=turn d b) (nmB fun B hB=>?_) rfl
    cases d with
    | false=>
      refine fM ?_
      rw [hB]
      show Option.bind (bif _ then _ else _) _=_
      cases decide ((0:Int) < (b.length:Int)) <;> rfl
    | true=>
      refine J7 (fun i=>((i:Int),mapped (fun x=> ~~~ x) b i)) b.length (fun i hi=>?_) ?_ (by rw [Jb];rfl)
      · have hm:=Ls (fun x=> ~~~ x) b i
        have hg:bP (mapped (fun x=> ~~~ x) b i) (i:Int)=some (b[i]'hi):=by rw [Ca,Lu _ _ hi]
        rw [hB]
        show Option.bind (bif _ then _ else _) _=_
        rw [aD (by omega),av,cond_true]
        show Option.bind (bP (mapped (fun x=> ~~~ x) b i) (i:Int)) _=_
        rw [hg,av,av,adI,bX (by omega),Int.toNat_natCast]
        exact congrArg (fun x=>some (Sum.inl (_,x))) (Lr (fun x=> ~~~ x) _ hi)
      · rw [hB]
        have hm:=Ls (fun x=> ~~~ x) b b.length
        show Option.bind (bif _ then _ else _) _=_
        rw [aP (by omega)]
        show some (Sum.inr (mapped (fun x=> ~~~ x) b b.length))=_
        rw [Lx]
        rfl
theorem Nf (l:List aj) (ds:List Bool) (he:l.length=ds.length) (hl:l.length≤1048576) (hv:l.any bad=false):qz l ds=some (yQ l ds):=by
 unfold qz
 refine QS (w:=yQ l ds) (J7 (fun i=>(yQ (l.take i) (ds.take i),(i:Int))) l.length (fun i hi=>?_) ?_ rfl) rfl
 ·have h1:=zP (l.take i) (ds.take i) (Tz _ _ _ hv)
  have hb:val l[i]=true:=by rw [List.any_eq_false] at hv;have:=hv _ (List.getElem_mem hi);unfold bad at this;simpa using this
  have h2:=Ik (v:=l[i]) hb
  have h3:=G8 hb
  rw [List.length_take,Nat.min_eq_left (Nat.le_of_lt hi)] at h1
  show (bif _ then _ else _)=_
  rw [aD (by omega),cu hi,av,cu (by omega),av,KX _ _ (by omega),av,aD (by rw [dL,Fw];omega),bX (by omega),Il l ds i hi (by omega)]
 ·show (bif _ then _ else _)=_
  rw [aP (by omega),List.take_length,he,List.take_length]
def ku (v:aj):List UInt8:=
 if v.Kind=0 then [1] else 0::(if v.Kind=1∨v.Kind=2 then eY v.N 8 else if v.Kind=3 then eY v.N 1 else if v.Kind=4∨v.Kind=5 then eY (uP v.S.length) 2++v.S else [])
def iZ (l:List aj):List UInt8:=eY (uP l.length) 1++(l.map ku).flatten
theorem aaI {v:aj} (h:v.S.length≤64):(ku v).length≤67:=by
 unfold ku
 repeat' split
 all_goals simp [eU] <;> omega
theorem LY:∀{l:List aj},(∀v∈l,v.S.length≤64)→((l.map ku).flatten).length≤67*l.length
 | [],_=>by simp
 | v::l,h=>by
  have h1:=aaI (h v (by simp))
  have h2:=LY (l:=l) (fun v hv=>h v (by simp [hv]))
  simp only [List.map_cons,List.flatten_cons,List.length_append,List.length_cons]
  omega
theorem Ni (s b:List UInt8) (h:s.length≤65535) (hb:b.length≤1048576):nR s b=some (true,b++(eY (uP s.length) 2++s)):=by
 unfold nR
 rw [aP (by omega),show bU (uP s.length) 2 b=_ from jy _ 2 _ (by omega) (by omega),av,aD (by rw [dL];simp [eU];omega),List.append_assoc]
theorem k12 (v:aj):(bif v.Kind==1 then some (v.Kind==1) else some (v.Kind==2))=some (decide (v.Kind=1∨v.Kind=2)):=by
 by_cases k:v.Kind=1
 ·rw [k];rfl
 ·rw [beq_eq_false_iff_ne.2 k,cond_false];congr 1;simp [k,Bool.beq_eq_decide_eq]
theorem k45 (v:aj):(bif v.Kind==4 then some (v.Kind==4) else some (v.Kind==5))=some (decide (v.Kind=4∨v.Kind=5)):=by
 by_cases k:v.Kind=4
 ·rw [k];rfl
 ·rw [beq_eq_false_iff_ne.2 k,cond_false];congr 1;simp [k,Bool.beq_eq_decide_eq]
theorem ak0 (n:UInt64):eY n 1=[n.toUInt8]:=by
 rw [ak1];rfl
theorem Pn (v:aj) (b:List UInt8) (h:v.S.length≤64) (hb:b.length≤1000000):yH v b=some (b++ku v):=by
 unfold yH
 refine bo (a:=b++[if v.Kind=0 then 1 else 0]) ?_ ?_
 ·unfold qW
  by_cases k:v.Kind=0
  ·rw [show (v.Kind==0)=true by simpa using k,cond_true,aD (by rw [dL];simp;omega),if_pos k]
  ·rw [show (v.Kind==0)=false by simpa using k,cond_false,aD (by rw [dL];simp;omega),if_neg k]
 rw [k12,av]
 by_cases k1:v.Kind=1∨v.Kind=2
 ·rw [aD k1,show bU v.N 8 _=_ from jy _ 8 _ (by omega) (by simp;omega),av]
  unfold ku
  rw [if_neg (show ¬v.Kind=0 by omega),if_neg (show ¬v.Kind=0 by omega),if_pos k1]
  simp
 rw [aP k1]
 by_cases k3:v.Kind=3
 ·rw [show (v.Kind==3)=true by simpa using k3,cond_true,show bU v.N 1 _=_ from jy _ 1 _ (by omega) (by simp;omega),av]
  unfold ku
  rw [if_neg (show ¬v.Kind=0 by omega),if_neg (show ¬v.Kind=0 by omega),if_neg k1,if_pos k3]
  simp
 rw [show (v.Kind==3)=false by simpa using k3,cond_false,k45,av]
 by_cases k4:v.Kind=4∨v.Kind=5
 ·rw [aD k4,Ni _ _ (by omega) (by simp;omega),av]
  unfold ku
  rw [if_neg (show ¬v.Kind=0 by omega),if_neg (show ¬v.Kind=0 by omega),if_neg k1,if_neg k3,if_pos k4]
  simp
 ·rw [aP k4]
  unfold ku
  rw [if_neg k1,if_neg k3,if_neg k4]
  split <;> rfl
theorem XT (l:List aj) (b:List UInt8) (i:Nat) (hi:i < l.length):b++((l.take (i+1)).map ku).flatten=(b++((l.take i).map ku).flatten)++ku l[i]:=by
 rw [List.take_succ_eq_append_getElem hi,List.map_append,List.flatten_append]
 simp
theorem Uj {l:List aj} (h:∀v∈l,v.S.length≤64) (i:Nat):∀v∈l.take i,v.S.length≤64:=fun v hv=>h v (List.mem_of_mem_take hv)
theorem Bw (l:List aj) (hs:∀v∈l,v.S.length≤64) (h24:l.length≤24):qy l=some (iZ l):=by
 unfold qy
 rw [Cr,show bU (uP l.length) 1 []=_ from jy _ 1 _ (by omega) (by simp),av,List.nil_append]
 refine QS (w:=iZ l) (J7 (fun i=>((i:Int),eY (uP l.length) 1++((l.take i).map ku).flatten)) l.length (fun i hi=>?_) ?_ (by simp)) rfl
 ·have f:=LY (Uj hs i)
  have tl:(l.take i).length≤24:=by simp;omega
  show (bif _ then _ else _)=_
  rw [aD (by omega),cu hi,av,Pn _ _ (hs _ (List.getElem_mem hi)) (by rw [List.length_append,eU];omega),av,bX (by omega),XT l _ i hi]
 ·show (bif _ then _ else _)=_
  rw [aP (by omega),List.take_length]
  rfl
theorem eqV (v w:aj):gq v w=decide (v=w):=by
 cases v;cases w
 simp only [gq,aj.mk.injEq]
 rw [Bool.eq_iff_iff]
 simp
theorem Tc {α:Type} [DecidableEq α] (a b:List α) (eq:α→α→Bool) (heq:∀x y,eq x y=true↔x=y) (hl:a.length=b.length) {B:Int→Option (Int⊕(Unit⊕Bool))}
  (h:∀i (h1:i < a.length) (h2:i < b.length),B (i:Int)=some (if eq a[i] b[i]=true then .inl ((i+1:Nat):Int) else .inr (.inr false))) (he:B (a.length:Int)=some (.inr (.inl ()))):
  fP (Option.bind (loop B 0) (Sum.elim (fun e=>some (Sum.inl e)) (fun e=>some (Sum.inr e)))) (fun _=>some true) (fun e=>some e)=some (decide (a=b)):=by
 have hd:(∀i (h1:i < a.length) (h2:i < b.length),a[i]=b[i])↔a=b:=⟨fun h=>List.ext_getElem hl fun i h1 h2=>h i h1 h2,fun h=>by subst h;intros;rfl⟩
 have z:(a.zip b).length=a.length:=by simp [hl]
 refine TS (lq3 (a.zip b) (fun p=> !eq p.1 p.2) (.inr false) (.inl ()) (fun i=>(i:Int)) (fun i hi=>?_) ?_ rfl) ?_
 ·rw [h i (by omega) (by omega),List.getElem_zip]
  cases eq a[i] b[i] <;> rfl
 ·rw [z];exact he
 ·by_cases q:(a.zip b).any (fun p=> !eq p.1 p.2)=true
  ·rw [if_pos q]
   have:¬(∀i (h1:i < a.length) (h2:i < b.length),a[i]=b[i]):=by
    intro k
    rw [List.any_eq_true] at q
    obtain ⟨p,hp,hq⟩:=q
    obtain ⟨i,hi,rfl⟩:=List.mem_iff_getElem.1 hp
    rw [List.getElem_zip] at hq
    have:=(heq _ _).2 (k i (by omega) (by omega))
    simp [this] at hq
   rw [decide_eq_false (fun e=>this (hd.2 e))];rfl
  ·rw [if_neg q]
   have:∀i (h1:i < a.length) (h2:i < b.length),a[i]=b[i]:=by
    intro i h1 h2
    rw [List.any_eq_true] at q
    refine (heq _ _).1 ?_
    cases hq:eq a[i] b[i] with
    | true=>rfl
    | false=>
     exfalso
     refine q ⟨(a[i],b[i]),?_,by simp [hq]⟩
     exact List.mem_iff_getElem.2 ⟨i,by omega,by rw [List.getElem_zip]⟩
   rw [decide_eq_true (hd.1 this)];rfl
theorem Nk (a b:List aj) (h:a.length < 4611686018427387904):wG a b=some (decide (a=b)):=by
 unfold wG
 rw [nat_ne]
 by_cases hl:a.length=b.length
 rotate_left
 ·rw [show (a.length != b.length)=true by simpa using hl,cond_true,decide_eq_false (fun e=>hl (by rw [e]))]
 rw [show (a.length != b.length)=false by simpa using hl,cond_false]
 refine (Tc a b gq (fun x y=>by rw [eqV];simp) hl (fun i h1 h2=>?_) ?_)
 ·show (bif _ then _ else _)=_
  rw [aD (by omega),cu h1,av,cu h2,av,bX (by omega)]
  cases gq a[i] b[i] <;> rfl
 ·show (bif _ then _ else _)=_
  rw [aP (by omega)]
theorem uI {α W:Type} {f:Nat→α→Option W}:∀{l:List α} {i:Nat},gH f i l=none↔∀j (h:j < l.length),f (i+j) (l[j]'h)=none
 | [],i=>by simp [gH]
 | x::r,i=>by
  rw [gH]
  cases hf:f i x with
  | some w=>
   simp only [reduceCtorEq,false_iff]
   intro h
   have:=h 0 (by simp)
   simp [hf] at this
  | none=>
   simp only
   rw [uI (l:=r) (i:=i+1)]
   constructor
   ·intro h j hj
    cases j with
    | zero=>simpa using hf
    | succ j=>have:=h j (by simpa using hj);simpa [Nat.add_assoc,Nat.add_comm 1 j] using this
   ·intro h j hj
    have:=h (j+1) (by simpa using hj)
    simpa [Nat.add_assoc,Nat.add_comm 1 j] using this
def OkX (x:bT):Prop:=x.Name.length < 4611686018427387904∧x.Parts.length < 4611686018427387904∧x.Extra.length < 4611686018427387904
structure OkT (t:aL):Prop where
 name:t.Name.length < 4611686018427387904
 bW:GQ t.aV
 akU:t.aR.length < 4611686018427387904
 idxs:t.bn.length < 4611686018427387904
 idx:∀x∈t.bn,OkX x
def Dc (l:List Int) (x:Int):Bool:=l.any fun y=>y==x
theorem zx (l:List Int) (x:Int) (h:l.length < 4611686018427387904):sw l x=some (Dc l x):=by
 unfold sw
 refine TS (lq3 l (fun y=>y==x) (.inr true) (.inl ()) (fun i=>(i:Int)) (fun i hi=>?_) ?_ rfl) ?_
 ·show (bif _ then _ else _)=_
  rw [aD (by omega),cu hi,av,bX (by omega)]
  cases l[i]==x <;> rfl
 ·show (bif _ then _ else _)=_
  rw [aP (by omega)]
 ·unfold Dc;cases (l.any fun y=>y==x) <;> rfl
def plE (n:Int) (l:List Int) (i:Nat) (c:Int):Option Unit:=if c < 0∨c≥n∨Dc (l.take i) c=true then some () else none
def gM (n:Int) (l:List Int):Bool:=(gH (plE n l) 0 l).isNone
theorem uU (n:Int) (l:List Int) (h:l.length < 4611686018427387904):lV n l=some (gM n l):=by
 unfold lV
 refine TS (lq5 l (fun i c=>(plE n l i c).map fun _=>(.inr false:Unit⊕Bool)) (.inl ()) (fun i=>(i:Int)) (fun i hi=>?_) ?_ rfl) ?_
 ·show (bif _ then _ else _)=_
  rw [aD (by omega),cu hi,bX (by omega)]
  simp only [av]
  refine bo (a:=decide (l[i] < 0∨l[i]≥n∨Dc (l.take i) l[i]=true)) ?_ ?_
  ·by_cases h1:l[i] < 0
   ·rw [aD h1];simp [h1]
   rw [aP h1]
   by_cases h2:l[i]≥n
   ·rw [aD h2];simp [h2]
   rw [aP h2,aD (by omega),Int.toNat_natCast,zx _ _ (by simp;omega),av]
   simp [h1,h2]
  ·unfold plE
   by_cases q:l[i] < 0∨l[i]≥n∨Dc (l.take i) l[i]=true
   ·rw [aD q,if_pos q];rfl
   ·rw [aP q,if_neg q];rfl
 ·show (bif _ then _ else _)=_
  rw [aP (by omega)]
 ·unfold gM
  have key:∀(r:List Int) (i:Nat),gH (fun i c=>(plE n l i c).map fun _=>(.inr false:Unit⊕Bool)) i r=(gH (plE n l) i r).map fun _=>.inr false:=by
   intro r
   induction r with
   | nil=>intro i;rfl
   | cons x r ih=>intro i;rw [gH,gH];cases plE n l i x <;> simp [ih]
  rw [key]
  cases gH (plE n l) 0 l <;> rfl
theorem wM {n:Int} {l:List Int} (h:gM n l=true):∀c∈l,0≤c∧c < n:=by
 unfold gM at h
 rw [Option.isNone_iff_eq_none,uI] at h
 intro c hc
 obtain ⟨i,hi,rfl⟩:=List.mem_iff_getElem.1 hc
 have:=h i hi
 unfold plE at this
 split at this
 ·cases this
 ·rename_i q;rw [not_or,not_or] at q;omega
theorem Np {n:Int} {l:List Int} (h:gM n l=true):l.Nodup:=by
 unfold gM at h
 rw [Option.isNone_iff_eq_none,uI] at h
 show List.Pairwise (·≠·) l
 rw [List.pairwise_iff_getElem]
 intro i j hi hj hij e
 have:=h j hj
 unfold plE at this
 split at this
 ·cases this
 ·rename_i q
  rw [not_or,not_or] at q
  refine q.2.2 ?_
  unfold Dc
  rw [List.any_eq_true]
  refine ⟨l[i],?_,by simp [e]⟩
  rw [Nat.zero_add]
  exact List.mem_iff_getElem.2 ⟨i,by simp;omega,by simp⟩
theorem zH {α β:Type} (f:α→β) (l:List α) {i:Nat} (hi:i < l.length):(l.take (i+1)).map f=(l.take i).map f++[f l[i]]:=by
 rw [List.take_succ_eq_append_getElem hi,List.map_append];rfl
def J3 (l:List Int):List aX:=l.map fun c=>⟨c,false⟩
theorem IW (l:List Int) (h:l.length≤1048576):yG l=some (J3 l):=by
 unfold yG
 refine QS (w:=J3 l) (J7 (fun i=>(J3 (l.take i),(i:Int))) l.length (fun i hi=>?_) ?_ rfl) rfl
 ·show (bif _ then _ else _)=_
  rw [aD (by omega),cu hi,av,aD (by rw [dL];simp [J3];omega),bX (by omega),show J3 (l.take (i+1))=_ from zH _ l hi]
  rfl
 ·show (bif _ then _ else _)=_
  rw [aP (by omega),List.take_length]
theorem Pg (l:List Int) (h:l.length≤1048576):r9 l=some (J3 l):=by
 unfold r9
 refine QS (w:=J3 l) (J7 (fun i=>(J3 (l.take i),(i:Int))) l.length (fun i hi=>?_) ?_ rfl) rfl
 ·show (bif _ then _ else _)=_
  rw [aD (by omega),cu hi,av,aD (by rw [dL];simp [J3];omega),bX (by omega),show J3 (l.take (i+1))=_ from zH _ l hi]
  rfl
 ·show (bif _ then _ else _)=_
  rw [aP (by omega),List.take_length]
def gI (l:List aX):List Int:=l.map (·.Col)
theorem Dx (l:List aX) (h:l.length≤1048576):sD l=some (gI l):=by
 unfold sD
 refine QS (w:=gI l) (J7 (fun i=>(gI (l.take i),(i:Int))) l.length (fun i hi=>?_) ?_ rfl) rfl
 ·show (bif _ then _ else _)=_
  rw [aD (by omega),cu hi,av,aD (by rw [dL];simp [gI];omega),bX (by omega),show gI (l.take (i+1))=_ from zH _ l hi]
  rfl
 ·show (bif _ then _ else _)=_
  rw [aP (by omega),List.take_length]
def uf (c:aA) (each:Int):Int:=if c.Kind=1∨c.Kind=2 then 9 else if c.Kind=3 then 2 else 3+each*c.Max
theorem WX {c:aA} (h:rP c=0):rW c.Name=true∧1≤c.Kind∧c.Kind≤5∧(if c.Kind=4∨c.Kind=5 then 1≤c.Max∧c.Max≤64 else c.Max=0)∧yP c c.Default=0:=by
 unfold rP at h
 by_cases h1:rW c.Name=false
 ·rw [if_pos h1] at h;cases h
 rw [if_neg h1] at h
 by_cases h2:c.Kind < 1∨c.Kind > 5
 ·rw [if_pos h2] at h;cases h
 rw [if_neg h2] at h
 by_cases h3:(if c.Kind=4∨c.Kind=5 then c.Max < 1∨c.Max > 64 else c.Max≠0)
 ·rw [if_pos h3] at h;cases h
 rw [if_neg h3] at h
 refine ⟨by simpa using h1,by omega,by omega,?_,h⟩
 by_cases k:c.Kind=4∨c.Kind=5
 ·rw [if_pos k] at h3 ⊢;omega
 ·rw [if_neg k] at h3 ⊢;omega
theorem Tj {c:aA} (h:rP c=0):0≤c.Max∧c.Max≤64:=by
 have:=(WX h).2.2.2.1
 split at this <;> omega
theorem Dv (c:aA) (each:Int) (hc:0≤c.Max∧c.Max≤64) (he:each=1∨each=2):su c each=some (uf c each):=by
 unfold su uf
 refine bo (a:=decide (c.Kind=1∨c.Kind=2)) ?_ ?_
 ·by_cases k:c.Kind=1
  ·rw [k];rfl
  ·rw [beq_eq_false_iff_ne.2 k,cond_false];congr 1;simp [k,Bool.beq_eq_decide_eq]
 by_cases k:c.Kind=1∨c.Kind=2
 ·rw [aD k,if_pos k]
 rw [aP k,if_neg k]
 by_cases k3:c.Kind=3
 ·rw [show (c.Kind==3)=true by simpa using k3,cond_true,if_pos k3]
 rw [show (c.Kind==3)=false by simpa using k3,cond_false,if_neg k3]
 have hm:0≤each*c.Max∧each*c.Max≤128:=by rcases he with rfl | rfl <;> omega
 generalize each*c.Max=m at hm ⊢
 rw [gL (n:=m) (by omega) (by omega),gL (by omega) (by omega)]
theorem Fa {c:aA} {each:Int} (hc:0≤c.Max∧c.Max≤64) (he:each=1∨each=2):0≤uf c each∧uf c each≤131:=by
 unfold uf
 have hm:0≤each*c.Max∧each*c.Max≤128:=by rcases he with rfl | rfl <;> omega
 repeat' split
 all_goals omega
theorem Hq {α:Type} (f:α→Int):∀{l:List α},(∀x∈l,0≤f x∧f x≤131)→0≤(l.map f).sum∧(l.map f).sum≤131*l.length
 | [],_=>by simp
 | x::l,h=>by
  have h1:=h x (by simp)
  have h2:=Hq f (l:=l) (fun y hy=>h y (by simp [hy]))
  simp only [List.map_cons,List.sum_cons,List.length_cons]
  omega
theorem Rk (l:List Int) (i:Nat) (hi:i < l.length):(l.take (i+1)).sum=(l.take i).sum+l[i]:=by
 rw [List.take_succ_eq_append_getElem hi,List.sum_append]
 simp only [List.sum_cons,List.sum_nil,Int.add_zero]
def kP (l:List aA):Int:=1+(l.map fun c=>uf c 1).sum
theorem Jy (l:List aA) (h:l.length≤24) (hc:∀c∈l,0≤c.Max∧c.Max≤64):qQ l=some (kP l):=by
 unfold qQ
 refine QS (w:=kP l) (J7 (fun i=>(kP (l.take i),(i:Int))) l.length (fun i hi=>?_) ?_ rfl) rfl
 ·have b:=Hq (fun c=>uf c 1) (l:=l.take i) (fun c h=>Fa (hc c (List.mem_of_mem_take h)) (.inl rfl))
  have w:=Fa (each:=1) (hc _ (List.getElem_mem hi)) (.inl rfl)
  have tl:(l.take i).length≤24:=by simp;omega
  show (bif _ then _ else _)=_
  rw [aD (by omega),cu hi,av,Dv _ _ (hc _ (List.getElem_mem hi)) (.inl rfl),av,bX (by omega)]
  have e:kP (l.take (i+1))=kP (l.take i)+uf l[i] 1:=by
   unfold kP
   rw [List.map_take,List.map_take,Rk _ _ (by simpa using hi)];simp;omega
  rw [e,gL (by unfold kP;omega) (by unfold kP;omega)]
 ·show (bif _ then _ else _)=_
  rw [aP (by omega),List.take_length]
def wU (bW:List aA) (i:Int):aA:=(bW[i.toNat]?).getD default
theorem Tk {bW:List aA} {i:Int} (h:0≤i∧i < bW.length):bP bW i=some (wU bW i):=by
 unfold bP wU
 rw [if_pos h.1]
 have hl:i.toNat < bW.length:=by omega
 rw [List.getElem?_eq_getElem hl];rfl
theorem yU {bW:List aA} {i:Int} (h:0≤i∧i < bW.length):wU bW i∈bW:=by
 unfold wU
 have hl:i.toNat < bW.length:=by omega
 rw [List.getElem?_eq_getElem hl];exact List.getElem_mem hl
def iO (bW:List aA) (l:List aX):Int:=(l.map fun p=>uf (wU bW p.Col) 2).sum
theorem Ac (bW:List aA) (l:List aX) (h:l.length≤1048576) (hp:∀p∈l,0≤p.Col∧p.Col < bW.length) (hc:∀c∈bW,0≤c.Max∧c.Max≤64):oz bW l=some (iO bW l):=by
 unfold oz
 refine QS (w:=iO bW l) (J7 (fun i=>(iO bW (l.take i),(i:Int))) l.length (fun i hi=>?_) ?_ rfl) rfl
 ·have b:=Hq (fun p:aX=>uf (wU bW p.Col) 2) (l:=l.take i) (fun p h=>Fa (hc _ (yU (hp p (List.mem_of_mem_take h)))) (.inr rfl))
  have hq:=hp _ (List.getElem_mem hi)
  have w:=Fa (each:=2) (hc _ (yU hq)) (.inr rfl)
  have tl:(l.take i).length≤1048576:=by simp;omega
  show (bif _ then _ else _)=_
  rw [aD (by omega),cu hi,av,Tk hq,av,Dv _ _ (hc _ (yU hq)) (.inr rfl),av,bX (by omega)]
  have e:iO bW (l.take (i+1))=iO bW (l.take i)+uf (wU bW l[i].Col) 2:=by
   unfold iO
   rw [List.map_take,List.map_take,Rk _ _ (by simpa using hi)];simp
  rw [e,gL (by unfold iO;omega) (by unfold iO;omega)]
 ·show (bif _ then _ else _)=_
  rw [aP (by omega),List.take_length]
def uX (t:aL) (x:bT):Int:=
 if x.Parts.length < 1∨x.Parts.length > 4∨gM t.aV.length (gI x.Parts)=false∨gM t.aV.length x.Extra=false then 1
 else if (x.Extra.any fun c=>Dc (gI x.Parts) c || Dc t.aR c)=true then 1
 else if iO t.aV x.Parts > 128 then 7 else 0
theorem La {n:Int} {l:List aX} (h:gM n (gI l)=true):∀p∈l,0≤p.Col∧p.Col < n:=fun p hp=>wM h p.Col (List.mem_map.2 ⟨p,hp,rfl⟩)
theorem KR (t:aL) (x:bT) (hc:∀c∈t.aV,0≤c.Max∧c.Max≤64) (hx:OkX x) (hp:t.aR.length < 4611686018427387904):uq t x=some (uX t x):=by
 unfold uq uX
 obtain ⟨o1,o2,o3⟩:=hx
 refine bo (a:=decide (x.Parts.length < 1∨x.Parts.length > 4∨gM t.aV.length (gI x.Parts)=false∨gM t.aV.length x.Extra=false)) ?_ ?_
 ·by_cases h1:x.Parts.length < 1
  ·rw [aD (by omega),decide_eq_true (.inl h1)]
  rw [aP (by omega)]
  by_cases h2:x.Parts.length > 4
  ·rw [aD (by omega),decide_eq_true (.inr (.inl h2))]
  rw [aP (by omega),Dx _ (by omega),av,uU _ _ (by simp [gI];omega),av]
  cases p1:gM t.aV.length (gI x.Parts) with
  | false=>simp
  | true=>
   rw [Bool.not_true,cond_false,uU _ _ o3,av]
   cases p2:gM t.aV.length x.Extra <;> simp [h1,h2]
 by_cases q:x.Parts.length < 1∨x.Parts.length > 4∨gM t.aV.length (gI x.Parts)=false∨gM t.aV.length x.Extra=false
 ·rw [aD q,if_pos q]
 rw [aP q,if_neg q]
 simp only [not_or,Bool.not_eq_false] at q
 refine TS (lq3 x.Extra (fun c=>Dc (gI x.Parts) c || Dc t.aR c) (.inr 1) (.inl ()) (fun i=>(i:Int)) (fun i hi=>?_) ?_ rfl) ?_
 ·show (bif _ then _ else _)=_
  rw [aD (by omega),cu hi,bX (by omega),Dx _ (by omega)]
  simp only [av]
  rw [zx _ _ (by simp [gI];omega),av,zx _ _ hp]
  cases Dc (gI x.Parts) x.Extra[i] <;> cases Dc t.aR x.Extra[i] <;> rfl
 ·show (bif _ then _ else _)=_
  rw [aP (by omega)]
 ·cases (x.Extra.any fun c=>Dc (gI x.Parts) c || Dc t.aR c) with
  | true=>rfl
  | false=>
   simp only [Bool.false_eq_true,if_false,Sum.elim_inl]
   rw [Ac _ _ (by omega) (La q.2.2.1) hc,av]
   by_cases k:iO t.aV x.Parts > 128
   ·rw [aD k,if_pos k]
   ·rw [aP k,if_neg k]
def colE (l:List aA) (i:Nat) (c:aA):Option Int:=if rP c≠0 then some (rP c) else if ((l.take i).any fun d=>d.Name==c.Name)=true then some 6 else none
def P9 (t:aL) (i:Nat) (x:bT):Option Int:=
 if rW x.Name=false then some 1 else if ((t.bn.take i).any fun y=>y.Name==x.Name)=true then some 6 else if uX t x≠0 then some (uX t x) else none
def YJ (t:aL):Int:=
 if rW t.Name=false then 1 else if t.aV.length < 1∨t.aV.length > 24 then 7 else match gH (colE t.aV) 0 t.aV with
 | some e=>e
 | none=>if t.aR.length < 1∨t.aR.length > 4∨gM t.aV.length t.aR=false then 1
  else if (t.aR.any fun c=>(wU t.aV c).Au)=true then 1
  else if kP t.aV > 512∨iO t.aV (J3 t.aR) > 128∨t.bn.length > 6 then 7
  else match gH (P9 t) 0 t.bn with
   | some e=>e
   | none=>0
theorem VX {n:Int} {l:List Int} (h:gM n l=true):∀p∈J3 l,0≤p.Col∧p.Col < n:=by
 intro p hp
 obtain ⟨c,hc,rfl⟩:=List.mem_map.1 hp
 exact wM h c hc
theorem ED {α W V:Type} (f:Nat→α→Option W) (g:W→V):∀(l:List α) (i:Nat),gH (fun i x=>(f i x).map g) i l=(gH f i l).map g
 | [],i=>rfl
 | x::r,i=>by rw [gH,gH];cases f i x <;> simp [ED f g r]
theorem Gy {l:List aA} (h:gH (colE l) 0 l=none):∀c∈l,rP c=0:=by
 rw [uI] at h
 intro c hc
 obtain ⟨i,hi,rfl⟩:=List.mem_iff_getElem.1 hc
 have:=h i hi
 unfold colE at this
 by_cases q:rP l[i]=0
 ·exact q
 ·rw [if_pos q] at this;cases this
theorem wD (t:aL) (h:OkT t):uz t=some (YJ t):=by
  unfold uz YJ
  rw [xW _ h.name,av]
  cases rW t.Name with
  | false=>rfl
  | true=>
  rw [Bool.not_true,cond_false,if_neg (by simp)]
  refine bo (a:=decide (t.aV.length < 1∨t.aV.length > 24)) ?_ ?_
  · by_cases k:t.aV.length < 1
    · rw [aD (by omega)];simp [k]
    · rw [aP (by omega)];congr 1;exact Qs (by omega)
  by_cases q:t.aV.length < 1∨t.aV.length > 24
  · rw [aD q,if_pos q]
  rw [aP q,if_neg q]
  refine TS (lq5 t.aV (fun i c=>(colE t.aV i c).map fun e=>(.inr e:Unit⊕Int)) (.inl ()) (fun i=>(i:Int)) (fun i hi=>?_) ?_ rfl) ?_
  · have hm:=List.getElem_mem hi
    show (bif _ then _ else _)=_
    rw [aD (by omega),cu hi,bX (by omega)]
    unfold colE
    refine (?_:fP _ _ _=_)
    simp only [av]
    rw [Ae _ (h.bW.2 _ hm).1 (h.bW.2 _ hm).2,av]
    by_cases k:rP t.aV[i]=0
    rotate_left
    · rw [show (rP t.aV[i] != 0)=true by simpa using k,cond_true,Xe,if_pos k];rfl
    rw [show (rP t.aV[i] != 0)=false by simpa using k,cond_false,if_neg (by simpa using k)]
    have tl:(t.aV.take i).length=i:=by simp;omega
    have inner := lq3 (y0 :=(0:Int)) (B:=(fun agY:Int=>
                      bif (decide (agY < (i:Int))) then
                        Option.bind (bP t.aV agY) fun aqr=>
                        bif (aqr.Name==t.aV[i].Name) then
                          some (Sum.inr (Sum.inr (6:Int)))
                        else
                          some (Sum.inl (bL (agY+(1:Int))))
                      else
                        some (Sum.inr (Sum.inl ())))) (t.aV.take i) (fun d=>d.Name==t.aV[i].Name) (.inr 6) (.inl ()) (fun j=>(j:Int)) (fun j hj=>by
          show (bif _ then _ else _)=_
          rw [aD (by omega),cu (by omega),av,bX (by omega),List.getElem_take]
          cases t.aV[j].Name==t.aV[i].Name <;> rfl) (by
          show (bif _ then _ else _)=_
          rw [aP (by omega)]) rfl
    cases ha:((t.aV.take i).any fun d=>d.Name==t.aV[i].Name) with
    | true=>
      rw [ha] at inner
      rw [inner];rfl
    | false=>
      rw [ha] at inner
      rw [inner];rfl
  · show (bif _ then _ else _)=_
    rw [aP (by omega)]
  rw [ED]
  cases hc:gH (colE t.aV) 0 t.aV with
  | some e=>rfl
  | none=>
  have abR:=Gy hc
  have hmax:∀c∈t.aV,0≤c.Max∧c.Max≤64:=fun c hm=>Tj (abR c hm)
  simp only [Option.map_none,Option.getD_none,Sum.elim_inl]
  refine bo (a:=decide (t.aR.length < 1∨t.aR.length > 4∨gM t.aV.length t.aR=false)) ?_ ?_
  · by_cases k:t.aR.length < 1
    · rw [aD (by omega)];simp [k]
    rw [aP (by omega)]
    by_cases k2:t.aR.length > 4
    · rw [aD (by omega)];simp [k2]
    rw [aP (by omega),uU _ _ h.akU,av]
    cases gM t.aV.length t.aR <;> simp [k,k2]
  by_cases q2:t.aR.length < 1∨t.aR.length > 4∨gM t.aV.length t.aR=false
  · rw [aD q2,if_pos q2]
  rw [aP q2,if_neg q2]
  simp only [not_or,Bool.not_eq_false] at q2
  refine TS (lq3 t.aR (fun c=>(wU t.aV c).Au) (.inr 1) (.inl ()) (fun i=>(i:Int)) (fun i hi=>?_) ?_ rfl) ?_
  · show (bif _ then _ else _)=_
    rw [aD (by omega),cu hi,av,Tk (wM q2.2.2 _ (List.getElem_mem hi)),av,bX (by omega)]
    cases (wU t.aV t.aR[i]).Au <;> rfl
  · show (bif _ then _ else _)=_
    rw [aP (by omega)]
  cases (t.aR.any fun c=>(wU t.aV c).Au) with
  | true=>rfl
  | false=>
  simp only [Bool.false_eq_true,if_false,Sum.elim_inl]
  refine bo (a:=decide (kP t.aV > 512∨iO t.aV (J3 t.aR) > 128∨t.bn.length > 6)) ?_ ?_
  · rw [Jy _ (by omega) hmax,av]
    by_cases k:kP t.aV > 512
    · rw [aD k];simp [k]
    rw [aP k,IW _ (by omega),av,Ac _ _ (by simp [J3];omega) (VX q2.2.2) hmax,av]
    by_cases k2:iO t.aV (J3 t.aR) > 128
    · rw [aD k2];simp [k2]
    rw [aP k2];congr 1;simp only [k,k2,false_or];exact Qs (by omega)
  by_cases q3:kP t.aV > 512∨iO t.aV (J3 t.aR) > 128∨t.bn.length > 6
  · rw [aD q3,if_pos q3]
  rw [aP q3,if_neg q3]
  refine TS (lq5 t.bn (fun i x=>(P9 t i x).map fun e=>(.inr e:Unit⊕Int)) (.inl ()) (fun i=>(i:Int)) (fun i hi=>?_) ?_ rfl) ?_
  · have hm:=List.getElem_mem hi
    show (bif _ then _ else _)=_
    rw [aD (by omega),cu hi,bX (by omega)]
    unfold P9
    refine (?_:fP _ _ _=_)
    simp only [av]
    rw [xW _ (h.idx _ hm).1,av]
    cases hn:rW t.bn[i].Name with
    | false=>rfl
    | true=>
    rw [Bool.not_true,cond_false,if_neg (by simp)]
    have tl:(t.bn.take i).length=i:=by simp;omega
    have inner := lq3 (y0 := (0 : Int)) (B:=(fun agW:Int=>
                                    bif (decide (agW < (i:Int))) then
                                      Option.bind (bP t.bn agW) fun aqm=>
                                      bif (aqm.Name==t.bn[i].Name) then
                                        some (Sum.inr (Sum.inr (6:Int)))
                                      else
                                        some (Sum.inl (bL (agW+(1:Int))))
                                    else
                                      some (Sum.inr (Sum.inl ())))) (t.bn.take i) (fun d=>d.Name==t.bn[i].Name) (.inr 6) (.inl ()) (fun j=>(j:Int)) (fun j hj=>by
          show (bif _ then _ else _)=_
          rw [aD (by omega),cu (by omega),av,bX (by omega),List.getElem_take]
          cases t.bn[j].Name==t.bn[i].Name <;> rfl) (by
          show (bif _ then _ else _)=_
          rw [aP (by omega)]) rfl
    rw [inner]
    cases ha:((t.bn.take i).any fun d=>d.Name==t.bn[i].Name) with
    | true=>rfl
    | false=>
      simp only [Bool.false_eq_true,if_false]
      rw [KR t _ hmax (h.idx _ hm) h.akU]
      by_cases k:uX t t.bn[i]=0
      · rw [k];rfl
      · rw [if_pos k]
        refine beE (x:=uX t t.bn[i]) ?_ rfl
        refine beY (y:=()) rfl ?_
        rw [av,show (uX t t.bn[i] != 0)=true by simpa using k];rfl
  · show (bif _ then _ else _)=_
    rw [aP (by omega)]
  rw [ED]
  cases gH (P9 t) 0 t.bn <;> rfl
structure Right (t:aL):Prop where
 len:1≤t.aV.length∧t.aV.length≤24
 col:∀c∈t.aV,rP c=0
 pri:1≤t.aR.length∧t.aR.length≤4
 pla:gM t.aV.length t.aR=true
 row:kP t.aV≤512
 key:iO t.aV (J3 t.aR)≤128
 ixs:t.bn.length≤6
 idx:∀x∈t.bn,uX t x=0
theorem Right.of {t:aL} (h:YJ t=0):Right t:=by
 unfold YJ at h
 by_cases h1:rW t.Name=false
 ·rw [if_pos h1] at h;cases h
 rw [if_neg h1] at h
 by_cases h2:t.aV.length < 1∨t.aV.length > 24
 ·rw [if_pos h2] at h;cases h
 rw [if_neg h2] at h
 cases h3:gH (colE t.aV) 0 t.aV with
 | some e=>
  rw [h3] at h
  exfalso
  have:∀(l:List aA) (i:Nat) (e:Int),gH (colE t.aV) i l=some e→e≠0:=by
   intro l
   induction l with
   | nil=>intro i e h;cases h
   | cons x r ih=>
    intro i e h
    rw [gH] at h
    cases hx:colE t.aV i x with
    | none=>rw [hx] at h;exact ih _ _ h
    | some e'=>
     rw [hx] at h
     cases h
     unfold colE at hx
     by_cases q:rP x=0
     ·rw [if_neg (by simpa using q)] at hx
      by_cases q2:((t.aV.take i).any fun d=>d.Name==x.Name)=true
      ·rw [if_pos q2] at hx;cases hx;decide
      ·rw [if_neg q2] at hx;cases hx
     ·rw [if_pos q] at hx;cases hx;exact q
  exact this _ _ _ h3 h
 | none=>
 rw [h3] at h
 simp only at h
 by_cases h4:t.aR.length < 1∨t.aR.length > 4∨gM t.aV.length t.aR=false
 ·rw [if_pos h4] at h;cases h
 rw [if_neg h4] at h
 by_cases h5:(t.aR.any fun c=>(wU t.aV c).Au)=true
 ·rw [if_pos h5] at h;cases h
 rw [if_neg h5] at h
 by_cases h6:kP t.aV > 512∨iO t.aV (J3 t.aR) > 128∨t.bn.length > 6
 ·rw [if_pos h6] at h;cases h
 rw [if_neg h6] at h
 simp only [not_or,Bool.not_eq_false] at h2 h4 h6
 refine ⟨by omega,Gy h3,by omega,h4.2.2,by omega,by omega,by omega,fun x hx=>?_⟩
 obtain ⟨i,hi,rfl⟩:=List.mem_iff_getElem.1 hx
 cases h7:gH (P9 t) 0 t.bn with
 | none=>
  rw [uI] at h7
  have:=h7 i hi
  unfold P9 at this
  by_cases q:rW t.bn[i].Name=false
  ·rw [if_pos q] at this;cases this
  rw [if_neg q] at this
  by_cases q2:((t.bn.take (0+i)).any fun y=>y.Name==t.bn[i].Name)=true
  ·rw [if_pos q2] at this;cases this
  rw [if_neg q2] at this
  by_cases q3:uX t t.bn[i]=0
  ·exact q3
  ·rw [if_pos q3] at this;cases this
 | some e=>
  rw [h7] at h
  exfalso
  have:∀(l:List bT) (i:Nat) (e:Int),gH (P9 t) i l=some e→e≠0:=by
   intro l
   induction l with
   | nil=>intro i e h;cases h
   | cons x r ih=>
    intro i e h
    rw [gH] at h
    cases hx:P9 t i x with
    | none=>rw [hx] at h;exact ih _ _ h
    | some e'=>
     rw [hx] at h
     cases h
     unfold P9 at hx
     by_cases q:rW x.Name=false
     ·rw [if_pos q] at hx;cases hx;decide
     rw [if_neg q] at hx
     by_cases q2:((t.bn.take i).any fun y=>y.Name==x.Name)=true
     ·rw [if_pos q2] at hx;cases hx;decide
     rw [if_neg q2] at hx
     by_cases q3:uX t x=0
     ·rw [if_neg (by simpa using q3)] at hx;cases hx
     ·rw [if_pos q3] at hx;cases hx;exact q3
  exact this _ _ _ h7 h
structure yw (t:aL) (x:bT):Prop where
 par:1≤x.Parts.length∧x.Parts.length≤4
 pla:gM t.aV.length (gI x.Parts)=true
 ext:gM t.aV.length x.Extra=true
 key:iO t.aV x.Parts≤128
theorem yw.of {t:aL} {x:bT} (h:uX t x=0):yw t x:=by
 unfold uX at h
 by_cases h1:x.Parts.length < 1∨x.Parts.length > 4∨gM t.aV.length (gI x.Parts)=false∨gM t.aV.length x.Extra=false
 ·rw [if_pos h1] at h;cases h
 rw [if_neg h1] at h
 by_cases h2:(x.Extra.any fun c=>Dc (gI x.Parts) c || Dc t.aR c)=true
 ·rw [if_pos h2] at h;cases h
 rw [if_neg h2] at h
 by_cases h3:iO t.aV x.Parts > 128
 ·rw [if_pos h3] at h;cases h
 simp only [not_or,Bool.not_eq_false] at h1
 exact ⟨by omega,h1.2.2.1,h1.2.2.2,by omega⟩
theorem aaU:∀(n:Nat) (l:List Nat),l.Nodup→(∀x∈l,x < n)→l.length≤n
 | 0,[],_,_=>by simp
 | 0,x::l,_,h=>absurd (h x (by simp)) (by omega)
 | n+1,l,hd,h=>by
  have h1:=aaU n (l.erase n) (hd.erase n) (fun x hx=>by
   have:=(List.Nodup.mem_erase_iff hd).1 hx
   have:=h x this.2
   omega)
  have:=List.length_erase (a:=n) (l:=l)
  split at this <;> omega
theorem Oe {n:Nat} {l:List Int} (h:gM n l=true):l.length≤n:=by
 have h1:=wM h
 have h2:=Np h
 have h3:(l.map Int.toNat).Nodup:=by
  show List.Pairwise (·≠·) _
  rw [List.pairwise_map]
  refine List.Pairwise.imp_of_mem ?_ h2
  intro a b ha hb hab e
  have:=h1 a ha;have:=h1 b hb
  omega
 have h4:∀x∈l.map Int.toNat,x < n:=by
  intro x hx
  obtain ⟨c,hc,rfl⟩:=List.mem_map.1 hx
  have:=h1 c hc;omega
 have:=aaU n _ h3 h4
 simpa using this
theorem Qn {c:aA} {v:aj} (h:yP c v=0):val v=true∧(v.Kind=0∨v.Kind=c.Kind)∧((v.Kind=4∨v.Kind=5)→(v.S.length:Int)≤c.Max):=by
 unfold yP at h
 by_cases h1:val v=false
 ·rw [if_pos h1] at h;cases h
 rw [if_neg h1] at h
 have hv:val v=true:=by simpa using h1
 by_cases h2:v.Kind=0
 ·exact ⟨hv,.inl h2,fun k=>by omega⟩
 rw [if_neg h2] at h
 by_cases h3:v.Kind≠c.Kind
 ·rw [if_pos h3] at h;cases h
 rw [if_neg h3] at h
 by_cases h4:(v.Kind=4∨v.Kind=5)∧(v.S.length:Int) > c.Max
 ·rw [if_pos h4] at h;cases h
 exact ⟨hv,.inr (by simpa using h3),fun k=>by
  rcases Int.lt_or_le c.Max v.S.length with q | q
  ·exact absurd ⟨k,q⟩ h4
  ·exact q⟩
theorem VO {v:aj} (h:val v=true):0≤v.Kind∧v.Kind≤5:=by
 unfold val at h
 simp only [Bool.or_eq_true,Bool.and_eq_true,beq_iff_eq,decide_eq_true_eq] at h
 omega
structure Fit (bW:List aA) (l:List aj):Prop where
 rc:rO bW=true
 len:l.length=bW.length
 fit:∀i (h1:i < bW.length) (h2:i < l.length),yP bW[i] l[i]=0
theorem Fit.of {bW:List aA} {l:List aj} (h:rH bW l=0):Fit bW l:=by
 unfold rH at h
 by_cases q:rO bW=false∨l.length≠bW.length
 ·rw [if_pos q] at h;cases h
 rw [if_neg q] at h
 simp only [not_or,Bool.not_eq_false,ne_eq,Decidable.not_not] at q
 refine ⟨q.1,q.2,fun i h1 h2=>?_⟩
 have hn:(bW.zip l).findSome? Dh=none:=by
  cases hf:(bW.zip l).findSome? Dh with
  | none=>rfl
  | some e=>
   rw [hf] at h
   exfalso
   obtain ⟨p,_,hp⟩:=List.exists_of_findSome?_eq_some hf
   unfold Dh at hp
   by_cases k:yP p.1 p.2=0
   ·rw [if_pos k] at hp;cases hp
   ·rw [if_neg k] at hp;cases hp;exact k h
 rw [List.findSome?_eq_none_iff] at hn
 have:=hn (bW[i],l[i]) (List.mem_iff_getElem.2 ⟨i,by simp;omega,by rw [List.getElem_zip]⟩)
 unfold Dh at this
 by_cases k:yP bW[i] l[i]=0
 ·exact k
 ·rw [if_neg k] at this;cases this
theorem Fit.to {bW:List aA} {l:List aj} (h:Fit bW l):rH bW l=0:=by
 unfold rH
 rw [if_neg (by rw [h.rc,h.len];simp)]
 have hn:(bW.zip l).findSome? Dh=none:=by
  rw [List.findSome?_eq_none_iff]
  intro p hp
  obtain ⟨i,hi,rfl⟩:=List.mem_iff_getElem.1 hp
  have hi':i < bW.length∧i < l.length:=by have:=hi;simp at this;omega
  rw [List.getElem_zip]
  unfold Dh
  rw [if_pos (h.fit i hi'.1 hi'.2)]
 rw [hn];rfl
theorem Fit.num {bW:List aA} {l:List aj} (h:Fit bW l):1≤bW.length∧bW.length≤24∧∀c∈bW,rP c=0:=by
 have:=h.rc
 unfold rO at this
 simp only [Bool.and_eq_true,decide_eq_true_eq,List.all_eq_true,beq_iff_eq] at this
 exact ⟨this.1.1,this.1.2,this.2⟩
theorem Fit.val {bW:List aA} {l:List aj} (h:Fit bW l):∀v∈l,val v=true:=by
 intro v hv
 obtain ⟨i,hi,rfl⟩:=List.mem_iff_getElem.1 hv
 exact (Qn (h.fit i (by rw [← h.len];exact hi) hi)).1
theorem Fit.short {bW:List aA} {l:List aj} (h:Fit bW l):∀v∈l,v.S.length≤64:=fun v hv=>G8 (h.val v hv)
def uO (l:List aj) (i:Int):aj:=(l[i.toNat]?).getD default
theorem zi {l:List aj} {i:Int} (h:0≤i∧i < l.length):bP l i=some (uO l i):=by
 unfold bP uO
 rw [if_pos h.1]
 have hl:i.toNat < l.length:=by omega
 rw [List.getElem?_eq_getElem hl];rfl
theorem VP {l:List aj} {i:Int} (h:0≤i∧i < l.length):uO l i∈l:=by
 unfold uO
 have hl:i.toNat < l.length:=by omega
 rw [List.getElem?_eq_getElem hl];exact List.getElem_mem hl
theorem Fit.at {bW:List aA} {l:List aj} (h:Fit bW l) {i:Int} (hi:0≤i∧i < bW.length):yP (wU bW i) (uO l i)=0:=by
 unfold wU uO
 have h1:i.toNat < bW.length:=by omega
 have h2:i.toNat < l.length:=by rw [h.len];exact h1
 rw [List.getElem?_eq_getElem h1,List.getElem?_eq_getElem h2]
 exact h.fit _ h1 h2
def rC (l:List aj) (ps:List aX):List aj:=ps.map fun p=>uO l p.Col
def wT (ps:List aX):List Bool:=ps.map (·.Down)
def Ao (l:List aj) (ps:List aX):Bool:=ps.any fun p=>(uO l p.Col).Kind==0
def JO (l:List aj) (ps:List aX):List UInt8:=yQ (rC l ps) (wT ps)
theorem Td {c:aA} {v:aj} (hc:rP c=0) (h:yP c v=0):((enc v).length:Int)≤uf c 2∧((ku v).length:Int)≤uf c 1:=by
 obtain ⟨h1,h2,h3⟩:=Qn h
 obtain ⟨_,k1,k2,km,_⟩:=WX hc
 have he:=CQ v.S
 have hk:=VO h1
 have hm0:=Tj hc
 rcases h2 with h0 | hkc
 ·have e1:enc v=[0]:=by unfold enc body;simp [h0]
  have e2:ku v=[1]:=by unfold ku;simp [h0]
  rw [e1,e2]
  unfold uf
  simp only [List.length_cons,List.length_nil]
  by_cases q:c.Kind=1∨c.Kind=2
  ·rw [if_pos q,if_pos q];omega
  rw [if_neg q,if_neg q]
  by_cases q3:c.Kind=3
  ·rw [if_pos q3,if_pos q3];omega
  ·rw [if_neg q3,if_neg q3];omega
 ·have wide:∀each,uf c each=if v.Kind=1∨v.Kind=2 then 9 else if v.Kind=3 then 2 else 3+each*c.Max:=by intro each;unfold uf;rw [hkc]
  rw [wide,wide]
  by_cases q1:v.Kind=1
  ·simp [enc,body,ku,q1,eU]
  by_cases q2:v.Kind=2
  ·simp [enc,body,ku,q2,eU]
  by_cases q3:v.Kind=3
  ·simp [enc,body,ku,q3,eU]
  have q4:v.Kind=4∨v.Kind=5:=by omega
  have hm:=h3 q4
  have e1:enc v=1::(esc v.S++[0,0]):=by unfold enc body;rcases q4 with k | k <;> simp [k]
  have e2:ku v=0::(eY (uP v.S.length) 2++v.S):=by unfold ku;rcases q4 with k | k <;> simp [k]
  rw [e1,e2,if_neg (show ¬(v.Kind=1∨v.Kind=2) by omega),if_neg q3,if_neg (show ¬(v.Kind=1∨v.Kind=2) by omega),if_neg q3]
  simp only [List.length_cons,List.length_append,eU,List.length_nil]
  omega
theorem Gf {bW:List aA} {l:List aj} (h:Fit bW l):∀{ps:List aX},(∀p∈ps,0≤p.Col∧p.Col < bW.length)→((JO l ps).length:Int)≤iO bW ps
 | [],_=>by simp [JO,rC,wT,yQ,iO]
 | p::ps,hp=>by
  have h1:=Gf h (ps:=ps) (fun q hq=>hp q (by simp [hq]))
  have hq:=hp p (by simp)
  have h2:=(Td (h.num.2.2 _ (yU hq)) (h.at hq)).1
  unfold JO rC wT iO at h1 ⊢
  simp only [List.map_cons,yQ,List.sum_cons,List.length_append,Fw]
  omega
theorem nobad {bW:List aA} {l:List aj} (h:Fit bW l) {ps:List aX} (hp:∀p∈ps,0≤p.Col∧p.Col < bW.length):(rC l ps).any bad=false:=by
 rw [List.any_eq_false]
 intro v hv
 obtain ⟨p,hm,rfl⟩:=List.mem_map.1 hv
 have:=h.val _ (VP (l:=l) (by have:=hp p hm;rw [h.len];exact this))
 simp [bad,this]
theorem Li (l:List aj) (ps:List aX) (i:Nat) (hi:i < ps.length):Ao l (ps.take (i+1))=(Ao l (ps.take i) || (uO l ps[i].Col).Kind==0):=by
 unfold Ao
 rw [List.take_succ_eq_append_getElem hi,List.any_append];simp
theorem Ju (t:aL) (ps:List aX) (l:List aj) (hc:GQ t.aV) (hv:Iz l) (hn:ps.length≤1048576) (hp:∀p∈ps,0≤p.Col∧p.Col < t.aV.length) (hk:iO t.aV ps≤256):
  lU t ps l=some (if rH t.aV l≠0 then ([],false,rH t.aV l) else (JO l ps,Ao l ps,0)):=by
 unfold lU
 rw [Rv _ _ hc hv,av]
 by_cases q:rH t.aV l=0
 rotate_left
 ·rw [show (rH t.aV l != 0)=true by simpa using q,cond_true,if_pos q]
 rw [show (rH t.aV l != 0)=false by simpa using q,cond_false,if_neg (by simpa using q)]
 have hf:=Fit.of q
 refine QS (w:=(rC l ps,wT ps,Ao l ps)) (J7 (fun i=>(rC l (ps.take i),wT (ps.take i),Ao l (ps.take i),(i:Int))) ps.length (fun i hi=>?_) ?_ rfl) ?_
 ·have hq:=hp _ (List.getElem_mem hi)
  have hq':0≤ps[i].Col∧ps[i].Col < l.length:=by rw [hf.len];exact hq
  show (bif _ then _ else _)=_
  rw [aD (by omega),cu hi,av,zi hq',av,aD (by rw [dL];simp [rC];omega),aD (by rw [dL];simp [wT];omega),bX (by omega),Li l ps i hi,
   show rC l (ps.take (i+1))=_ from zH _ ps hi,show wT (ps.take (i+1))=_ from zH _ ps hi]
  cases Ao l (ps.take i) <;> rfl
 ·show (bif _ then _ else _)=_
  rw [aP (by omega),List.take_length]
 ·have hb:=nobad hf hp
  have hl:=Gf hf hp
  have sm:Sm (rC l ps):=⟨by simp [rC];omega,fun v hv=>by
   obtain ⟨p,hm,rfl⟩:=List.mem_map.1 hv
   have:=hf.short _ (VP (l:=l) (by have:=hp p hm;rw [hf.len];exact this))
   omega⟩
  show Option.bind (nY (rC l ps) (wT ps)) _=_
  rw [NA _ _ sm]
  unfold encS
  rw [if_pos (by simp [rC,wT]),hb,if_neg (by simp),if_neg (by unfold JO at hl;omega)]
  rfl
theorem FK (t:aL) (l:List aj) (hc:GQ t.aV) (hv:Iz l) (r:Right t):iF t l=some (if rH t.aV l≠0 then ([],rH t.aV l) else (JO l (J3 t.aR),0)):=by
 unfold iF
 rw [Pg _ (by have:=r.pri;omega),av,Ju t _ l hc hv (by have:=r.pri;simp [J3];omega) (VX r.pla) (by have:=r.key;omega),av]
 by_cases q:rH t.aV l=0
 ·rw [if_neg (by simpa using q),if_neg (by simpa using q)]
 ·rw [if_pos q,if_pos q]
def Qo (l:List aj) (cs:List Int):List aj:=cs.map (uO l)
def extC (bW:List aA) (cs:List Int):List aA:=cs.map (wU bW)
theorem aer {bW:List aA} {l:List aj} (h:Fit bW l) {cs:List Int} (hp:∀c∈cs,0≤c∧c < bW.length) (h1:1≤cs.length) (h24:cs.length≤24):Fit (extC bW cs) (Qo l cs):=by
 refine ⟨?_,by simp [Qo,extC],fun i k1 k2=>?_⟩
 ·unfold rO
  rw [decide_eq_true (by simp [extC];omega),Bool.true_and,List.all_eq_true]
  intro c hc
  obtain ⟨j,hj,rfl⟩:=List.mem_map.1 hc
  simpa using h.num.2.2 _ (yU (hp j hj))
 ·simp only [extC,Qo,List.getElem_map]
  exact h.at (hp _ (List.getElem_mem _))
theorem aat {bW:List aA} {l:List aj} (h:Fit bW l):((iZ l).length:Int)≤kP bW:=by
 have key:∀(cs:List aA) (vs:List aj),cs.length=vs.length→(∀i (h1:i < cs.length) (h2:i < vs.length),rP cs[i]=0∧yP cs[i] vs[i]=0)→(((vs.map ku).flatten.length:Nat):Int)≤(cs.map fun c=>uf c 1).sum:=by
  intro cs
  induction cs with
  | nil=>intro vs hl _;cases vs <;> simp at hl ⊢
  | cons c cs ih=>
   intro vs hl hh
   cases vs with
   | nil=>simp at hl
   | cons v vs=>
    have h0:=hh 0 (by simp) (by simp)
    have h1:=ih vs (by simpa using hl) (fun i k1 k2=>by have:=hh (i+1) (by simpa using k1) (by simpa using k2);simpa using this)
    have h2:=(Td h0.1 h0.2).2
    simp only [List.getElem_cons_zero] at h2
    simp only [List.map_cons,List.flatten_cons,List.sum_cons,List.length_append]
    omega
 have:=key bW l h.len.symm (fun i k1 k2=>⟨h.num.2.2 _ (List.getElem_mem _),h.fit i k1 k2⟩)
 unfold iZ kP
 rw [List.length_append,eU]
 omega
def NC (t:aL) (x:bT) (l:List aj):dh:=⟨JO l x.Parts++JO l (J3 t.aR),if x.Extra=[] then [] else iZ (Qo l x.Extra)⟩
theorem Bt (bW:List aA) (ps:List aX) (l:List aj) (hf:Fit bW l) (hn:ps.length≤1048576) (hp:∀p∈ps,0≤p.Col∧p.Col < bW.length):qx ps l=some (JO l ps,Ao l ps):=by
 unfold qx
 refine QS (w:=(rC l ps,wT ps,Ao l ps)) (J7 (fun i=>(rC l (ps.take i),wT (ps.take i),Ao l (ps.take i),(i:Int))) ps.length (fun i hi=>?_) ?_ rfl) ?_
 ·have hq:=hp _ (List.getElem_mem hi)
  have hq':0≤ps[i].Col∧ps[i].Col < l.length:=by rw [hf.len];exact hq
  show (bif _ then _ else _)=_
  rw [aD (by omega),cu hi,av,zi hq',av,aD (by rw [dL];simp [rC];omega),av,aD (by rw [dL];simp [wT];omega),bX (by omega),Li l ps i hi,
   show rC l (ps.take (i+1))=_ from zH _ ps hi,show wT (ps.take (i+1))=_ from zH _ ps hi]
  cases Ao l (ps.take i) <;> rfl
 ·show (bif _ then _ else _)=_
  rw [aP (by omega),List.take_length]
 ·have hb:=nobad hf hp
  show Option.bind (qz (rC l ps) (wT ps)) _=_
  rw [Nf _ _ (by simp [rC,wT]) (by simp [rC];omega) hb]
  rfl
theorem ow (t:aL) (l:List aj) (hf:Fit t.aV l) (r:Right t):fu t l=some (JO l (J3 t.aR)):=by
 unfold fu
 rw [IW _ (by have:=r.pri;omega),av,Bt t.aV _ l hf (by have:=r.pri;simp [J3];omega) (VX r.pla),av]
theorem KT (t:aL) (x:bT) (l:List aj) (hf:Fit t.aV l) (rx:yw t x):uw x l=some (JO l x.Parts,Ao l x.Parts):=by
 unfold uw
 rw [Bt t.aV _ l hf (by have:=rx.par;omega) (La rx.pla),av]
theorem KV (t:aL) (x:bT) (l:List aj) (hf:Fit t.aV l) (r:Right t) (rx:yw t x):uy t x l=some (NC t x l):=by
 unfold uy
 rw [KT t x l hf rx,av]
 show Option.bind (fu t l) _=_
 rw [ow t l hf r,av]
 have l1:=Gf hf (La rx.pla)
 have l2:=Gf hf (VX r.pla)
 have k1:=rx.key
 have k2:=r.key
 rw [aD (by omega)]
 have e24:=Oe rx.ext
 have hlen:=r.len
 have hin:=wM rx.ext
 have hin':∀c∈x.Extra,0≤c∧c < l.length:=fun c h=>by rw [hf.len];exact hin c h
 refine bo (a:=NC t x l) ?_ rfl
 by_cases he:x.Extra=[]
 ·rw [aP (by rw [he];simp)]
  unfold NC
  rw [if_pos he]
 have hpos:1≤x.Extra.length:=by
  cases hx:x.Extra with
  | nil=>exact absurd hx he
  | cons a b=>simp
 rw [aD (by omega)]
 refine QS (w:=Qo l x.Extra) (J7 (fun i=>(Qo l (x.Extra.take i),(i:Int))) x.Extra.length (fun i hi=>?_) ?_ rfl) ?_
 ·show (bif _ then _ else _)=_
  rw [aD (by omega),cu hi,av,zi (hin' _ (List.getElem_mem hi)),av,aD (by rw [dL];simp [Qo];omega),bX (by omega),show Qo l (x.Extra.take (i+1))=_ from zH _ _ hi]
  rfl
 ·show (bif _ then _ else _)=_
  rw [aP (by omega),List.take_length]
 ·have ef:=aer hf hin hpos (by omega)
  rw [Bw _ ef.short (by simp [Qo];omega),av]
  unfold NC
  rw [if_neg he]
end Lv
namespace Lv
open Go Go.Proofs
variable [bJ]
end Lv
namespace Lv
open Go Go.Proofs
variable [bJ]
def jc (t:aL) (l:List aj):List UInt8:=JO l (J3 t.aR)
end Lv
namespace Lv
open Go Go.Proofs
variable [bJ]
variable [bJ]
end Lv
namespace Lv
open Go Go.Proofs
variable [bJ]
theorem agC {α:Type} {p:List α} {off:Nat} {x:α} {r:List α} (h:p.drop off=x::r):off < p.length:=by
 have:=congrArg List.length h
 simp at this
 omega
theorem anA {α:Type} {p:List α} {off:Nat} {x:α} {r:List α} (h:p.drop off=x::r):p[off]?=some x:=by
 have:=congrArg (fun l=>l[0]?) h
 simpa using this
theorem Kg {α:Type} {p:List α} {off:Nat} {x:α} {r:List α} (h:p.drop off=x::r):p.drop (off+1)=r:=by
 have:=congrArg List.tail h
 simpa [List.tail_drop] using this
theorem ab5 {α:Type} {p:List α} {off:Nat} {a r:List α} (h:p.drop off=a++r) (ha:off≤p.length):off+a.length+r.length=p.length:=by
 have:=congrArg List.length h
 simp at this
 omega
theorem Qr {α:Type} {p:List α} {off len:Nat} {x:α} {r:List α} (i:Nat) (h:p.drop (off+i)=x::r) (hl:i < len):mP p off len (i:Int)=some x:=by
 unfold mP
 rw [if_pos (by omega),Int.toNat_natCast,anA h]
theorem aao (k off len:Nat) (p:List UInt8) (hk:k≤len):gG (k:Int) p off len false=some (off,k,off+k,len - k,false):=by
 unfold gG
 rw [cond_false,av,aP (show ¬((len:Int) < (k:Int)) by omega),aD (by omega),aD (by omega),Int.toNat_natCast]
theorem Eo (p:List UInt8) (k off len:Nat) (b r:List UInt8) (hp:p.length < 1073741824) (h:p.drop off=b++r) (ho:off≤p.length) (hl:len=p.length - off) (hk:b.length=k) (hk2:k < 100):
  eF (k:Int) p off len false=some (num b,off+k,len - k,false):=by
 have e:=ab5 h ho
 rw [R4 p k off len false (by omega) (by omega) hk2,if_neg (by simp;omega),h,← hk,List.take_left]
theorem TM (p:List UInt8) (off len:Nat) (f:UInt8) (r:List UInt8) (hp:p.length < 1073741824) (h:p.drop off=f::r) (hl:len=p.length - off) (hf:f=0∨f=1):
  jS p off len false=some (f==1,off+1,len - 1,false):=by
 have lt:=agC h
 unfold jS
 refine bo (a:=false) ?_ ?_
 ·rw [aD (by omega),show mP p off len (0:Int)=some f from Qr 0 h (by omega),av]
  rcases hf with rfl | rfl <;> rfl
 ·rw [cond_false,show eF (1:Int) p off len false=_ from Eo p 1 off len [f] r hp h (by omega) hl rfl (by omega),av,PS]
  rcases hf with rfl | rfl <;> rfl
theorem akd {n:Nat} (h:n≤64):(uP (n:Int)).toNat=n:=by
 unfold uP
 rw [UInt64.toNat_ofNat']
 omega
theorem asa {n:Nat} (h:n≤64):eY (uP (n:Int)) 2=[0,UInt8.ofNat n]:=by
 show [UInt8.ofNat ((uP (n:Int)).toNat / 2 ^ (8*1)),UInt8.ofNat ((uP (n:Int)).toNat / 2 ^ (8*0))]=_
 rw [akd h,show n / 2 ^ (8*1)=0 by omega,show n / 2 ^ (8*0)=n by simp]
 rfl
theorem asH:∀n:_root_.Fin 65,orI (bL (((0:UInt8).toNat:Int)*2 ^ min ((8:UInt64).toNat:Int).toNat 64)) ((UInt8.ofNat n.val).toNat:Int)=(n.val:Int):=by decide +kernel
theorem aej (p:List UInt8) (off len n:Nat) (r:List UInt8) (h:p.drop off=0::UInt8.ofNat n::r) (hl:2≤len) (hn:n≤64):oJ p off len false=some (n:Int):=by
 unfold oJ
 rw [show mP p off len (0:Int)=some 0 from Qr 0 h (by omega),av,show mP p off len (1:Int)=some (UInt8.ofNat n) from Qr 1 (Kg h) (by omega),av,asH ⟨n,by omega⟩]
theorem aeG (p:List UInt8) (off len:Nat) (s r:List UInt8) (hp:p.length < 1073741824) (h:p.drop off=(eY (uP s.length) 2++s)++r) (ho:off≤p.length) (hl:len=p.length - off) (hs:s.length≤64):
  oK p off len false=some (s,off+(2+s.length),len - (2+s.length),false):=by
 have e:=ab5 h ho
 rw [List.length_append,eU] at e
 rw [asa hs] at h
 have h0:p.drop off=0::UInt8.ofNat s.length::(s++r):=h
 have h2:p.drop (off+2)=s++r:=Kg (Kg h0)
 unfold oK
 have lg:=aej p off len s.length (s++r) h0 (by omega) hs
 refine bo (a:=false) ?_ ?_
 ·rw [cond_false,aP (by omega),lg,av,gL (n:=(2:Int)+s.length) (by omega) (by omega)]
  simp
  omega
 ·rw [cond_false,lg,av,gL (n:=(2:Int)+s.length) (by omega) (by omega),show (2:Int)+(s.length:Int)=((2+s.length:Nat):Int) by omega,aao _ _ _ _ (by omega),av]
  show (bif _ then _ else _)=_
  rw [aD (by omega),aD (by simp;omega)]
  have e2:(2:Int).toNat=2:=rfl
  rw [e2,h2,show 2+s.length - 2=s.length by omega,List.take_left]
theorem akb {n:UInt64} (h:n.toNat < 2):n.toUInt8.toUInt64.toUInt8.toUInt64=n:=by
 rw [← UInt64.toNat_inj]
 simp
 omega
theorem Rp (k:Int) (p:List UInt8) (off len:Nat) (v:aj) (r:List UInt8) (hp:p.length < 1073741824) (h:p.drop off=ku v++r) (ho:off≤p.length) (hl:len=p.length - off) (hv:val v=true) (hk:v.Kind=0∨v.Kind=k) (hs:v.S.length≤64):
  wu k p off len false=some (off+(ku v).length,len - (ku v).length,false,v):=by
 unfold wu
 by_cases k0:v.Kind=0
 ·have e:ku v=[1]:=by unfold ku;rw [if_pos k0]
  rw [e] at h ⊢
  rw [TM p off len 1 r hp h hl (.inr rfl),av,ZP hv k0]
  rfl
 obtain rfl:k=v.Kind:=(hk.resolve_left k0).symm
 have kk:=VO hv
 have e:ku v=0::(if v.Kind=1∨v.Kind=2 then eY v.N 8 else if v.Kind=3 then eY v.N 1 else if v.Kind=4∨v.Kind=5 then eY (uP v.S.length) 2++v.S else []):=by unfold ku;rw [if_neg k0]
 have el:(ku v).length=1+(if v.Kind=1∨v.Kind=2 then eY v.N 8 else if v.Kind=3 then eY v.N 1 else if v.Kind=4∨v.Kind=5 then eY (uP v.S.length) 2++v.S else []).length:=by rw [e,List.length_cons];omega
 rw [el]
 rw [e,List.cons_append] at h
 have h2:=Kg h
 have lt:=agC h
 rw [TM p off len 0 _ hp h hl (.inl rfl),av]
 show Option.bind _ _=_
 by_cases c12:v.Kind=1∨v.Kind=2
 ·rw [if_pos c12] at h2 ⊢
  rw [eU]
  refine bo (a:=(off+(1+8),len - (1+8),false,v)) ?_ rfl
  refine bo (k12 v) ?_
  rw [decide_eq_true c12,cond_true]
  unfold qE
  rw [show eF (8:Int) p (off+1) (len - 1) false=_ from Eo p 8 (off+1) (len - 1) _ r hp h2 (by omega) (by omega) (eU _ _) (by omega),av,av,UD]
  have n:=(VN hv (by omega)).1
  obtain ⟨K,N,S⟩:=v
  simp only at n
  subst n
  show some _=some _
  rw [Nat.add_assoc,Nat.sub_sub]
 rw [if_neg c12] at h2 ⊢
 by_cases c3:v.Kind=3
 ·rw [if_pos c3] at h2 ⊢
  rw [eU]
  refine bo (a:=(off+(1+1),len - (1+1),false,v)) ?_ rfl
  refine bo (k12 v) ?_
  rw [decide_eq_false c12,cond_false,show (v.Kind==3)=true by simpa using c3,cond_true]
  unfold sN
  rw [show eF (1:Int) p (off+1) (len - 1) false=_ from Eo p 1 (off+1) (len - 1) _ r hp h2 (by omega) (by omega) (eU _ _) (by omega),av,av,ak0,PS]
  have n:=VN hv (by omega)
  obtain ⟨K,N,S⟩:=v
  obtain ⟨n1,n2⟩:=n
  simp only at n1 n2 c3
  subst n1
  show some (off+1+1,len - 1 - 1,false,(⟨K,N.toUInt8.toUInt64.toUInt8.toUInt64,[]⟩:aj))=some _
  rw [akb (n2 c3),Nat.add_assoc,Nat.sub_sub]
 rw [if_neg c3] at h2 ⊢
 have c45:v.Kind=4∨v.Kind=5:=by omega
 rw [if_pos c45] at h2 ⊢
 rw [List.length_append,eU]
 refine bo (a:=(off+(1+(2+v.S.length)),len - (1+(2+v.S.length)),false,v)) ?_ rfl
 refine bo (k12 v) ?_
 rw [decide_eq_false c12,cond_false,show (v.Kind==3)=false by simpa using c3,cond_false,aeG p (off+1) (len - 1) v.S r hp h2 (by omega) (by omega) hs,av]
 have n:=adA hv c45
 obtain ⟨K,N,S⟩:=v
 simp only at n
 subst n
 show some _=some _
 rw [Nat.add_assoc,Nat.sub_sub]
def Em (l:List aj) (i:Nat):Nat:=1+(((l.take i).map ku).flatten).length
theorem Yn (l:List aj):Em l 0=1:=by simp [Em]
theorem Yo (l:List aj) (i:Nat) (hi:i < l.length):Em l (i+1)=Em l i+(ku l[i]).length:=by
 unfold Em
 rw [zH _ _ hi,List.flatten_append,List.length_append]
 simp
 omega
theorem Rw (l:List aj) (i:Nat) (hi:i < l.length):iZ l=(eY (uP l.length) 1++((l.take i).map ku).flatten)++(ku l[i]++((l.drop (i+1)).map ku).flatten):=by
 unfold iZ
 rw [List.append_assoc]
 congr 1
 have e:l.map ku=(l.take i).map ku++(ku l[i]::(l.drop (i+1)).map ku):=by
  rw [← List.map_cons,← List.drop_eq_getElem_cons hi,← List.map_append,List.take_append_drop]
 rw [e,List.flatten_append,List.flatten_cons]
theorem Lg (l:List aj) (i:Nat):Em l i=(eY (uP l.length) 1++((l.take i).map ku).flatten).length:=by
 rw [List.length_append,eU,Em]
theorem XV (l:List aj) (i:Nat) (hi:i < l.length):(iZ l).drop (Em l i)=ku l[i]++((l.drop (i+1)).map ku).flatten:=by
 rw [Lg,Rw l i hi,List.drop_left]
theorem RY (l:List aj):Em l l.length=(iZ l).length:=by
 rw [Lg,List.take_length];rfl
theorem aed (l:List aj) (i:Nat) (hi:i≤l.length):Em l i≤(iZ l).length:=by
 by_cases h:i < l.length
 ·rw [Rw l i h,Lg,List.length_append (bs:=ku l[i]++_)];omega
 ·obtain rfl:i=l.length:=by omega
  rw [RY];omega
theorem XU {l:List aj} (h:l.length≤64):iZ l=UInt8.ofNat l.length::(l.map ku).flatten:=by
 unfold iZ
 rw [ak0]
 show (uP (l.length:Int)).toUInt8::_=_
 congr 1
 rw [← UInt8.toNat_inj]
 have:=akd h
 simp
 omega
theorem KM {bW:List aA} {l:List aj} (hf:Fit bW l):(iZ l).length≤2000:=by
 have f:=LY hf.short
 have n:=hf.num
 have e:=hf.len
 unfold iZ
 rw [List.length_append,eU]
 omega
theorem u8n {n:Nat} (h:n≤64):((UInt8.ofNat n).toNat:Int)=n:=by
 simp
 omega
theorem aoS {p:List UInt8} (h:p.length≤2000):Cy p=some ():=by
 unfold Cy
 rw [aD (by rw [dL];omega)]
theorem ajh {bW:List aA} {l:List aj} (hf:Fit bW l):lW (iZ l) false=some (UInt8.ofNat l.length,1,(iZ l).length - 1,false):=by
 have b:=KM hf
 have n:=hf.num
 have e:=hf.len
 have h:=XU (l:=l) (by omega)
 have hl:¬(iZ l).length < 1:=by rw [h];simp
 unfold lW
 rw [number_eq _ (by omega),if_neg hl,av]
 have t:(iZ l).take 1=[UInt8.ofNat l.length]:=by rw [h];rfl
 rw [t,PS]
 show some ((UInt8.ofNat l.length).toUInt64.toUInt8,_,_,_)=_
 rw [show (UInt8.ofNat l.length).toUInt64.toUInt8=UInt8.ofNat l.length from UInt8.toNat_inj.1 (by simp)]
theorem Rs {bW:List aA} {l:List aj} (hf:Fit bW l):wz bW (iZ l)=some (true,l):=by
 have b:=KM hf
 have n:=hf.num
 have e:=hf.len
 unfold wz
 rw [aoS b,av,ajh hf,av]
 show Option.bind _ _=_
 rw [u8n (by omega)]
 have tk:List.take ((l.length:Int)).toNat bW=bW:=by rw [Int.toNat_natCast,e,List.take_length]
 rw [tk]
 refine bo (a:=false) ?_ ?_
 ·rw [aP (by omega)]
  congr 1
  simp
  omega
 rw [cond_false]
 refine beY (y:=(l,(iZ l).length,0,false)) ?_ ?_
 ·rw [aD (by omega)]
  refine asK (w:=.inl (l,(iZ l).length,0,false)) (J7 (fun i=>((i:Int),l.take i,Em l i,(iZ l).length - Em l i,false)) l.length (fun i hi=>?_) ?_ (by rw [Yn];rfl)) rfl
  ·have hi2:i < bW.length:=by omega
   have fi:=hf.fit i hi2 hi
   have ok:=Qn fi
   have le:=aed l i (by omega)
   show (bif _ then _ else _)=_
   rw [aD (by omega),cu hi2,av,show oL (iZ l) (Em l i) ((iZ l).length - Em l i) false=some () from rfl,av,
    Rp bW[i].Kind (iZ l) (Em l i) _ l[i] _ (by omega) (XV l i hi) le rfl ok.1 ok.2.1 (hf.short _ (List.getElem_mem hi)),av]
   refine bo (a:=false) ?_ ?_
   ·refine bo (a:=()) rfl ?_
    rw [cond_false,xQ _ _ (by have:=hf.short _ (List.getElem_mem hi);omega),av,fi]
    rfl
   ·rw [cond_false]
    have dl:(l.take i).length≤24:=by simp;omega
    refine bo (a:=()) ?_ ?_
    ·unfold nP
     rw [aD (by rw [dL];simp only [List.length_cons,List.length_nil];omega)]
    ·rw [bX (by omega),Yo l i hi,List.take_succ_eq_append_getElem hi,Nat.sub_sub]
  ·show (bif _ then _ else _)=_
   rw [aP (by omega),List.take_length,RY,Nat.sub_self]
 ·show Option.bind (rD (iZ l) (iZ l).length 0 false) _=_
  rfl
theorem M8 {bW:List aA} {l:List aj} (hc:GQ bW) (hf:Fit bW l) (h5:(iZ l).length≤512):pX bW (iZ l)=some (l,0):=by
 have e:=hf.len
 have n:=hf.num
 unfold pX
 rw [Bo bW hc,av,hf.rc,Bool.not_true,cond_false]
 refine bo (a:=(false,l)) ?_ ?_
 ·rw [aP (by omega),Rs hf,av];rfl
 ·show (bif false then _ else _)=_
  rw [cond_false]
  refine bo (a:=l) ?_ rfl
  rw [aD (by omega)]
  have dk:List.drop ((l.length:Int)).toNat bW=[]:=by rw [Int.toNat_natCast,e,List.drop_length]
  rw [dk]
  show Option.bind (loop _ _) _=_
  refine bo (a:=l) (J7 (fun i=>((i:Int),l)) 0 (fun i hi=>absurd hi (by omega)) ?_ rfl) rfl
  show (bif _ then _ else _)=_
  rw [aP (by simp)]
end Lv
namespace Lv
open Go Go.Proofs
variable [bJ]
variable [bJ]
variable [bJ]
end Lv
namespace Lv
open Go Go.Proofs
variable [bJ]
theorem aeO (t:aL) (r:Right t):wC t=some t.bn:=by
 unfold wC
 have h1:=r.len
 have h2:=r.pri
 have h3:=r.ixs
 rw [aD (by rw [dL];simp;omega),aD (by rw [dL];simp;omega)]
 refine QS (w:=t.bn) (J7 (fun i=>(t.bn.take i,(i:Int))) t.bn.length (fun i hi=>?_) ?_ rfl) rfl
 ·have rx:=yw.of (r.idx _ (List.getElem_mem hi))
  have k1:=rx.par
  have k2:=Oe rx.ext
  show (bif _ then _ else _)=_
  rw [aD (by omega),cu hi,av,aD (by rw [dL];simp;omega),aD (by rw [dL];simp;omega),aD (by rw [dL];simp;omega),bX (by omega),List.take_succ_eq_append_getElem hi]
  rfl
 ·show (bif _ then _ else _)=_
  rw [aP (by omega),List.take_length]
def CY (a b:Int):Int:=if a < b then -1 else if b < a then 1 else 0
theorem MI (a b:Int):cmp_Compare_int a b=some (CY a b):=by
 unfold cmp_Compare_int CY
 rw [show cmp_isNaN_int a=some () from rfl,av,show cmp_isNaN_int b=some () from rfl,av,show (a != a)=false by simp,cond_false,show (b != b)=false by simp,cond_false]
 by_cases h:a < b
 ·rw [aD h,if_pos h]
 ·rw [aP h,if_neg h]
  by_cases k:b < a
  ·rw [aD k,if_pos k]
  ·rw [aP k,if_neg k]
theorem IC (a b:Int):jk a b=some (CY a b):=by
 unfold jk CY
 rw [show j6 a=some () from rfl,av,show j6 b=some () from rfl,av,show (a != a)=false by simp,cond_false,show (b != b)=false by simp,cond_false]
 by_cases h:a < b
 ·rw [aD h,if_pos h]
 ·rw [aP h,if_neg h]
  by_cases k:b < a
  ·rw [aD k,if_pos k]
  ·rw [aP k,if_neg k]
theorem MH (a b:UInt64):iU a b=some (CY a.toNat b.toNat):=by
 unfold iU CY
 rw [show jL a=some () from rfl,av,show jL b=some () from rfl,av,show (a != a)=false by simp,cond_false,show (b != b)=false by simp,cond_false]
 by_cases h:a < b
 ·rw [aD h,if_pos (by have:=UInt64.lt_iff_toNat_lt.1 h;omega)]
 ·rw [aP h,if_neg (by have:¬a.toNat < b.toNat:=fun q=>h (UInt64.lt_iff_toNat_lt.2 q);omega)]
  by_cases k:b < a
  ·rw [aD k,if_pos (by have:=UInt64.lt_iff_toNat_lt.1 k;omega)]
  ·rw [aP k,if_neg (by have:¬b.toNat < a.toNat:=fun q=>k (UInt64.lt_iff_toNat_lt.2 q);omega)]
theorem ajj (a b c:Int):ql [a,b,c]=some (if a≠0 then a else if b≠0 then b else c):=by
 unfold ql
 refine TS (lq2 [a,b,c] (fun v=>if v≠0 then some (.inr v:Unit⊕Int) else none) (.inl ()) (fun i=>(i:Int)) (fun i hi=>?_) ?_ rfl) ?_
 ·show (bif _ then _ else _)=_
  rw [aD (by omega),cu hi,av,bX (by simp at hi;omega)]
  by_cases q:[a,b,c][i]=0
  ·rw [show ([a,b,c][i] != 0)=false by simpa using q,cond_false,if_neg (by simpa using q)]
  ·rw [show ([a,b,c][i] != 0)=true by simpa using q,cond_true,if_pos q]
 ·show (bif _ then _ else _)=_
  rw [aP (by omega)]
 ·simp only [List.findSome?]
  by_cases ha:a=0
  ·by_cases hb:b=0
   ·by_cases hc:c=0
    ·simp [ha,hb,hc]
    ·simp [ha,hb,hc]
   ·simp [ha,hb]
  ·simp [ha]
def NG (a b:aj):Int:=if CY a.Kind b.Kind=0∧a.Kind=1 then CY (Gh a.N) (Gh b.N) else CY a.Kind b.Kind
def jg (a b:aj):Int:=if NG a b≠0 then NG a b else if CY a.N.toNat b.N.toNat≠0 then CY a.N.toNat b.N.toNat else Go.Lib.compareBytes a.S b.S
theorem zf (a b:aj):iY a b=some (jg a b):=by
 unfold iY jg
 rw [MI,av]
 refine bo (a:=NG a b) ?_ ?_
 ·unfold NG
  refine bo (a:=decide (CY a.Kind b.Kind=0∧a.Kind=1)) ?_ ?_
  ·by_cases q:CY a.Kind b.Kind=0
   ·rw [show (CY a.Kind b.Kind==0)=true by simpa using q,cond_true];simp [q,Bool.beq_eq_decide_eq]
   ·rw [show (CY a.Kind b.Kind==0)=false by simpa using q,cond_false];simp [q]
  ·by_cases q:CY a.Kind b.Kind=0∧a.Kind=1
   ·rw [decide_eq_true q,cond_true,if_pos q,IC,av]
   ·rw [decide_eq_false q,cond_false,if_neg q]
 ·rw [MH,av,show aex a.S b.S=some (Go.Lib.compareBytes a.S b.S) from rfl,av,ajj,av]
theorem WK (n:UInt64):Gh n=if n.toNat < 9223372036854775808 then (n.toNat:Int) else (n.toNat:Int) - 18446744073709551616:=by
 unfold Gh
 rw [IntKind.wrap_i64]
 have:=n.toNat_lt
 split <;> omega
def nk (a:aj):Int:=if a.Kind=1 then Gh a.N else a.N.toNat
theorem aaT {a b:aj} (h:a.Kind=b.Kind) (k:nk a=nk b):a.N=b.N:=by
 unfold nk at k
 rw [← h] at k
 have h1:=a.N.toNat_lt
 have h2:=b.N.toNat_lt
 rw [← UInt64.toNat_inj]
 by_cases q:a.Kind=1
 ·rw [if_pos q,if_pos q,WK,WK] at k
  split at k <;> split at k <;> omega
 ·rw [if_neg q,if_neg q] at k
  omega
theorem Gz (a b:aj):jg a b=if a.Kind≠b.Kind then CY a.Kind b.Kind else if nk a≠nk b then CY (nk a) (nk b) else Go.Lib.compareBytes a.S b.S:=by
 have z:∀{x y:Int},CY x y=0↔x=y:=by intro x y;unfold CY;split <;> (try split) <;> omega
 unfold jg
 by_cases h:a.Kind=b.Kind
 ·rw [if_neg (show ¬a.Kind≠b.Kind by simpa using h)]
  have e0:CY a.Kind b.Kind=0:=z.2 h
  by_cases q:a.Kind=1
  ·have n1:nk a=Gh a.N:=by unfold nk;rw [if_pos q]
   have n2:nk b=Gh b.N:=by unfold nk;rw [if_pos (h▸q)]
   have e:NG a b=CY (nk a) (nk b):=by unfold NG;rw [if_pos ⟨e0,q⟩,n1,n2]
   rw [e]
   by_cases w:nk a=nk b
   ·have eN:=aaT h w
    rw [if_neg (show ¬CY (nk a) (nk b)≠0 by simpa using z.2 w),if_neg (show ¬CY a.N.toNat b.N.toNat≠0 by rw [eN];simpa using z.2 rfl),if_neg (show ¬nk a≠nk b by simpa using w)]
   ·rw [if_pos (show CY (nk a) (nk b)≠0 from fun k=>w (z.1 k)),if_pos w]
  ·have n1:nk a=a.N.toNat:=by unfold nk;rw [if_neg q]
   have n2:nk b=b.N.toNat:=by unfold nk;rw [if_neg (h▸q)]
   have e:NG a b=0:=by unfold NG;rw [if_neg (by simp [q]),e0]
   rw [e,if_neg (show ¬(0:Int)≠0 by simp),← n1,← n2]
   by_cases w:nk a=nk b
   ·rw [if_neg (show ¬CY (nk a) (nk b)≠0 by simpa using z.2 w),if_neg (show ¬nk a≠nk b by simpa using w)]
   ·rw [if_pos (show CY (nk a) (nk b)≠0 from fun k=>w (z.1 k)),if_pos w]
 ·rw [if_pos (show a.Kind≠b.Kind from h)]
  have e0:CY a.Kind b.Kind≠0:=fun k=>h (z.1 k)
  have e:NG a b=CY a.Kind b.Kind:=by unfold NG;rw [if_neg (by simp [e0])]
  rw [e,if_pos e0]
theorem WZ:∀a b:List UInt8,Go.Lib.compareBytes b a = - Go.Lib.compareBytes a b
 | [],[]=>rfl
 | [],_::_=>rfl
 | _::_,[]=>rfl
 | x::a,y::b=>by
  have ih:=WZ a b
  unfold Go.Lib.compareBytes
  simp only [UInt8.lt_iff_toNat_lt]
  rw [ih]
  repeat' split
  all_goals omega
theorem ab9:∀a b:List UInt8,-1≤Go.Lib.compareBytes a b∧Go.Lib.compareBytes a b≤1
 | [],[]=>by decide
 | [],_::_=>by unfold Go.Lib.compareBytes;omega
 | _::_,[]=>by unfold Go.Lib.compareBytes;omega
 | x::a,y::b=>by
  have ih:=ab9 a b
  unfold Go.Lib.compareBytes
  split
  ·omega
  ·split <;> omega
theorem akc {x y:UInt8} (h:¬x < y) (k:¬y < x):x=y:=by
 rw [← UInt8.toNat_inj]
 have h1:¬x.toNat < y.toNat:=fun q=>h (UInt8.lt_iff_toNat_lt.2 q)
 have h2:¬y.toNat < x.toNat:=fun q=>k (UInt8.lt_iff_toNat_lt.2 q)
 omega
theorem WY:∀a b:List UInt8,Go.Lib.compareBytes a b=0↔a=b
 | [],[]=>by simp [Go.Lib.compareBytes]
 | [],_::_=>by simp [Go.Lib.compareBytes]
 | _::_,[]=>by simp [Go.Lib.compareBytes]
 | x::a,y::b=>by
  have ih:=WY a b
  unfold Go.Lib.compareBytes
  by_cases h:x < y
  ·rw [if_pos h]
   have:x≠y:=fun e=>by subst e;exact absurd (UInt8.lt_iff_toNat_lt.1 h) (by omega)
   simp [this]
  ·by_cases k:y < x
   ·rw [if_neg h,if_pos k]
    have:x≠y:=fun e=>by subst e;exact absurd (UInt8.lt_iff_toNat_lt.1 k) (by omega)
    simp [this]
   ·rw [if_neg h,if_neg k,ih,akc h k]
    simp
theorem Tn:∀a b c:List UInt8,Go.Lib.compareBytes a b≤0→Go.Lib.compareBytes b c≤0→Go.Lib.compareBytes a c≤0
 | [],_,[],_,_=>by decide
 | [],_,_::_,_,_=>by unfold Go.Lib.compareBytes;omega
 | _::_,[],_,h,_=>by unfold Go.Lib.compareBytes at h;omega
 | _::_,_::_,[],_,k=>by unfold Go.Lib.compareBytes at k;omega
 | x ::a,y::b,z::c,h,k=>by
  have ih:=Tn a b c
  unfold Go.Lib.compareBytes at h k ⊢
  simp only [UInt8.lt_iff_toNat_lt] at h k ⊢
  by_cases h1:x.toNat < y.toNat
  ·by_cases k1:y.toNat < z.toNat
   ·rw [if_pos (by omega)];omega
   ·rw [if_neg k1] at k
    by_cases k2:z.toNat < y.toNat
    ·rw [if_pos k2] at k;omega
    ·rw [if_pos (by omega)];omega
  ·rw [if_neg h1] at h
   by_cases h2:y.toNat < x.toNat
   ·rw [if_pos h2] at h;omega
   ·rw [if_neg h2] at h
    by_cases k1:y.toNat < z.toNat
    ·rw [if_pos (by omega)];omega
    ·rw [if_neg k1] at k
     by_cases k2:z.toNat < y.toNat
     ·rw [if_pos k2] at k;omega
     ·rw [if_neg k2] at k
      rw [if_neg (by omega),if_neg (by omega)]
      exact ih h k
theorem aev (a b:aj):jg a b≤0↔a.Kind < b.Kind∨(a.Kind=b.Kind∧(nk a < nk b∨(nk a=nk b∧Go.Lib.compareBytes a.S b.S≤0))):=by
 rw [Gz]
 have r:=ab9 a.S b.S
 unfold CY
 split
 ·split
  ·omega
  ·split <;> omega
 ·split
  ·split
   ·omega
   ·split <;> omega
  ·omega
theorem Io (a b:aj):jg b a = - jg a b:=by
 rw [Gz,Gz,WZ a.S b.S]
 unfold CY
 repeat' split
 all_goals omega
theorem Im (a b:aj):jg a b=0↔a=b:=by
 have z:∀{x y:Int},CY x y=0↔x=y:=by intro x y;unfold CY;split <;> (try split) <;> omega
 rw [Gz]
 by_cases h:a.Kind=b.Kind
 ·rw [if_neg (by simp [h])]
  by_cases k:nk a=nk b
  ·rw [if_neg (by simp [k]),WY]
   have e:=aaT h k
   obtain ⟨K,N,S⟩:=a
   obtain ⟨K',N',S'⟩:=b
   simp only at h e
   subst h e
   simp
  ·rw [if_pos k,z]
   exact ⟨fun e=>absurd e k,fun e=>by rw [e]⟩
 ·rw [if_pos h,z]
  exact ⟨fun e=>absurd e h,fun e=>by rw [e]⟩
theorem tF (a b c:aj) (h:jg a b≤0) (k:jg b c≤0):jg a c≤0:=by
 rw [aev] at h k ⊢
 have t:=Tn a.S b.S c.S
 rcases h with h | ⟨h1,h | ⟨h2,h3⟩⟩ <;> rcases k with k | ⟨k1,k | ⟨k2,k3⟩⟩
 ·exact .inl (by omega)
 ·exact .inl (by omega)
 ·exact .inl (by omega)
 ·exact .inl (by omega)
 ·exact .inr ⟨by omega,.inl (by omega)⟩
 ·exact .inr ⟨by omega,.inl (by omega)⟩
 ·exact .inl (by omega)
 ·exact .inr ⟨by omega,.inl (by omega)⟩
 ·exact .inr ⟨by omega,.inr ⟨by omega,t h3 k3⟩⟩
def kL (n:aY):Nat:=if n.Kind=4∨n.Kind=5 then 2 else if n.Kind=6 then 1 else 0
theorem Fy (n:aY):jq n=some (kL n:Int):=by
 unfold jq kL
 refine bo (a:=decide (n.Kind=4∨n.Kind=5)) ?_ ?_
 ·by_cases h:n.Kind=4
  ·simp [h]
  ·rw [show (n.Kind==4)=false by simpa using h];simp [h,Bool.beq_eq_decide_eq]
 ·by_cases h:n.Kind=4∨n.Kind=5
  ·rw [decide_eq_true h,if_pos h];rfl
  ·rw [decide_eq_false h,if_neg h]
   by_cases k:n.Kind=6
   ·rw [show (n.Kind==6)=true by simpa using k,if_pos k];rfl
   ·rw [show (n.Kind==6)=false by simpa using k,if_neg k];rfl
theorem Fz (n:aY):kL n≤2:=by unfold kL;split <;> (try split) <;> omega
inductive PT where
 | leaf (n:aY)
 | un (n:aY) (a:PT)
 | bin (n:aY) (a b:PT)
def flat:PT→List aY
 | .leaf n=>[n]
 | .un n a=>flat a++[n]
 | .bin n a b=>flat a++(flat b++[n])
def Eh:PT→Prop
 | .leaf n=>kL n=0
 | .un n a=>kL n=1∧Eh a
 | .bin n a b=>kL n=2∧Eh a∧Eh b
def LW:List PT→List aY
 | []=>[]
 | t::ts=>LW ts++flat t
def stk:List aY→Nat→Option Nat
 | [],k=>some k
 | n::r,k=>if kL n≤k then stk r (k - kL n+1) else none
theorem Cv:∀(p:List aY) (ts:List PT) (k:Nat),(∀t∈ts,Eh t)→stk p ts.length=some k→∃us:List PT,(∀t∈us,Eh t)∧us.length=k∧LW us=LW ts++p
 | [],ts,k,h,hs=>by
  simp only [stk,Option.some.injEq] at hs
  exact ⟨ts,h,hs,by simp⟩
 | n ::r,ts,k,h,hs=>by
  rw [stk] at hs
  split at hs
  ·rename_i hle
   have h2:=Fz n
   rcases (by omega:kL n=0∨kL n=1∨kL n=2) with e | e | e
   ·obtain ⟨us,h1,h2,h3⟩:=Cv r (.leaf n::ts) k (fun t ht=>by
     rcases List.mem_cons.1 ht with rfl | ht
     ·exact e
     ·exact h t ht) (by rw [e] at hs;simpa using hs)
    exact ⟨us,h1,h2,by rw [h3];simp [LW,flat]⟩
   ·match ts,h,hs,hle with
    | a::ts,h,hs,_=>
     obtain ⟨us,h1,h2,h3⟩:=Cv r (.un n a::ts) k (fun t ht=>by
      rcases List.mem_cons.1 ht with rfl | ht
      ·exact ⟨e,h a (by simp)⟩
      ·exact h t (by simp [ht])) (by rw [e] at hs;simpa using hs)
     exact ⟨us,h1,h2,by rw [h3];simp [LW,flat]⟩
    | [],_,_,hle=>simp at hle;omega
   ·match ts,h,hs,hle with
    | b::a::ts,h,hs,_=>
     obtain ⟨us,h1,h2,h3⟩:=Cv r (.bin n a b::ts) k (fun t ht=>by
      rcases List.mem_cons.1 ht with rfl | ht
      ·exact ⟨e,h a (by simp),h b (by simp)⟩
      ·exact h t (by simp [ht])) (by rw [e] at hs;simpa using hs)
     exact ⟨us,h1,h2,by rw [h3];simp [LW,flat]⟩
    | [_],_,_,hle=>simp at hle;omega
    | [],_,_,hle=>simp at hle;omega
  ·cases hs
theorem aaq {p:List aY} (h:stk p 0=some 1):∃t,Eh t∧flat t=p:=by
 obtain ⟨us,h1,h2,h3⟩:=Cv p [] 1 (by simp) h
 match us,h2 with
 | [t],_=>exact ⟨t,h1 t (by simp),by simpa [LW] using h3⟩
theorem LX:∀t:PT,0 < (flat t).length
 | .leaf n=>by simp [flat]
 | .un n a=>by simp [flat]
 | .bin n a b=>by simp [flat] <;> omega
def Aq (n:aY) (c:Int):Bool:=
 if n.Kind=2 then decide (0≤n.Col∧n.Col < c∧1≤n.Op∧n.Op≤6)
 else if n.Kind=3 then decide (0≤n.Col∧n.Col < c∧n.Op=0∧n.Val=⟨0,0,[]⟩)
 else decide ((n.Kind=1∨n.Kind=4∨n.Kind=5∨n.Kind=6)∧n=⟨n.Kind,0,0,⟨0,0,[]⟩⟩)
theorem agA (v w:aj):gq v w=decide (v=w):=by
 cases v;cases w
 rw [Bool.eq_iff_iff]
 simp [gq]
theorem anr (v w:aY):qh v w=decide (v=w):=by
 cases v;cases w
 rw [Bool.eq_iff_iff]
 simp [qh,agA]
theorem Qc (n:aY) (c:Int):nT n c=some (Aq n c):=by
 unfold nT Aq
 by_cases h2:n.Kind=2
 ·rw [show (n.Kind==2)=true by simpa using h2,if_pos h2]
  refine bo (a:=decide (0≤n.Col∧n.Col < c∧1≤n.Op∧n.Op≤6)) ?_ rfl
  by_cases a1:n.Col≥0
  ·by_cases a2:n.Col < c
   ·by_cases a3:n.Op≥1
    ·rw [aD a1,aD a2,aD a3];congr 1;exact Qs (by omega)
    ·rw [aD a1,aD a2,aP a3];congr 1;exact (decide_eq_false (by omega)).symm
   ·rw [aD a1,aP a2];congr 1;exact (decide_eq_false (by omega)).symm
  ·rw [aP a1];congr 1;exact (decide_eq_false (by omega)).symm
 rw [show (n.Kind==2)=false by simpa using h2,if_neg h2]
 refine bf rfl ?_
 by_cases h3:n.Kind=3
 ·rw [show (n.Kind==3)=true by simpa using h3,if_pos h3]
  refine bo (a:=decide (0≤n.Col∧n.Col < c∧n.Op=0∧n.Val=⟨0,0,[]⟩)) ?_ rfl
  by_cases a1:n.Col≥0
  ·by_cases a2:n.Col < c
   ·by_cases a3:n.Op=0
    ·rw [aD a1,aD a2,show (n.Op==0)=true by simpa using a3]
     refine bt rfl ?_
     rw [agA];congr 1;exact Qs (by simp [a1,a2,a3])
    ·rw [aD a1,aD a2,show (n.Op==0)=false by simpa using a3];refine bf rfl ?_;congr 1;symm;rw [decide_eq_false_iff_not];rintro ⟨_,_,q,_⟩;exact a3 q
   ·rw [aD a1,aP a2];congr 1;symm;rw [decide_eq_false_iff_not];rintro ⟨_,q,_⟩;exact a2 q
  ·rw [aP a1];congr 1;symm;rw [decide_eq_false_iff_not];rintro ⟨q,_⟩;exact a1 q
 rw [show (n.Kind==3)=false by simpa using h3,if_neg h3]
 refine bf rfl ?_
 refine bo (a:=decide (n.Kind=1∨n.Kind=4∨n.Kind=5∨n.Kind=6)) ?_ ?_
 ·by_cases b1:n.Kind=1
  ·simp [b1]
  by_cases b4:n.Kind=4
  ·simp [b4]
  by_cases b5:n.Kind=5
  ·simp [b5]
  rw [show (n.Kind==1)=false by simpa using b1,show (n.Kind==4)=false by simpa using b4,show (n.Kind==5)=false by simpa using b5]
  simp [b1,b4,b5,Bool.beq_eq_decide_eq]
 ·by_cases q:n.Kind=1∨n.Kind=4∨n.Kind=5∨n.Kind=6
  ·rw [decide_eq_true q]
   refine bt rfl ?_
   rw [anr];congr 1;exact Qs (by simp [q])
  ·rw [decide_eq_false q];refine bf rfl ?_;congr 1;symm;rw [decide_eq_false_iff_not];rintro ⟨r,_⟩;exact q r
def anE (bW:List aA) (i:Int):Int:=((bW[i.toNat]?).map aA.Kind).getD 0
def IL (bW:List aA) (n:aY):Bool:=decide (n.Kind=2∧(val n.Val=false∨n.Val.Kind=0∨n.Val.Kind≠anE bW n.Col))
def Nu (l:List Int):Int:=l.foldl max 0
def FI (bW:List aA) (s:List Int) (n:aY):List Int⊕(List Int⊕Int):=
 if Aq n bW.length=false∨s.length < kL n then .inr (.inr 1)
 else if IL bW n=true then .inr (.inr 8)
 else .inl (s.take (s.length - kL n)++[Nu (s.drop (s.length - kL n))+1])
def yu (bW:List aA) (p:List aY):Int:=
 if p.length > 200 then 7 else match Cc (FI bW) .inl [] p with
  | .inr e=>e
  | .inl s=>if s.length≠1 then 1 else if s.headD 0 > 24 then 7 else 0
def OkN (n:aY):Prop:=n.Val.S.length < 4611686018427387904
theorem Wz {l:List Int} {b:Int} (hb:0≤b) (h:∀d∈l,d≤b):0≤Nu l∧Nu l≤b:=by
 unfold Nu
 have:∀(l:List Int) (a:Int),0≤a→a≤b→(∀d∈l,d≤b)→0≤l.foldl max a∧l.foldl max a≤b:=by
  intro l
  induction l with
  | nil=>intro a h1 h2 _;exact ⟨h1,h2⟩
  | cons x l ih=>
   intro a h1 h2 h3
   rw [List.foldl_cons]
   have:=h3 x (by simp)
   exact ih _ (by omega) (by omega) (fun d hd=>h3 d (by simp [hd]))
 exact this l 0 (by omega) hb h
theorem Kc {α:Type} {xs:List α} {off len i:Nat} (h:i < len) (h2:off+i < xs.length):mP xs off len (i:Int)=some xs[off+i]:=by
 unfold mP
 rw [if_pos (by omega),Int.toNat_natCast,List.getElem?_eq_getElem h2]
theorem V8 {a b:Nat} (h:b≤a) (ha:a < 9223372036854775808):bL ((a:Int) - (b:Int))=((a - b:Nat):Int):=by
 rw [show ((a:Int) - (b:Int))=((a - b:Nat):Int) by omega]
 exact ady (by omega)
theorem acV (bW : List aA) (p:List aY) (hc:bW.length < 4611686018427387904) (hp:∀n∈p,OkN n):wL bW p=some (yu bW p):=by
  unfold wL yu
  by_cases h2:p.length > 200
  · rw [aD (by omega),if_pos h2]
  rw [aP (by omega),if_neg h2]
  refine TS (lq4 p (fun i s=>(s,(i:Int))) (FI bW) .inl (fun i s=>s.length≤i∧∀d∈s,0≤d∧d≤i) [] (fun i s hi hI=>⟨?_,fun s' hs=>?_⟩) (fun s hI=>?_) ⟨by simp,by simp⟩ rfl) ?_
  · obtain ⟨I1, I2⟩ :=hI
    show (bif _ then _ else _)=_
    rw [aD (by omega)]
    have hn:=hp _ (List.getElem_mem hi)
    generalize hn':p[i]=n at hn
    have ht:=Fz n
    have tyq : Aq n bW.length=true→(bif (n.Kind==(2:Int)) then
                    Option.bind (lG n.Val) fun Wo=>
                    bif (!Wo) then
                      some true
                    else
                      bif (n.Val.Kind==(0:Int)) then
                        some true
                      else
                        Option.bind (bP bW n.Col) fun VU=>
                        some (n.Val.Kind != VU.Kind)
                  else
                    some false)=some (IL bW n):=by
      intro hf
      unfold IL
      by_cases k2:n.Kind=2
      · rw [show (n.Kind==2)=true by simpa using k2,vT n.Val hn]
        refine bt rfl ?_
        rw [av]
        cases hv:val n.Val with
        | false=>simp [k2]
        | true=>
          refine bf rfl ?_
          by_cases k0:n.Val.Kind=0
          · simp [k2,k0]
          · rw [show (n.Val.Kind==0)=false by simpa using k0]
            refine bf rfl ?_
            unfold Aq at hf
            rw [if_pos k2,decide_eq_true_eq] at hf
            have hl:n.Col.toNat < bW.length:=by omega
            have hg:bP bW n.Col=some bW[n.Col.toNat]:=by
              unfold bP
              rw [if_pos hf.1,List.getElem?_eq_getElem hl]
            rw [hg,av]
            congr 1
            unfold anE
            rw [List.getElem?_eq_getElem hl]
            simp [k2,k0,bne,Bool.beq_eq_decide_eq]
      · rw [show (n.Kind==2)=false by simpa using k2]
        refine bf rfl ?_
        simp [k2]
    have hk:∀{R:Type} {f:aY→Option R} {r:Option R},f n=r→Option.bind (bP p (i:Int)) f=r:=fun h=>bo (by rw [cu hi,hn']) h
    have hw:bL ((s.length:Int) - (kL n:Int))=(s.length:Int) - (kL n:Int):=gL (by omega) (by omega)
    unfold FI
    by_cases q:Aq n bW.length=false∨s.length < kL n
    · rw [if_pos q]
      refine beE (x:=1) ?_ rfl
      refine hk ?_
      refine bo (Fy n) ?_
      refine bo (a:=true) ?_ rfl
      refine bo (Qc n _) ?_
      rcases q with q | q
      · rw [q];rfl
      · cases Aq n bW.length with
        | false=>rfl
        | true=>
          refine bf rfl ?_
          rw [hw,decide_eq_true (by omega)]
    · rw [if_neg q]
      simp only [not_or,Bool.not_eq_false,Nat.not_lt] at q
      have tyq:=tyq q.1
      by_cases ty:IL bW n=true
      · rw [if_pos ty]
        refine beE (x:=8) ?_ rfl
        refine hk ?_
        refine bo (Fy n) ?_
        refine bo (a:=false) ?_ ?_
        · refine bo (Qc n _) ?_
          rw [q.1]
          refine bf rfl ?_
          rw [hw,decide_eq_false (by omega)]
        refine bf rfl ?_
        refine bo (a:=true) ?_ rfl
        exact (tyq.trans (by rw [ty]))
      · rw [if_neg ty]
        have ty':IL bW n=false:=by simpa using ty
        generalize amx:s.take (s.length - kL n)++[Nu (s.drop (s.length - kL n))+1]=pile
        refine beY (y:=pile) ?_ ?_
        · refine hk ?_
          refine bo (Fy n) ?_
          refine bo (a:=false) ?_ ?_
          · refine bo (Qc n _) ?_
            rw [q.1]
            refine bf rfl ?_
            rw [hw,decide_eq_false (by omega)]
          refine bf rfl ?_
          refine bo (a:=false) (tyq.trans (by rw [ty'])) ?_
          refine bf rfl ?_
          rw [V8 q.2 (by omega),Int.toNat_natCast]
          refine bo (a:=Nu (s.drop (s.length - kL n))) ?_ ?_
          · refine gt (by omega) ?_
            refine bo (a:=Nu (s.drop (s.length - kL n))) (J7 (fun j=>(Nu ((s.drop (s.length - kL n)).take j),(j:Int))) (kL n) (fun j hj=>?_) ?_ rfl) rfl
            · show (bif _ then _ else _)=_
              rw [aD (by omega),Kc (by omega) (by omega),av,bX (by omega)]
              have e1:(s.drop (s.length - kL n)).take (j+1)=(s.drop (s.length - kL n)).take j++[s[0+(s.length - kL n)+j]]:=by
                rw [List.take_add_one,List.getElem?_drop,List.getElem?_eq_getElem (by omega)]
                simp
              rw [e1]
              unfold Nu
              rw [List.foldl_append]
              rfl
            · show (bif _ then _ else _)=_
              rw [aP (by omega),List.take_of_length_le (by simp;omega)]
          · have hm:=Wz (l:=s.drop (s.length - kL n)) (b:=i) (by omega) fun d hd=>(I2 d (List.mem_of_mem_drop hd)).2
            refine gt (by omega) ?_
            refine gt (by omega) ?_
            rw [gL (n:=Nu (s.drop (s.length - kL n))+1) (by omega) (by omega)]
            refine gt (by show (s.length - kL n+1)*8≤room;rw [dL];omega) ?_
            rw [List.drop_zero,amx]
        · show some (Sum.inl (_,_))=_
          rw [bX (by omega)];rfl
  · obtain ⟨I1,I2⟩:=hI
    unfold FI at hs
    split at hs
    · cases hs
    · rename_i q
      split at hs
      · cases hs
      · simp only [not_or,Bool.not_eq_false,Nat.not_lt] at q
        obtain rfl:=Sum.inl.inj hs
        have ht:=Fz p[i]
        have hm:=Wz (l:=s.drop (s.length - kL p[i])) (b:=i) (by omega) fun d hd=>(I2 d (List.mem_of_mem_drop hd)).2
        refine ⟨by simp;omega,fun d hd=>?_⟩
        rcases List.mem_append.1 hd with hd | hd
        · have:=I2 d (List.mem_of_mem_take hd);omega
        · obtain rfl:d=_:=by simpa using hd
          omega
  · show (bif _ then _ else _)=_
    rw [aP (by omega)]
  · cases Cc (FI bW) .inl [] p with
    | inr e=>rfl
    | inl s=>
      show (bif ((s.length:Int) != 1) then _ else _)=some (if s.length≠1 then 1 else if s.headD 0 > 24 then 7 else 0)
      by_cases h1:s.length≠1
      · rw [if_pos h1,show ((s.length:Int) != 1)=true by simp;omega];rfl
      · rw [if_neg h1,show ((s.length:Int) != 1)=false by simp;omega]
        refine bf rfl ?_
        match s,h1 with
        | [d],_=>
          refine bo (a:=d) rfl ?_
          show (bif decide (d > 24) then _ else _)=some (if d > 24 then 7 else 0)
          by_cases h24:d > 24
          · rw [aD h24,if_pos h24]
          · rw [aP h24,if_neg h24]
        | [],h1=>simp at h1
        | _::_::_,h1=>simp at h1
theorem Ta (bW:List aA):∀(p:List aY) (s s':List Int),Cc (FI bW) (.inl:List Int→List Int⊕Int) s p=.inl s'→(∀n∈p,Aq n bW.length=true∧IL bW n=false)∧stk p s.length=some s'.length
 | [],s,s',h=>by
  obtain rfl:=Sum.inl.inj h
  exact ⟨by simp,rfl⟩
 | n::p,s,s',h=>by
  have ht:=Fz n
  unfold Cc FI at h
  by_cases q:Aq n bW.length=false∨s.length < kL n
  ·rw [if_pos q] at h;cases h
  rw [if_neg q] at h
  by_cases ty:IL bW n=true
  ·rw [if_pos ty] at h;cases h
  rw [if_neg ty] at h
  simp only [not_or,Bool.not_eq_false,Nat.not_lt] at q
  obtain ⟨h1,h2⟩:=Ta bW p _ s' h
  refine ⟨fun m hm=>?_,?_⟩
  ·rcases List.mem_cons.1 hm with rfl | hm
   ·exact ⟨q.1,by simpa using ty⟩
   ·exact h1 m hm
  ·rw [stk,if_pos q.2,← h2]
   congr 1
   rw [List.length_append,List.length_take,List.length_singleton]
   omega
theorem ab8 {bW:List aA} {p:List aY} (h:yu bW p=0):p.length≤200∧(∀n∈p,Aq n bW.length=true∧IL bW n=false)∧∃t,Eh t∧flat t=p:=by
 unfold yu at h
 by_cases h2:p.length > 200
 ·rw [if_pos h2] at h;cases h
 rw [if_neg h2] at h
 refine ⟨by omega,?_⟩
 split at h
 ·rename_i e he
  have:∀(p:List aY) (s:List Int) (e:Int),Cc (FI bW) (.inl:List Int→List Int⊕Int) s p=.inr e→e=1∨e=8:=by
   intro p
   induction p with
   | nil=>intro s e h;cases h
   | cons n p ih=>
    intro s e h
    unfold Cc FI at h
    split at h
    ·exact .inl (Sum.inr.inj h).symm
    ·split at h
     ·exact .inr (Sum.inr.inj h).symm
     ·exact ih _ _ h
  have:=this p [] e he
  omega
 ·rename_i s hs
  by_cases h1:s.length≠1
  ·rw [if_pos h1] at h;cases h
  obtain ⟨k1,k2⟩:=Ta bW p [] s hs
  have:s.length=1:=by omega
  rw [this] at k2
  exact ⟨k1,aaq k2⟩
def agv (op c:Int):Bool:=
 if op=1 then decide (c < 0) else if op=2 then decide (c≤0) else if op=3 then decide (c=0) else if op=4 then decide (c≥0) else if op=5 then decide (c > 0) else decide (c≠0)
def aew (n:aY) (v:aj):Bool:=if v.Kind=0 then false else agv n.Op (jg v n.Val)
def Sn (row:List aj) (n:aY):Bool:=if n.Kind=2 then aew n (uO row n.Col) else if n.Kind=3 then decide ((uO row n.Col).Kind=0) else true
def pU (row:List aj):PT→Bool
 | .leaf n=>Sn row n
 | .un n a=> !pU row a
 | .bin n a b=>if n.Kind=4 then pU row a&&pU row b else pU row a || pU row b
theorem Ti (n:aY) (v:aj):iB n v=some (aew n v):=by
 unfold iB aew
 by_cases h0:v.Kind=0
 ·rw [show (v.Kind==0)=true by simpa using h0,if_pos h0];rfl
 rw [show (v.Kind==0)=false by simpa using h0,if_neg h0]
 refine bf rfl ?_
 refine bo (zf v n.Val) ?_
 generalize jg v n.Val=c
 unfold agv
 by_cases h1:n.Op=1
 ·rw [show (n.Op==1)=true by simpa using h1,if_pos h1];rfl
 rw [show (n.Op==1)=false by simpa using h1,if_neg h1]
 refine bf rfl ?_
 by_cases h1:n.Op=2
 ·rw [show (n.Op==2)=true by simpa using h1,if_pos h1];rfl
 rw [show (n.Op==2)=false by simpa using h1,if_neg h1]
 refine bf rfl ?_
 by_cases h1:n.Op=3
 ·rw [show (n.Op==3)=true by simpa using h1,if_pos h1];refine bt rfl ?_;rw [Bool.beq_eq_decide_eq]
 rw [show (n.Op==3)=false by simpa using h1,if_neg h1]
 refine bf rfl ?_
 by_cases h1:n.Op=4
 ·rw [show (n.Op==4)=true by simpa using h1,if_pos h1];rfl
 rw [show (n.Op==4)=false by simpa using h1,if_neg h1]
 refine bf rfl ?_
 by_cases h1:n.Op=5
 ·rw [show (n.Op==5)=true by simpa using h1,if_pos h1];rfl
 rw [show (n.Op==5)=false by simpa using h1,if_neg h1]
 refine bf rfl ?_
 simp [bne,Bool.beq_eq_decide_eq]
def Ja (row:List aj) (n:aY):Prop:=(n.Kind=1∨n.Kind=2∨n.Kind=3∨n.Kind=4∨n.Kind=5∨n.Kind=6)∧((n.Kind=2∨n.Kind=3)→0≤n.Col∧n.Col < row.length)
theorem UF {row:List aj} {n:aY} (h:Aq n row.length=true):Ja row n:=by
 unfold Aq at h
 unfold Ja
 by_cases h2:n.Kind=2
 ·rw [if_pos h2,decide_eq_true_eq] at h
  exact ⟨.inr (.inl h2),fun _=>⟨h.1,h.2.1⟩⟩
 rw [if_neg h2] at h
 by_cases h3:n.Kind=3
 ·rw [if_pos h3,decide_eq_true_eq] at h
  exact ⟨.inr (.inr (.inl h3)),fun _=>⟨h.1,h.2.1⟩⟩
 rw [if_neg h3,decide_eq_true_eq] at h
 exact ⟨by rcases h.1 with h | h | h | h <;> simp [h],fun k=>by rcases k with k | k <;> contradiction⟩
theorem aeL (t:PT) (row:List aj) (ht:Eh t) (hl:(flat t).length≤1000000) (hn:∀n∈flat t,Ja row n):qC (flat t) row=some (pU row t):=by
  unfold qC
  refine bo (a:=()) rfl ?_
  refine QS (w:=[pU row t]) (nmB fun B hB=>?_) rfl
  generalize hp:flat t=p at hB hl hn
  -- one node
  have step :∀(i:Nat) (hi:i < p.length) (pile kids:List Bool) (v:Bool),kids.length=kL p[i]→(pile++kids).length≤i→
      (p[i].Kind=1→v=true)→(p[i].Kind=2→v=aew p[i] (uO row p[i].Col))→(p[i].Kind=3→v=decide ((uO row p[i].Col).Kind=0))→
      (p[i].Kind=4→∀a b,kids=[a,b]→v=(a&&b))→(p[i].Kind=5→∀a b,kids=[a,b]→v=(a || b))→(p[i].Kind=6→∀a,kids=[a]→v = !a)→
      B (pile++kids,(i:Int))=some (.inl (pile++[v],((i+1:Nat):Int))):=by
    intro i hi pile kids v hk hlen h1 h2 h3 h4 h5 h6
    have agw:=hn _ (List.getElem_mem hi)
    rw [hB]
    show (bif _ then _ else _)=_
    rw [aD (by omega)]
    refine bo (cu hi) ?_
    generalize p[i]=n at *
    refine bo (Fy n) ?_
    have htk:=Fz n
    rw [List.length_append] at hlen
    rw [V8 (a:=(pile++kids).length) (b:=kL n) (by simp;omega) (by simp;omega),Int.toNat_natCast]
    have anl:(pile++kids).length - kL n=pile.length:=by simp;omega
    rw [anl]
    have g1:0≤(pile.length:Int)∧(pile.length:Int)≤((pile++kids).length:Int):=by rw [List.length_append];omega
    refine gt g1 ?_
    have tail:∀{w:Bool},w=v→(bif decide (0+pile.length≤(pile++kids).length) then
            (bif decide ((pile.length+[w].length)*1≤room) then
            some (Sum.inl ((List.take pile.length (List.drop 0 (pile++kids))++[w]),(bL ((i:Int)+(1:Int)))))
            else none)
            else none:Option ((List Bool×Int)⊕List Bool))=some (.inl (pile++[v],((i+1:Nat):Int))):=by
      rintro w rfl
      rw [aD (by simp),aD (by show (pile.length+1)*1≤room;rw [dL];omega),bX (by omega),List.drop_zero,List.take_left]
    have col:n.Kind=2∨n.Kind=3→bP row n.Col=some (uO row n.Col):=fun k=>zi (agw.2 k)
    have kid:∀(j:Nat) (hj:j < kids.length),mP (pile++kids) (0+pile.length) ((pile++kids).length - pile.length) (j:Int)=some kids[j]:=by
      intro j hj
      rw [Kc (by simp;omega) (by simp;omega)]
      simp
    rcases agw.1 with e | e | e | e | e | e
    · refine bt (by simpa using e) ?_
      refine gt g1 ?_
      refine bo (a:=()) rfl ?_
      exact tail (h1 e).symm
    · refine bf (by simp [e]) ?_
      refine bt (by simpa using e) ?_
      refine gt g1 ?_
      refine bo (a:=v) ?_ (tail rfl)
      refine bo (col (.inl e)) ?_
      refine bo (Ti n _) ?_
      rw [h2 e]
    · refine bf (by simp [e]) ?_
      refine bf (by simp [e]) ?_
      refine bt (by simpa using e) ?_
      refine gt g1 ?_
      refine bo (a:=v) ?_ (tail rfl)
      refine bo (col (.inr e)) ?_
      rw [h3 e,Bool.beq_eq_decide_eq]
    · refine bf (by simp [e]) ?_
      refine bf (by simp [e]) ?_
      refine bf (by simp [e]) ?_
      refine bt (by simpa using e) ?_
      refine gt g1 ?_
      have hk2:kids.length=2:=by rw [hk];unfold kL;rw [if_pos (.inl e)]
      match kids,hk2,kid,h4 with
      | [a,b],_,kid,h4=>
        refine bo (a:=v) ?_ (tail rfl)
        refine bo (a:=v) ?_ rfl
        refine bo (kid 0 (by simp)) ?_
        rw [h4 e a b rfl]
        cases a with
        | false=>rfl
        | true=>
          refine bt rfl ?_
          exact bo (kid 1 (by simp)) rfl
    · refine bf (by simp [e]) ?_
      refine bf (by simp [e]) ?_
      refine bf (by simp [e]) ?_
      refine bf (by simp [e]) ?_
      refine bt (by simpa using e) ?_
      refine gt g1 ?_
      have hk2:kids.length=2:=by rw [hk];unfold kL;rw [if_pos (.inr e)]
      match kids,hk2,kid,h5 with
      | [a,b],_,kid,h5=>
        refine bo (a:=v) ?_ (tail rfl)
        refine bo (a:=v) ?_ rfl
        refine bo (kid 0 (by simp)) ?_
        rw [h5 e a b rfl]
        cases a with
        | true=>rfl
        | false=>
          refine bf rfl ?_
          exact bo (kid 1 (by simp)) rfl
    · refine bf (by simp [e]) ?_
      refine bf (by simp [e]) ?_
      refine bf (by simp [e]) ?_
      refine bf (by simp [e]) ?_
      refine bf (by simp [e]) ?_
      refine bt (by simpa using e) ?_
      refine gt g1 ?_
      have hk1:kids.length=1:=by rw [hk];unfold kL;rw [if_neg (by omega),if_pos e]
      match kids,hk1,kid,h6 with
      | [a],_,kid,h6=>
        refine bo (a:=v) ?_ (tail rfl)
        refine bo (kid 0 (by simp)) ?_
        rw [h6 e a rfl];rfl
  have last:∀(pile:List Bool),B (pile,(p.length:Int))=some (.inr pile):=by
    intro pile
    rw [hB]
    show (bif _ then _ else _)=_
    rw [aP (by omega)]
  clear hB
  have tree:∀(t:PT) (pre post:List aY) (pile:List Bool),Eh t→p=pre++(flat t++post)→pile.length≤pre.length→loop B (pile,(pre.length:Int))=loop B (pile++[pU row t],((pre++flat t).length:Int)):=by
    intro t
    induction t with
    | leaf n=>
      intro pre post pile ok e hle
      have hi:pre.length < p.length:=by rw [e];simp [flat]
      have hx:p[pre.length]=n:=by simp [e,flat]
      have:=step pre.length hi pile [] (Sn row n) (by rw [hx];exact (show kL n=0 from ok).symm) (by simpa using hle) (fun k=>by rw [hx] at k;simp [Sn,k]) (fun k=>by rw [hx] at k;simp [Sn,k,hx]) (fun k=>by rw [hx] at k;simp [Sn,k,hx]) (fun _ a b h=>by cases h) (fun _ a b h=>by cases h) (fun _ a h=>by cases h)
      rw [List.append_nil] at this
      rw [gB this]
      simp [flat,pU]
    | un n a ih=>
      intro pre post pile ok e hle
      have e':p=pre++(flat a++([n]++post)):=by rw [e];simp [flat]
      rw [ih pre ([n]++post) pile ok.2 e' hle]
      have hi:(pre++flat a).length < p.length:=by rw [e'];simp
      have hx:p[(pre++flat a).length]=n:=by simp [e']
      have hpos:=LX a
      have k6:kL n=1:=ok.1
      have kk:n.Kind≠1∧n.Kind≠2∧n.Kind≠3∧n.Kind≠4∧n.Kind≠5:=by
        unfold kL at k6
        split at k6
        · omega
        · split at k6 <;> omega
      have:=step (pre++flat a).length hi pile [pU row a] (!pU row a) (by rw [hx];exact k6.symm) (by simp;omega) (fun k=>by rw [hx] at k;omega) (fun k=>by rw [hx] at k;omega) (fun k=>by rw [hx] at k;omega) (fun _ a b h=>by simp at h) (fun _ a b h=>by simp at h) (fun _ x h=>by simp at h;rw [h])
      rw [gB this]
      have el:(pre++flat a).length+1=(pre++flat (.un n a)).length:=by simp [flat];omega
      rw [el];rfl
    | bin n a b iha ihb=>
      intro pre post pile ok e hle
      have e1:p=pre++(flat a++(flat b++([n]++post))):=by rw [e];simp [flat]
      have e2:p=(pre++flat a)++(flat b++([n]++post)):=by rw [e1];simp
      have hpa:=LX a
      have hpb:=LX b
      rw [iha pre _ pile ok.2.1 e1 hle,ihb (pre++flat a) _ (pile++[pU row a]) ok.2.2 e2 (by simp;omega)]
      have hi:((pre++flat a)++flat b).length < p.length:=by rw [e2];simp
      have hx:p[((pre++flat a)++flat b).length]=n:=by simp [e2]
      have k2:kL n=2:=ok.1
      have kk:n.Kind=4∨n.Kind=5:=by
        unfold kL at k2
        split at k2
        · assumption
        · split at k2 <;> omega
      have:=step ((pre++flat a)++flat b).length hi pile [pU row a,pU row b] (pU row (.bin n a b)) (by rw [hx];exact k2.symm) (by simp;omega) (fun k=>by rw [hx] at k;omega) (fun k=>by rw [hx] at k;omega) (fun k=>by rw [hx] at k;omega)
        (fun k x y h=>by rw [hx] at k;simp at h;rw [pU,if_pos k,h.1,h.2]) (fun k x y h=>by rw [hx] at k;simp at h;rw [pU,if_neg (by omega),h.1,h.2]) (fun k=>by rw [hx] at k;omega)
      rw [show pile++[pU row a]++[pU row b]=pile++[pU row a,pU row b] by simp,gB this]
      have el:(pre++flat a++flat b).length+1=(pre++flat (.bin n a b)).length:=by simp [flat];omega
      rw [el]
  have h0:=tree t [] [] [] ht (by simp [hp]) (by simp)
  rw [show ((([]:List aY)).length:Int)=0 from rfl,List.nil_append,List.nil_append] at h0
  rw [hp] at h0
  exact h0.trans (fM (last _))
abbrev R6:aY:=aY.mk (6:Int) (0:Int) (0:Int) (aj.mk (0:Int) (0:UInt64) ([]:List UInt8))
theorem Yq (row:List aj):Ja row R6:=⟨by simp,by simp⟩
theorem aeJ (k:Int):OkN (aY.mk k (0:Int) (0:Int) (aj.mk (0:Int) (0:UInt64) ([]:List UInt8))):=by show (0:Nat) < _;omega
theorem ajk {t:PT} {p:List aY} {row:List aj} {v:Bool} (e:p=flat t) (ht:Eh t) (hl:p.length≤1000000) (hn:∀n∈p,Ja row n) (hv:pU row t=v):qC p row=some v:=by
 subst e;subst hv
 exact aeL t row ht hl hn
theorem Gg (d:Array Int) (hs:∀(i j:Nat) (hij:i < j) (hj:j < d.size),d[i]'(by omega)≤d[j]'hj):∀m,m≤d.size→(Go.Lib.compactUpTo d m).Pairwise (· < ·)∧(∀x,x∈Go.Lib.compactUpTo d m↔∃i,∃h:i < d.size,i < m∧d[i]=x)
 | 0,_=>by
  refine ⟨by simp [Go.Lib.compactUpTo],fun x=>?_⟩
  simp [Go.Lib.compactUpTo]
 | m + 1,hm=>by
  obtain ⟨p1,p2⟩:=Gg d hs m (by omega)
  have hlt:m < d.size:=by omega
  have eg:d[m]! = d[m]:=getElem!_pos d m hlt
  rw [Go.Lib.compactUpTo_succ,eg]
  by_cases k:Go.Lib.keeps d m=true
  ·rw [if_pos k]
   refine ⟨?_,fun x=>?_⟩
   ·rw [List.pairwise_append]
    refine ⟨p1,by simp,fun x hx y hy=>?_⟩
    obtain rfl:y=d[m]:=by simpa using hy
    obtain ⟨i,hi,him,rfl⟩:=(p2 x).1 hx
    have hm0:0 < m:=by omega
    have eg1:d[m - 1]! = d[m - 1]'(by omega):=getElem!_pos d (m - 1) (by omega)
    have hne:d[m]≠d[m - 1]'(by omega):=by
     intro e
     have:=Go.Lib.keeps_neg (d:=d) hm0 (by rw [eg,eg1];exact e)
     rw [this] at k;cases k
    have h1:=hs (m - 1) m (by omega) hlt
    rcases Nat.lt_or_ge i (m - 1) with q | q
    ·have:=hs i (m - 1) q (by omega)
     omega
    ·have:i=m - 1:=by omega
     subst this
     omega
   ·rw [List.mem_append,p2]
    constructor
    ·rintro (⟨i,hi,him,e⟩ | hx)
     ·exact ⟨i,hi,by omega,e⟩
     ·exact ⟨m,hlt,by omega,(by simpa using hx:x=d[m]).symm⟩
    ·rintro ⟨i,hi,him,e⟩
     rcases Nat.lt_or_ge i m with q | q
     ·exact .inl ⟨i,hi,q,e⟩
     ·have:i=m:=by omega
      subst this
      exact .inr (by simp [e])
  ·rw [if_neg k,List.append_nil]
   refine ⟨p1,fun x=>?_⟩
   rw [p2]
   constructor
   ·rintro ⟨i,hi,him,e⟩
    exact ⟨i,hi,by omega,e⟩
   ·rintro ⟨i,hi,him,e⟩
    rcases Nat.lt_or_ge i m with q | q
    ·exact ⟨i,hi,q,e⟩
    ·have:i=m:=by omega
     subst this
     have hm0:0 < i:=by
      rcases Nat.eq_zero_or_pos i with h0 | h0
      ·subst h0
       exact absurd (Go.Lib.keeps_lt_one d 0 (by omega)) k
      ·exact h0
     have eg1:d[i - 1]! = d[i - 1]'(by omega):=getElem!_pos d (i - 1) (by omega)
     by_cases q2:d[i]=d[i - 1]'(by omega)
     ·exact ⟨i - 1,by omega,by omega,by rw [← q2];exact e⟩
     ·exact absurd (Go.Lib.keeps_pos (by rw [eg,eg1];exact q2)) k
def F7 (l:List Int):List Int:=Go.Lib.compact (l.mergeSort fun x y=>decide (x≤y))
theorem aeb (l:List Int):(F7 l).Pairwise (· < ·)∧∀x,x∈F7 l↔x∈l:=by
 have hp:(l.mergeSort fun x y=>decide (x≤y)).Pairwise (fun x y=>decide (x≤y)=true):=by
  refine List.pairwise_mergeSort (fun a b c h1 h2=>?_) (fun a b=>?_) l
  ·simp only [decide_eq_true_eq] at *
   omega
  ·simp only [Bool.or_eq_true,decide_eq_true_eq]
   omega
 unfold F7
 generalize hs:(l.mergeSort fun x y=>decide (x≤y))=s at hp
 have hm:∀x,x∈s↔x∈l:=by
  intro x
  rw [← hs]
  exact List.mem_mergeSort
 unfold Go.Lib.compact
 have key:=Gg s.toArray (fun i j hij hj=>by
  have:=List.pairwise_iff_getElem.1 hp i j (by simpa using (by omega:i < s.toArray.size)) (by simpa using hj) hij
  simpa using this) s.length (by simp)
 refine ⟨key.1,fun x=>?_⟩
 rw [key.2,← hm]
 constructor
 ·rintro ⟨i,hi,_,e⟩
  rw [← e]
  simp
 ·intro hx
  obtain ⟨i,hi,e⟩:=List.mem_iff_getElem.1 hx
  exact ⟨i,by simpa using hi,hi,by simpa using e⟩
end Lv
namespace Lv
open Go Go.Proofs
variable [bJ]
variable [bJ]
end Lv
namespace Lv
open Go Go.Proofs
variable [bJ]
def within (K:List UInt8) (s:dG):Prop:=o8 K s.Lo=false∧o8 K s.Hi=true∧s.Open=false
end Lv
namespace Lv
open Go Go.Proofs
section
variable {κ:Type} [BEq κ] [LawfulBEq κ]
end
variable [bJ]
end Lv
namespace Lv
open Go
variable [bJ]
end Lv
namespace Lv
open Go Go.Proofs
variable [bJ]
theorem PW (x y:UInt8) (a b:List UInt8):o8 (x::a) (y::b)=(decide (x < y) || (x==y&&o8 a b)):=by
 by_cases h:x < y
 ·simp [o8,Op.bytesLess,h]
 ·by_cases k:x=y
  ·subst k;simp [o8,Op.bytesLess,h]
  ·simp [o8,Op.bytesLess,h,k]
theorem aaY (y:UInt8) (b:List UInt8):o8 [] (y::b)=true:=by simp [o8,Op.bytesLess]
theorem zI (a:List UInt8):o8 a []=false:=by cases a <;> simp [o8,Op.bytesLess]
theorem ahF (p a b:List UInt8):o8 (p++a) (p++b)=o8 a b:=by
 induction p with
 | nil=>rfl
 | cons x p ih=>
  rw [List.cons_append,List.cons_append,PW,ih]
  have:¬x < x:=fun h=>absurd (UInt8.lt_iff_toNat_lt.1 h) (by omega)
  simp [this]
theorem vO:∀{a b c:List UInt8},o8 a b=true→o8 b c=true→o8 a c=true
 | a,b,[],_,h=>by rw [zI] at h;cases h
 | a,[],z::c,h,_=>by rw [zI] at h;cases h
 | [],y::b,z::c,_,_=>aaY _ _
 | x::a,y::b,z::c,h,k=>by
  rw [PW] at h k ⊢
  simp only [Bool.or_eq_true,decide_eq_true_eq,Bool.and_eq_true,beq_iff_eq] at h k ⊢
  rcases h with h | ⟨rfl,h⟩
  ·rcases k with k | ⟨rfl,k⟩
   ·exact .inl (UInt8.lt_iff_toNat_lt.2 (Nat.lt_trans (UInt8.lt_iff_toNat_lt.1 h) (UInt8.lt_iff_toNat_lt.1 k)))
   ·exact .inl h
  ·rcases k with k | ⟨rfl,k⟩
   ·exact .inl k
   ·exact .inr ⟨rfl,vO h k⟩
theorem lt_iff:∀(a b:List UInt8),o8 a b=true↔a < b
 | a,[]=>by rw [zI];simp
 | [],y::b=>by rw [aaY];simp
 | x::a,y::b=>by
  rw [PW,List.cons_lt_cons_iff]
  simp only [Bool.or_eq_true,decide_eq_true_eq,Bool.and_eq_true,beq_iff_eq,lt_iff a b]
theorem zJ (a:List UInt8):o8 a a=false:=by
 have:=ahF a [] []
 rw [List.append_nil] at this
 rw [this];rfl
theorem le_iff (a b:List UInt8):a≤b↔o8 b a=false:=by
 rw [← List.not_lt,← lt_iff]
 simp
def ad9 (k v:List UInt8):mD:=mD.mk (0:UInt64) (1:Int) k (0:UInt64) v (0:Int) (0:UInt64)
def aeu (k:List UInt8):mD:=mD.mk (0:UInt64) (2:Int) k (0:UInt64) [] (0:Int) (0:UInt64)
theorem Zd (k key val v:List UInt8) (has:Bool):jH (aU.mk key has val 0 false []) (ad9 k v)=some (aU.mk key true v 0 false []):=by
 unfold jH jG ad9
 rfl
theorem Ze (k key val:List UInt8) (has:Bool):jH (aU.mk key has val 0 false []) (aeu k)=some (aU.mk key false [] 0 false []):=by
 unfold jH jG aeu
 rfl
def Gc (k:List UInt8):Option (List UInt8)→mD
 | some v=>ad9 k v
 | none=>aeu k
def sP (k:List UInt8):Option (List UInt8)→List aU
 | some v=>[aU.mk k true v 0 false []]
 | none=>[]
def xq (k:List UInt8) (o:Option (List UInt8)):List aU→List aU
 | []=>sP k o
 | e::l=>if o8 e.Key k=true then e::xq k o l else if e.Key=k then sP k o++l else sP k o++e::l
def PI (e:aU):Prop:=∃k v,e=aU.mk k true v 0 false []
theorem Xg (k key val:List UInt8) (has:Bool) (o:Option (List UInt8)):∃e,jH (aU.mk key has val 0 false []) (Gc k o)=some e∧pY e=some o.isNone∧(o.isNone=false→[e]=sP key o):=by
 cases o with
 | some v=>exact ⟨_,Zd k key val v has,rfl,fun _=>rfl⟩
 | none=>exact ⟨_,Ze k key val has,rfl,fun h=>(by cases h)⟩
theorem aaV (k:List UInt8) (o:Option (List UInt8)):(Gc k o).Kind=1∨(Gc k o).Kind=2:=by cases o <;> simp [Gc,ad9,aeu]
theorem tQ (k:List UInt8) (o:Option (List UInt8)):(Gc k o).Key=k:=by cases o <;> rfl
theorem Sr {e:aU} {k:List UInt8} {o:Option (List UInt8)} {l:List aU} (h:o8 e.Key k=true):xq k o (e::l)=e::xq k o l:=by
 show (if o8 e.Key k=true then _ else _)=_
 rw [if_pos h]
theorem Sw {e:aU} {k:List UInt8} {o:Option (List UInt8)} {l:List aU} (h:e.Key=k):xq k o (e::l)=sP k o++l:=by
 show (if o8 e.Key k=true then _ else _)=_
 rw [if_neg (by rw [h,zJ];simp),if_pos h]
theorem Sv {e:aU} {k:List UInt8} {o:Option (List UInt8)} {l:List aU} (h:o8 e.Key k=false) (h2:e.Key≠k):xq k o (e::l)=sP k o++e::l:=by
 show (if o8 e.Key k=true then _ else _)=_
 rw [if_neg (by rw [h];simp),if_neg h2]
theorem tri (a b:List UInt8):o8 a b=true∨a=b∨o8 b a=true:=by
 by_cases h:o8 a b=true
 ·exact .inl h
 ·by_cases k:o8 b a=true
  ·exact .inr (.inr k)
  ·exact .inr (.inl (List.le_antisymm ((le_iff a b).2 (by simpa using k)) ((le_iff b a).2 (by simpa using h))))
theorem aaZ {a b:List UInt8} (h:o8 a b=true):a≠b:=by
 rintro rfl
 rw [zJ] at h;cases h
theorem J6 {a b:List UInt8} (h:o8 a b=true):o8 b a=false:=by
 cases k:o8 b a with
 | false=>rfl
 | true=>have:=vO h k;rw [zJ] at this;cases this
theorem WJ (k:List UInt8) (o:Option (List UInt8)):∀l:List aU,(xq k o l).length≤l.length+1
 | []=>by cases o <;> simp [xq,sP]
 | e::l=>by
  have:=WJ k o l
  unfold xq
  split
  ·simp;omega
  ·split
   ·cases o <;> simp [sP] <;> omega
   ·cases o <;> simp [sP]
theorem KN {n:Nat} (h:n≤1073741824) (k:Nat) (hk:k≤100):n*k≤room:=by
 rw [show room=140737488355328 from rfl]
 calc n*k≤n*100:=Nat.mul_le_mul_left _ hk
  _≤_:=by omega
theorem EB {e:aU} (h:PI e):pY e=some false:=by
 obtain ⟨k,v,rfl⟩:=h
 rfl
theorem Sb (k:List UInt8) (o:Option (List UInt8)):(sP k o).length≤1:=by cases o <;> simp [sP]
theorem RS (k:List UInt8) (o:Option (List UInt8)) (out:List aU) (h:out.length < 1073741824):
  (Option.bind (jH (aU.mk (Gc k o).Key false ([]:List UInt8) (0:UInt64) false ([]:List UInt8)) (Gc k o)) fun wI=>
   Option.bind (pY wI) fun Wn=>
   bif (!Wn) then
    bif decide ((out.length+[wI].length)*72≤room) then
    some ((out++[wI]),true)
    else none
   else
    some (out,true))=some (out++sP k o,true):=by
 rw [tQ]
 obtain ⟨e,h1,h2,h3⟩:=Xg k k [] false o
 refine bo h1 ?_
 refine bo h2 ?_
 cases o with
 | none=>show some (out,true)=some (out++[],true);rw [List.append_nil]
 | some v=>
  show (bif decide ((out.length+1)*72≤room) then some ((out++[e]),true) else none)=_
  rw [aD (KN (by omega) 72 (by omega)),h3 rfl]
theorem Zn (k:List UInt8) (o:Option (List UInt8)) (l:List aU) (hp:∀e∈l,PI e) (hr:l.Pairwise fun a b=>o8 a.Key b.Key=true) (hl:l.length < 1073741824):
  gQ (Gc k o) l=some (xq k o l):=by
 unfold gQ
 have hk4:((Gc k o).Kind==(4:Int))=false:=by rcases aaV k o with h | h <;> rw [h] <;> rfl
 rw [hk4]
 refine QS (w:=xq k o l) (nmB fun B hB=>?_) rfl
 have akv:∀(out:List aU) (i:Nat) (hi:i < l.length),out.length≤i+1→l[i].Key≠k→B (out,true,(i:Int))=some (.inl (out++[l[i]],true,((i+1:Nat):Int))):=by
  intro out i hi ho hne
  rw [hB]
  show (bif _ then _ else _)=_
  rw [aD (by omega)]
  have h1:((i:Int)==(l.length:Int))=false:=by simp;omega
  refine beY (y:=(out++[l[i]],true)) ?_ ?_
  ·refine bo (a:=(out,true)) rfl ?_
   show (bif ((i:Int)==(l.length:Int)) then _ else _)=_
   rw [h1]
   show Option.bind (bP l i) _=_
   rw [cu hi,av]
   refine bo (a:=l[i]) ?_ ?_
   ·refine bo (a:=false) ?_ rfl
    show some (l[i].Key==(Gc k o).Key)=_
    rw [tQ,beq_eq_false_iff_ne.2 hne]
   ·refine bo (EB (hp _ (List.getElem_mem hi))) ?_
    show (bif decide ((out.length+1)*72≤room) then _ else _)=_
    rw [aD (KN (by omega) 72 (by omega))]
  ·show some (Sum.inl (_,_,bL ((i:Int)+1)))=_
   rw [bX (by omega)]
 have atx:∀(out:List aU),B (out,true,(l.length:Int))=some (.inr out):=by
  intro out
  rw [hB]
  show (bif _ then _ else _)=_
  rw [aD (by omega)]
  have h1:((l.length:Int)==(l.length:Int))=true:=by simp
  refine beE (x:=out) ?_ rfl
  refine bo (a:=(out,true)) rfl ?_
  show (bif ((l.length:Int)==(l.length:Int)) then _ else _)=_
  rw [h1];rfl
 have aty:∀(out:List aU),out.length≤l.length→B (out,false,(l.length:Int))=some (.inr (out++sP k o)):=by
  intro out ho
  rw [hB]
  show (bif _ then _ else _)=_
  rw [aD (by omega)]
  have h1:((l.length:Int)==(l.length:Int))=true:=by simp
  refine beE (x:=out++sP k o) ?_ rfl
  refine bo (a:=(out++sP k o,true)) ?_ ?_
  ·refine bo (a:=true) ?_ ?_
   ·show (bif ((l.length:Int)==(l.length:Int)) then _ else _)=_
    rw [h1];rfl
   ·refine bo (a:=true) ?_ ?_
    ·show (bif ((l.length:Int)==(l.length:Int)) then _ else _)=_
     rw [h1];rfl
    ·exact RS k o out (by omega)
  ·show (bif ((l.length:Int)==(l.length:Int)) then _ else _)=_
   rw [h1];rfl
 have step1:∀(out:List aU) (i:Nat) (hi:i < l.length),out.length≤i→o8 l[i].Key k=true→B (out,false,(i:Int))=some (.inl (out++[l[i]],false,((i+1:Nat):Int))):=by
  intro out i hi ho hlt
  rw [hB]
  show (bif _ then _ else _)=_
  rw [aD (by omega)]
  have h1:((i:Int)==(l.length:Int))=false:=by simp;omega
  refine beY (y:=(out++[l[i]],false)) ?_ ?_
  ·refine bo (a:=(out,false)) ?_ ?_
   ·refine bo (a:=false) ?_ rfl
    show (bif ((i:Int)==(l.length:Int)) then _ else _)=_
    rw [h1]
    show Option.bind (bP l i) _=_
    rw [cu hi,av,tQ,hlt];rfl
   show (bif ((i:Int)==(l.length:Int)) then _ else _)=_
   rw [h1]
   show Option.bind (bP l i) _=_
   rw [cu hi,av]
   refine bo (a:=l[i]) ?_ ?_
   ·refine bo (a:=false) ?_ rfl
    show some (l[i].Key==(Gc k o).Key)=_
    rw [tQ,beq_eq_false_iff_ne.2 (aaZ hlt)]
   ·refine bo (EB (hp _ (List.getElem_mem hi))) ?_
    show (bif decide ((out.length+1)*72≤room) then _ else _)=_
    rw [aD (KN (by omega) 72 (by omega))]
  ·show some (Sum.inl (_,_,bL ((i:Int)+1)))=_
   rw [bX (by omega)]
 have step2:∀(out:List aU) (i:Nat) (hi:i < l.length),out.length≤i→l[i].Key=k→B (out,false,(i:Int))=some (.inl (out++sP k o,true,((i+1:Nat):Int))):=by
  intro out i hi ho he
  rw [hB]
  show (bif _ then _ else _)=_
  rw [aD (by omega)]
  have h1:((i:Int)==(l.length:Int))=false:=by simp;omega
  refine beY (y:=(out++sP k o,true)) ?_ ?_
  ·refine bo (a:=(out,true)) ?_ ?_
   ·refine bo (a:=true) ?_ ?_
    ·show (bif ((i:Int)==(l.length:Int)) then _ else _)=_
     rw [h1]
     show Option.bind (bP l i) _=_
     rw [cu hi,av,tQ,he,zJ];rfl
    ·refine bo (a:=false) ?_ rfl
     show (bif ((i:Int)==(l.length:Int)) then _ else _)=_
     rw [h1]
     show Option.bind (bP l i) _=_
     rw [cu hi,av,tQ,he,zJ,beq_self_eq_true];rfl
   show (bif ((i:Int)==(l.length:Int)) then _ else _)=_
   rw [h1]
   show Option.bind (bP l i) _=_
   rw [cu hi,av]
   obtain ⟨key,val,e0⟩:=hp _ (List.getElem_mem hi)
   rw [e0] at he ⊢
   have he:key=k:=he
   subst he
   obtain ⟨e,g1,g2,g3⟩:=Xg key key val true o
   refine bo (a:=e) ?_ ?_
   ·refine bo (a:=true) ?_ ?_
    ·show some (key==(Gc key o).Key)=_
     rw [tQ,beq_self_eq_true]
    ·refine bo g1 rfl
   ·refine bo g2 ?_
    cases o with
    | none=>show some (Sum.inl (out,true))=some (Sum.inl (out++[],true));rw [List.append_nil]
    | some v=>
     show (bif decide ((out.length+1)*72≤room) then some (Sum.inl ((out++[e]),true)) else none)=_
     rw [aD (KN (by omega) 72 (by omega)),g3 rfl]
  ·show some (Sum.inl (_,_,bL ((i:Int)+1)))=_
   rw [bX (by omega)]
 have akw:∀(out:List aU) (i:Nat) (hi:i < l.length),out.length≤i→o8 k l[i].Key=true→B (out,false,(i:Int))=some (.inl (out++sP k o++[l[i]],true,((i+1:Nat):Int))):=by
  intro out i hi ho hgt
  rw [hB]
  show (bif _ then _ else _)=_
  rw [aD (by omega)]
  have h1:((i:Int)==(l.length:Int))=false:=by simp;omega
  have hne:l[i].Key≠k:=fun e=>aaZ hgt e.symm
  refine beY (y:=(out++sP k o++[l[i]],true)) ?_ ?_
  ·refine bo (a:=(out++sP k o,true)) ?_ ?_
   ·refine bo (a:=true) ?_ ?_
    ·show (bif ((i:Int)==(l.length:Int)) then _ else _)=_
     rw [h1]
     show Option.bind (bP l i) _=_
     rw [cu hi,av,tQ,J6 hgt];rfl
    ·refine bo (a:=true) ?_ ?_
     ·show (bif ((i:Int)==(l.length:Int)) then _ else _)=_
      rw [h1]
      show Option.bind (bP l i) _=_
      rw [cu hi,av,tQ,J6 hgt,beq_eq_false_iff_ne.2 hne];rfl
     ·exact RS k o out (by omega)
   show (bif ((i:Int)==(l.length:Int)) then _ else _)=_
   rw [h1]
   show Option.bind (bP l i) _=_
   rw [cu hi,av]
   refine bo (a:=l[i]) ?_ ?_
   ·refine bo (a:=false) ?_ rfl
    show some (l[i].Key==(Gc k o).Key)=_
    rw [tQ,beq_eq_false_iff_ne.2 hne]
   ·refine bo (EB (hp _ (List.getElem_mem hi))) ?_
    have:=Sb k o
    show (bif decide (((out++sP k o).length+1)*72≤room) then _ else _)=_
    rw [aD (KN (by rw [List.length_append];omega) 72 (by omega))]
  ·show some (Sum.inl (_,_,bL ((i:Int)+1)))=_
   rw [bX (by omega)]
 clear hB
 have akE:∀n i (out:List aU),i+n=l.length→out.length≤i+1→(∀j (hj:j < l.length),i≤j→l[j].Key≠k)→loop B (out,true,(i:Int))=some (out++l.drop i):=by
  intro n
  induction n with
  | zero=>
   intro i out hi ho hk
   obtain rfl:i=l.length:=by omega
   rw [List.drop_length,List.append_nil]
   exact fM (atx out)
  | succ n ih=>
   intro i out hi ho hk
   have hi':i < l.length:=by omega
   rw [gB (akv out i hi' ho (hk i hi' (Nat.le_refl _))),ih (i+1) (out++[l[i]]) (by omega) (by simp;omega) (fun j hj h=>hk j hj (by omega)),List.drop_eq_getElem_cons hi']
   simp
 have above:∀i (hi:i < l.length),(o8 k l[i].Key=true∨l[i].Key=k)→∀j (hj:j < l.length),i+1≤j→l[j].Key≠k:=by
  intro i hi h j hj hij e
  have h2:=List.pairwise_iff_getElem.1 hr i j hi hj (by omega)
  rw [e] at h2
  rcases h with h | h
  ·have:=vO h2 h
   rw [zJ] at this;cases this
  ·rw [h,zJ] at h2;cases h2
 have asA:∀n i (out:List aU),i+n=l.length→out.length≤i→loop B (out,false,(i:Int))=some (out++xq k o (l.drop i)):=by
  intro n
  induction n with
  | zero=>
   intro i out hi ho
   obtain rfl:i=l.length:=by omega
   rw [List.drop_length]
   exact fM (aty out ho)
  | succ n ih=>
   intro i out hi ho
   have hi':i < l.length:=by omega
   rw [List.drop_eq_getElem_cons hi']
   have hn:=Sb k o
   rcases tri l[i].Key k with h | h | h
   ·rw [gB (step1 out i hi' ho h),ih (i+1) (out++[l[i]]) (by omega) (by simp;omega),Sr h]
    simp
   ·rw [gB (step2 out i hi' ho h),akE n (i+1) _ (by omega) (by simp;omega) (above i hi' (.inr h)),Sw h]
    simp
   ·rw [gB (akw out i hi' ho h),akE n (i+1) _ (by omega) (by simp;omega) (above i hi' (.inl h)),Sv (J6 h) (fun e=>aaZ h e.symm)]
    simp
 have:=asA l.length 0 [] (by omega) (by simp)
 simpa using this
def ELr (l:List aU):Prop:=(∀e∈l,PI e)∧l.Pairwise fun a b=>o8 a.Key b.Key=true
theorem CG (k:List UInt8) (o:Option (List UInt8)):∀e∈sP k o,PI e∧e.Key=k:=by
 cases o with
 | none=>intro e he;cases he
 | some v=>
  intro e he
  obtain rfl:e=aU.mk k true v 0 false []:=by simpa [sP] using he
  exact ⟨⟨k,v,rfl⟩,rfl⟩
theorem P8 (k:List UInt8) (o:Option (List UInt8)):∀(l:List aU),∀e∈xq k o l,e∈l∨e∈sP k o
 | [],e,h=>.inr h
 | x::l,e,h=>by
  unfold xq at h
  split at h
  ·rcases List.mem_cons.1 h with rfl | h
   ·exact .inl (by simp)
   ·rcases P8 k o l e h with h | h
    ·exact .inl (by simp [h])
    ·exact .inr h
  ·split at h
   ·rcases List.mem_append.1 h with h | h
    ·exact .inr h
    ·exact .inl (by simp [h])
   ·rcases List.mem_append.1 h with h | h
    ·exact .inr h
    ·exact .inl h
theorem ahH (k:List UInt8) (o:Option (List UInt8)):∀{l:List aU},ELr l→ELr (xq k o l):=by
 intro l h
 refine ⟨fun e he=>?_,?_⟩
 ·rcases P8 k o l e he with h' | h'
  ·exact h.1 e h'
  ·exact (CG k o e h').1
 ·have hs:=h.2
  clear h
  induction l with
  | nil=>cases o <;> simp [xq,sP]
  | cons x l ih=>
   have hx:=(List.pairwise_cons.1 hs).1
   have hs':=(List.pairwise_cons.1 hs).2
   have nw:(sP k o).Pairwise fun a b=>o8 a.Key b.Key=true:=by cases o <;> simp [sP]
   unfold xq
   split
   ·rename_i e
    refine List.pairwise_cons.2 ⟨fun y hy=>?_,ih hs'⟩
    rcases P8 k o l y hy with h' | h'
    ·exact hx y h'
    ·rw [(CG k o y h').2];exact e
   ·rename_i e
    split
    ·rename_i e2
     refine List.pairwise_append.2 ⟨nw,hs',fun a ha b hb=>?_⟩
     rw [(CG k o a ha).2,← e2]
     exact hx b hb
    ·rename_i e2
     have e3:o8 k x.Key=true:=by
      rcases tri x.Key k with h | h | h
      ·exact absurd h e
      ·exact absurd h e2
      ·exact h
     refine List.pairwise_append.2 ⟨nw,hs,fun a ha b hb=>?_⟩
     rw [(CG k o a ha).2]
     rcases List.mem_cons.1 hb with rfl | hb
     ·exact e3
     ·exact vO e3 (hx b hb)
theorem ELr.tail {e:aU} {l:List aU} (h:ELr (e::l)):ELr l:=⟨fun x hx=>h.1 x (List.mem_cons_of_mem _ hx),(List.pairwise_cons.1 h.2).2⟩
theorem aeM:ELr []:=⟨fun e h=>(by cases h),List.Pairwise.nil⟩
theorem RU {α:Type} {bs:List Nat} {ts:List α} (hn:bs.Nodup) (hl:ts.length=bs.length) {i:Nat} (h:i < bs.length):FZ (bs.zip ts) bs[i]=some (ts[i]'(by omega)):=by
 induction bs generalizing ts i with
 | nil=>simp at h
 | cons b bs ih=>
  cases ts with
  | nil=>simp at hl
  | cons t ts=>
   have hn':=List.nodup_cons.1 hn
   cases i with
   | zero=>simp [FZ]
   | succ i=>
    have hi:i < bs.length:=by simpa using h
    have hne:¬b=bs[i]:=fun q=>hn'.1 (q▸List.getElem_mem hi)
    have:=ih hn'.2 (by simpa using hl) hi
    unfold FZ at this ⊢
    simp only [List.zip_cons_cons,List.getElem_cons_succ,List.find?_cons,beq_eq_false_iff_ne.2 hne]
    exact this
theorem ahC {bs:List Nat} (hn:bs.Nodup) {i j:Nat} (hi:i < bs.length) (hj:j < bs.length) (h:bs[i]=bs[j]):i=j:=by
 have hp:=List.pairwise_iff_getElem.1 hn
 rcases Nat.lt_trichotomy i j with q | q | q
 ·exact absurd h (hp i j hi hj q)
 ·exact q
 ·exact absurd h.symm (hp j i hj hi q)
theorem aaJ {α:Type} {bs:List Nat} {ts:List α} (hn:bs.Nodup) (hl:ts.length=bs.length) {i:Nat} (h:i < bs.length) (x:α):JE (bs.zip ts) bs[i] x=bs.zip (ts.set i x):=by
 apply List.ext_getElem
 ·simp [JE]
 ·intro j h1 h2
  have hj:j < bs.length:=by simp [JE] at h1;omega
  simp only [JE,List.getElem_map,List.getElem_zip,List.getElem_set]
  by_cases q:i=j
  ·subst q;rw [if_pos rfl,if_pos rfl]
  ·rw [if_neg (fun q2=>q (ahC hn h hj q2.symm)),if_neg q]
theorem aa5 (k:List UInt8) (o:Option (List UInt8)) (l:List aU):(xq k o l).length≤l.length+1:=WJ k o l
section
variable (key val:List aj→List UInt8) (kp:List aj→Bool)
def SJ (rows:List (List aj)):List aU:=rows.foldl (fun M l=>if kp l=true then xq (key l) (some (val l)) M else M) []
theorem QI (rows:List (List aj)) (l:List aj):SJ key val kp (rows++[l])=if kp l=true then xq (key l) (some (val l)) (SJ key val kp rows) else SJ key val kp rows:=by
 unfold SJ;rw [List.foldl_append];rfl
theorem Rm {α:Type} {P:List α→Prop} (h0:P []) (h1:∀l x,P l→P (l++[x])):∀l,P l:=by
 intro l
 rw [← List.reverse_reverse l]
 induction l.reverse with
 | nil=>exact h0
 | cons x l ih=>rw [List.reverse_cons];exact h1 _ _ ih
theorem agQ (rows:List (List aj)):ELr (SJ key val kp rows)∧(SJ key val kp rows).length≤rows.length:=by
 induction rows using Rm with
 | h0=>exact ⟨aeM,Nat.le_refl _⟩
 | h1 l x ih=>
  rw [QI,List.length_append,List.length_singleton]
  split
  ·exact ⟨ahH _ _ ih.1,Nat.le_trans (aa5 _ _ _) (by omega)⟩
  ·exact ⟨ih.1,by omega⟩
variable {key val kp}
end
end Lv
namespace Lv
open Go Go.Proofs
variable [bJ]
end Lv
namespace Lv
open Go Go.Proofs
variable [bJ]
theorem aaK {t:aL} (r:Right t) (hc:GQ t.aV) {l:List aj} (hv:Iz l) (hf:Fit t.aV l):iF t l=some (jc t l,0):=by
 rw [FK t l hc hv r,if_neg (fun q=>q hf.to)];rfl
theorem Yx {Y Z:Type} {G:(Y→Option Z)→Y→Option Z} {r:Z} (N:Nat) (I:Nat→Y→Prop) (hstep:∀i y ρ,i < N→I i y→(∀y',I (i+1) y'→ρ y'=some r)→G ρ y=some r) (hend:∀y ρ,I N y→G ρ y=some r)
  (F:Nat) (hF:N+1≤F) (y:Y) (h0:I 0 y):LC G F y=some r:=by
 have key:∀d i F y,i+d=N→I i y→d+1≤F→LC G F y=some r:=by
  intro d
  induction d with
  | zero=>
   intro i F y h1 h2 h3
   obtain ⟨F,rfl⟩:∃F',F=F'+1:=⟨F - 1,by omega⟩
   obtain rfl:i=N:=by omega
   exact hend y _ h2
  | succ d ih=>
   intro i F y h1 h2 h3
   obtain ⟨F,rfl⟩:∃F',F=F'+1:=⟨F - 1,by omega⟩
   exact hstep i y _ (by omega) h2 fun y' hy=>ih (i+1) F y' (by omega) hy (by omega)
 exact key N 0 F y (by omega) h0 hF
theorem aa0 {Y W:Type} {B:Y→Option (Y⊕W)} (N:Nat) (I:Nat→Y→Prop) (Q:W→Prop) (hstep:∀i y,i < N→I i y→∃y',B y=some (.inl y')∧I (i+1) y') (hend:∀y,I N y→∃w,B y=some (.inr w)∧Q w) (y:Y) (h0:I 0 y):∃w,loop B y=some w∧Q w:=by
 have key:∀d i y,i+d=N→I i y→∃w,loop B y=some w∧Q w:=by
  intro d
  induction d with
  | zero=>
   intro i y h1 h2
   obtain rfl:i=N:=by omega
   obtain ⟨w,h3,h4⟩:=hend y h2
   exact ⟨w,fM h3,h4⟩
  | succ d ih=>
   intro i y h1 h2
   obtain ⟨y',h3,h4⟩:=hstep i y (by omega) h2
   obtain ⟨w,h5,h6⟩:=ih (i+1) y' (by omega) h4
   exact ⟨w,(gB h3).trans h5,h6⟩
 exact key N 0 y (by omega) h0
end Lv
namespace Lv
open Go
variable [bJ]
omit [bJ] in
theorem aa3 {R k n:Nat} (hR:R≤140737488355328) (hk:0 < k) (h:n*k≤R):n < 4611686018427387904:=by
 have h1:n*1≤n*k:=Nat.mul_le_mul_left _ hk
 omega
omit [bJ] in
theorem ahA {R k:Nat} (hR:R≤140737488355328) (hk:0 < k) {l:List aj} (h:l.length*k≤R∧∀y∈l,nV R y):Iz l:=by
 refine ⟨aa3 hR hk h.1,fun c hc=>?_⟩
 have:=(h.2 c hc).2.2.1
 omega
omit [bJ] in
theorem aec {R k j:Nat} (hR:R≤140737488355328) (hk:0 < k) {l:List (List aj)} (h:l.length*j≤R∧∀y∈l,y.length*k≤R∧∀v∈y,nV R v):∀y∈l,Iz y:=fun y hy=>ahA hR hk (h.2 y hy)
omit [bJ] in
theorem akX {R:Nat} (hR:R≤140737488355328) {t:aL} (h:Ej R t):OkT t:=by
 obtain ⟨h1,h2,h3,h4,h5,_⟩:=h
 have q2:=h2.1
 have q3:=h3.1
 have q4:=h4.1
 refine ⟨by omega,⟨by omega,fun c hc=>?_⟩,by omega,by omega,fun x hx=>?_⟩
 ·obtain ⟨k1,k2,k3,k4,k5,_⟩:=h2.2 c hc
  exact ⟨by omega,by have:=k5.2.2.1;omega⟩
 ·obtain ⟨k1,k2,k3,_⟩:=h4.2 x hx
  have q2:=k2.1
  have q3:=k3.1
  exact ⟨by omega,by omega,by omega⟩
end Lv
namespace Lv
open Go Go.Proofs
variable [bJ]
theorem Uh {α:Type} (l:List α) (i:Nat) (hi:i < l.length):l.take (i+1)=l.take i++[l[i]]:=by
 rw [List.take_add_one,List.getElem?_eq_getElem hi];rfl
theorem aaM (q:bG) (h:q.Order.length*16≤140737488351232):kS q=some (gI q.Order):=by
 unfold kS
 refine QS (w:=gI q.Order) (J7 (fun i=>(gI (q.Order.take i),(i:Int))) q.Order.length (fun i hi=>?_) ?_ rfl) rfl
 ·show (bif _ then _ else _)=_
  rw [aD (by omega)]
  refine bo (cu hi) ?_
  refine gt (by unfold gI;rw [List.length_map,List.length_take,List.length_singleton,dL];omega) ?_
  rw [bX (by omega),Uh _ i hi]
  unfold gI
  rw [List.map_append];rfl
 ·show (bif _ then _ else _)=_
  rw [aP (by omega),List.take_length]
def R2 (a b:bQ):Prop:=a.Span=b.Span∧a.Fixed=b.Fixed∧(a.Covers=true→b.Covers=true)∧b.iW≤a.iW
theorem Oj {Y W:Type} {B:Y→Option (Y⊕W)} (I:Y→Prop) (Q:W→Prop) (μ:Y→Nat) (h:∀y,I y→(∃y',B y=some (.inl y')∧I y'∧μ y' < μ y)∨∃w,B y=some (.inr w)∧Q w):∀y,I y→∃w,loop B y=some w∧Q w:=by
 have key:∀(n:Nat) (y:Y),μ y < n→I y→∃w,loop B y=some w∧Q w:=by
  intro n
  induction n with
  | zero=>intro y h;omega
  | succ n ih=>
   intro y hn hy
   rcases h y hy with ⟨y',e,i',m'⟩ | ⟨w,e,q⟩
   ·rw [gB e]
    exact ih y' (by omega) i'
   ·exact ⟨w,fM e,q⟩
 exact fun y hy=>key (μ y+1) y (by omega) hy
theorem asJ {Y W:Type} {B:Y→Option (Y⊕W)} {y0:Y} (I:Y→Prop) (T:W→Prop) (μ:Y→Nat) (h:∀y,I y→(∃y',B y=some (.inl y')∧I y'∧μ y' < μ y)∨∃w,B y=some (.inr w)∧T w) (i:I y0):
  ∃r,Option.bind (loop B y0) (fun e=>some e)=some r∧T r:=by
 obtain ⟨w,hw,q⟩:=Oj I T μ h y0 i
 exact ⟨w,by rw [hw];rfl,q⟩
theorem ahG {Y W R:Type} {B:Y→Option (Y⊕W)} {y0:Y} {K:W→Option R} {T:R→Prop} (I:Y→Prop) (Q:W→Prop) (μ:Y→Nat) (h:∀y,I y→(∃y',B y=some (.inl y')∧I y'∧μ y' < μ y)∨∃w,B y=some (.inr w)∧Q w) (i:I y0) (k:∀w,Q w→∃r,K w=some r∧T r):
  ∃r,Option.bind (Option.bind (loop B y0) (fun e=>some e)) K=some r∧T r:=by
 obtain ⟨w,hw,q⟩:=Oj I Q μ h y0 i
 obtain ⟨r,hr,t⟩:=k w q
 exact ⟨r,by rw [hw];exact hr,t⟩
omit [bJ] in
def CLt (c:Int→Int) (x y:Int):Prop:=c x < c y∨c x=c y∧x < y
instance (c:Int→Int) (x y:Int):Decidable (CLt c x y):=inferInstanceAs (Decidable (_∨_))
theorem akV {j:Nat} (h:j < 1000000000):bL (Int.tdiv (bL ((j:Int) - 1)) 2)=(((j - 1) / 2:Nat):Int):=by
 rw [gL (n:=(j:Int) - 1) (by omega) (by omega)]
 rcases Nat.eq_zero_or_pos j with rfl | h0
 ·decide
 ·rw [Int.tdiv_eq_ediv_of_nonneg (by omega),gL (by omega) (by omega)]
  omega
theorem atC {i:Nat} (h:i < 1000000000):bL (bL ((2:Int)*(i:Int))+1)=((2*i+1:Nat):Int)∧bL (((2*i+1:Nat):Int)+1)=((2*i+2:Nat):Int):=by
 rw [gL (n:=(2:Int)*(i:Int)) (by omega) (by omega)]
 refine ⟨?_,?_⟩
 ·rw [gL (by omega) (by omega)];omega
 ·rw [gL (by omega) (by omega)];omega
end Lv
namespace Lv
open Go Go.Proofs
variable [bJ]
variable [bJ]
end Lv
namespace Lv
open Go Go.Proofs
variable [bJ]
theorem atA {p:Prop} [Decidable p] {q:Prop} [Decidable q] (h:p↔q):some (decide p)=some (decide q):=congrArg some (decide_eq_decide.2 h)
def BL (n:Nat) (c:Int):Bool:=decide (c < 0∨c≥n)
theorem I8 (t:aL) (l:List Int) (h:l.length≤1000):dM l t=some (l.any (BL t.aV.length)):=by
 unfold dM fI
 refine bo (lqX l (BL t.aV.length) (fun i hi=>?_) ?_) (by rw [Sy])
 ·show (bif _ then _ else _)=_
  rw [aD (by omega),cu hi,av]
  refine bo (a:=BL t.aV.length l[i]) ?_ ?_
  ·unfold vE
   refine bo (a:=BL t.aV.length l[i]) ?_ rfl
   unfold BL
   by_cases q:l[i] < 0
   ·rw [aD q];simp [q]
   ·rw [aP q];simp [q]
  ·rw [bX (by omega)]
   cases BL t.aV.length l[i] <;> rfl
 ·show (bif _ then _ else _)=_
  rw [aP (by omega)]
theorem CB:∀{a l:List Int},a.Nodup→(∀x∈a,x∈l)→l.length≤a.length→l.Nodup∧∀x∈l,x∈a
 | [],l,_,_,hl=>by
  have:l=[]:=List.length_eq_zero_iff.1 (by simpa using hl)
  subst this;simp
 | x::a,l,hn,hs,hl=>by
  have hx:x∈l:=hs x (by simp)
  have hp:=List.perm_cons_erase hx
  obtain ⟨n1,n2⟩:=List.nodup_cons.1 hn
  have hle:(l.erase x).length≤a.length:=by
   have:=hp.length_eq
   simp only [List.length_cons] at this hl
   omega
  obtain ⟨k1,k2⟩:=CB n2 (fun y hy=>(List.mem_erase_of_ne (fun e=>n1 (by rw [← e];exact hy))).2 (hs y (by simp [hy]))) hle
  refine ⟨hp.nodup_iff.2 (List.nodup_cons.2 ⟨fun h=>n1 (k2 x h),k1⟩),fun y hy=>?_⟩
  rcases List.mem_cons.1 (hp.mem_iff.1 hy) with e | e
  ·simp [e]
  ·exact List.mem_cons_of_mem _ (k2 y e)
theorem UA (l:List Int):(F7 l).length < l.length↔¬l.Nodup:=by
 obtain ⟨o1,o2⟩:=aeb l
 have on:(F7 l).Nodup:=o1.imp fun h=>by omega
 constructor
 ·intro h hn
  have:=(CB on (fun x hx=>(o2 x).1 hx) (by
   have:=(CB (a:=l) (l:=F7 l) hn (fun x hx=>(o2 x).2 hx) (by omega)).1
   exact (List.perm_ext_iff_of_nodup hn on |>.2 fun x=>(o2 x).symm).length_eq▸Nat.le_refl _)).1
  have e:=(List.perm_ext_iff_of_nodup hn on |>.2 fun x=>(o2 x).symm).length_eq
  omega
 ·intro h
  rcases Nat.lt_or_ge (F7 l).length l.length with q | q
  ·exact q
  ·exact absurd (CB on (fun x hx=>(o2 x).1 hx) q).1 h
def pcS (t:aL) (q:bG):Int:=
 if yu t.aV q.Pred≠0 then yu t.aV q.Pred
 else if q.aV.length > 24∨q.Order.length > 4∨q.Limit < -1 then 1
 else if q.aV.any (BL t.aV.length)=true∨(gI q.Order).any (BL t.aV.length)=true∨¬(gI q.Order).Nodup then 1 else 0
theorem aan (a b:Nat) (c:Int):(bif (decide ((a:Int) > (24:Int))) then some true else bif (decide ((b:Int) > (4:Int))) then some true else some (decide (c < (-1:Int))))=some (decide (a > 24∨b > 4∨c < -1)):=by
 by_cases g1:a > 24
 ·rw [aD (by omega),decide_eq_true (.inl g1)]
 rw [aP (by omega)]
 by_cases g2:b > 4
 ·rw [aD (by omega),decide_eq_true (.inr (.inl g2))]
 rw [aP (by omega)]
 exact atA ⟨fun h=>.inr (.inr h),fun h=>by omega⟩
theorem Iy (t:aL) (q:bG) (hc:t.aV.length < 4611686018427387904) (hp:∀n∈q.Pred,OkN n) (ho:q.Order.length*16≤140737488351232):sK t q=some (pcS t q):=by
 unfold sK pcS
 refine bo (acV t.aV q.Pred hc hp) ?_
 have hol:(gI q.Order).length=q.Order.length:=by simp [gI]
 by_cases h0:yu t.aV q.Pred≠0
 ·rw [if_pos h0];exact bt (by simpa using h0) rfl
 rw [if_neg h0]
 refine bf (by simpa using h0) ?_
 refine bo (aaM q ho) ?_
 refine bo (aan _ _ _) ?_
 rw [hol]
 by_cases g:q.aV.length > 24∨q.Order.length > 4∨q.Limit < -1
 ·rw [if_pos g,aD g]
 rw [if_neg g,aP g]
 refine bo (a:=q.aV.any (BL t.aV.length) || (gI q.Order).any (BL t.aV.length)) ?_ ?_
 ·refine bo (I8 t q.aV (by omega)) ?_
  cases q.aV.any (BL t.aV.length) with
  | true=>rfl
  | false=>
   refine bf rfl ?_
   exact bo (I8 t (gI q.Order) (by omega)) rfl
 ·cases k1:q.aV.any (BL t.aV.length) with
  | true=>rw [if_pos (.inl rfl)];rfl
  | false=>
   cases k2:(gI q.Order).any (BL t.aV.length) with
   | true=>rw [if_pos (.inr (.inl rfl))];rfl
   | false=>
    refine bf rfl ?_
    refine bo (a:=(gI q.Order).mergeSort fun x y=>decide (x≤y)) (by unfold P6;rw [if_pos (by omega)]) ?_
    refine bo (a:=F7 (gI q.Order)) (by
     unfold CO F7
     rw [if_pos ⟨rfl,by rw [List.length_mergeSort,hol],by rw [List.length_mergeSort];omega⟩]) ?_
    have hs:=UA (gI q.Order)
    rw [hol] at hs
    by_cases nd:(gI q.Order).Nodup
    ·rw [if_neg (by simp [nd]),aP (by intro h;exact hs.1 (by omega) nd)]
    ·rw [if_pos (.inr (.inr nd)),aD (by have:=hs.2 nd;omega)]
end Lv
namespace Lv
open Go Go.Proofs
variable [bJ]
variable [bJ]
variable [bJ]
end Lv
namespace Lv
open Go Go.Proofs
variable [bJ]
structure SWO {α:Type} (lt:α→α→Bool):Prop where
 irr:∀x,lt x x=false
 tr:∀x y z,lt x y=true→lt y z=true→lt x z=true
 nt:∀x y z,lt x y=false→lt y z=false→lt x z=false
section
variable {α:Type} {lt:α→α→Bool}
theorem SWO.as (h:SWO lt) {x y:α} (k:lt x y=true):lt y x=false:=by
 cases e:lt y x with
 | false=>rfl
 | true=>have:=h.tr _ _ _ k e;rw [h.irr] at this;cases this
theorem SWO.ft (h:SWO lt) {x y z:α} (k:lt x z=false) (l:lt y z=true):lt x y=false:=by
 cases e:lt x y with
 | false=>rfl
 | true=>rw [h.tr _ _ _ e l] at k;cases k
def wZ (lt:α→α→Bool) (a:Nat→α) (n:Nat):Prop:=∀k,0 < k→k < n→lt (a k) (a ((k - 1) / 2))=false
theorem YB (hs:SWO lt) {a:Nat→α} {n:Nat} (h:wZ lt a n):∀k,k < n→lt (a k) (a 0)=false:=by
 intro k
 induction k using Nat.strongRecOn with
 | ind k ih=>
  intro hk
  rcases Nat.eq_zero_or_pos k with rfl | k0
  ·exact hs.irr _
  ·exact hs.nt _ _ _ (h k k0 hk) (ih ((k - 1) / 2) (by omega) (by omega))
theorem aae (hs:SWO lt) {a a':Nat→α} {n j i:Nat} (hi:i=(j - 1) / 2) (hj:0 < j) (e1:a' i=a j) (e2:a' j=a i) (e3:∀k,k≠j→k≠i→a' k=a k) (hlt:lt (a j) (a i)=true)
  (H1:∀k,0 < k→k < n→k≠j→lt (a k) (a ((k - 1) / 2))=false) (H2:∀k,0 < k→k < n→(k - 1) / 2=j→lt (a k) (a i)=false):
  (∀k,0 < k→k < n→k≠i→lt (a' k) (a' ((k - 1) / 2))=false)∧(∀k,0 < k→k < n→(k - 1) / 2=i→∀g,g=(i - 1) / 2→0 < i→lt (a' k) (a' g)=false):=by
 refine ⟨fun k k0 kn ki=>?_,fun k k0 kn kp g hg i0=>?_⟩
 ·by_cases kj:k=j
  ·subst kj
   rw [← hi,e1,e2]
   exact hs.as hlt
  ·rw [e3 k kj ki]
   generalize hq:(k - 1) / 2=q
   by_cases qj:q=j
   ·subst qj
    rw [e2]
    exact H2 k k0 kn hq
   ·by_cases qi:q=i
    ·subst qi
     rw [e1]
     have:=H1 k k0 kn kj
     rw [hq] at this
     exact hs.ft this hlt
    ·rw [e3 q qj qi,← hq]
     exact H1 k k0 kn kj
 ·rw [e3 g (by omega) (by omega)]
  by_cases kj:k=j
  ·subst kj
   rw [e2,hg]
   exact H1 i i0 (by omega) (by omega)
  ·rw [e3 k kj (by omega)]
   have h1:=H1 k k0 kn kj
   have h2:=H1 i i0 (by omega) (by omega)
   rw [kp] at h1
   rw [← hg] at h2
   exact hs.nt _ _ _ h1 h2
theorem U9 (hs:SWO lt) {a a':Nat→α} {n j i:Nat} (hi:(j - 1) / 2=i) (hj:0 < j) (hjn:j < n) (e1:a' i=a j) (e2:a' j=a i) (e3:∀k,k≠j→k≠i→a' k=a k) (hlt:lt (a j) (a i)=true)
  (hm:∀k,0 < k→k < n→(k - 1) / 2=i→lt (a k) (a j)=false)
  (D1:∀k,0 < k→k < n→(k - 1) / 2≠i→lt (a k) (a ((k - 1) / 2))=false) (D2:∀k,0 < k→k < n→(k - 1) / 2=i→0 < i→lt (a k) (a ((i - 1) / 2))=false):
  (∀k,0 < k→k < n→(k - 1) / 2≠j→lt (a' k) (a' ((k - 1) / 2))=false)∧(∀k,0 < k→k < n→(k - 1) / 2=j→0 < j→lt (a' k) (a' ((j - 1) / 2))=false):=by
 refine ⟨fun k k0 kn kp=>?_,fun k k0 kn kp _=>?_⟩
 ·by_cases pi:(k - 1) / 2=i
  ·rw [pi,e1]
   by_cases kj:k=j
   ·subst kj
    rw [e2]
    exact hs.as hlt
   ·rw [e3 k kj (by omega)]
    exact hm k k0 kn pi
  ·rw [e3 _ kp pi]
   by_cases ki:k=i
   ·subst ki
    rw [e1]
    exact D2 j hj hjn hi k0
   ·rw [e3 k (by omega) ki]
    exact D1 k k0 kn pi
 ·rw [hi,e1,e3 k (by omega) (by omega)]
  have:=D1 k k0 kn (by omega)
  rw [kp] at this
  exact this
variable [Inhabited α]
def ga (z:List α) (k:Nat):α:=z.getD k default
theorem Cb {z:List α} {k:Nat} (h:k < z.length):ga z k=z[k]:=by unfold ga;simp [List.getD_eq_getElem?_getD,h]
theorem UR {z:List α} {k:Nat} (h:k < z.length):ga z k∈z:=by rw [Cb h];exact List.getElem_mem h
def NS (z:List α) (i j:Nat):List α:=(z.set i (ga z j)).set j (ga z i)
theorem vC (z:List α) (i j:Nat):(NS z i j).length=z.length:=by unfold NS;simp
theorem Ui {z:List α} {i j:Nat} (hi:i < z.length) (hj:j < z.length):ga (NS z i j) i=ga z j∧ga (NS z i j) j=ga z i∧∀k,k≠j→k≠i→ga (NS z i j) k=ga z k:=by
 refine ⟨?_,?_,fun k kj ki=>?_⟩
 ·rw [Cb (by rw [vC];exact hi)]
  unfold NS
  rw [List.getElem_set]
  split
  ·rename_i e;subst e;rfl
  ·rw [List.getElem_set_self]
 ·rw [Cb (by rw [vC];exact hj)]
  unfold NS
  rw [List.getElem_set_self]
 ·unfold NS
  rw [show ∀l:List α,ga l k=l[k]?.getD default from fun l=>by unfold ga;rw [List.getD_eq_getElem?_getD]]
  rw [show ga z k=z[k]?.getD default by unfold ga;rw [List.getD_eq_getElem?_getD]]
  rw [List.getElem?_set_ne (fun e=>kj e.symm),List.getElem?_set_ne (fun e=>ki e.symm)]
theorem KH {z:List α} {i j n:Nat} (hi:i < n) (hj:j < n) (hn:n≤z.length):((NS z i j).take n).Perm (z.take n):=by
 have h1:i < (z.take n).length:=by rw [List.length_take];omega
 have h2:j < (z.take n).length:=by rw [List.length_take];omega
 have:=List.set_set_perm h1 h2
 unfold NS
 rw [List.take_set,List.take_set,Cb (by omega),Cb (by omega)]
 rw [List.getElem_take,List.getElem_take] at this
 exact this
theorem FH {z:List α} {i j:Nat} (hi:i < z.length) (hj:j < z.length):(NS z i j).Perm z:=by
 have:=KH (z:=z) hi hj (Nat.le_refl _)
 rw [List.take_of_length_le (by rw [vC];omega),List.take_of_length_le (Nat.le_refl _)] at this
 exact this
theorem Oq {z:List α} {n:Nat} {i:Nat} (hi:i < n) (hn:n≤z.length):mP z 0 n (i:Int)=some (ga z i):=by
 rw [Kc hi (by omega),Cb (by omega)]
 simp
end
def zK:List aX→aG→aG→Bool
 | [],a,b=>o8 a.primary b.primary
 | p::ps,a,b=>if jg (uO a.row p.Col) (uO b.row p.Col)=0 then zK ps a b else (decide (jg (uO a.row p.Col) (uO b.row p.Col) < 0) != p.Down)
theorem YI (a:aj):jg a a=0:=(Im a a).2 rfl
theorem atB (a b c:aj):jg b a = - jg a b∧jg c b = - jg b c∧(jg a b=0→jg a c=jg b c)∧(jg b c=0→jg a c=jg a b)∧(jg a b < 0→jg b c < 0→jg a c < 0)∧(0 < jg a b→0 < jg b c→0 < jg a c):=by
 have t1:=tF a b c
 have t2:=tF c b a
 have t3:=tF b c a
 have t4:=tF c a b
 have t5:=tF b a c
 have t6:=tF a c b
 have e1:=Io a b
 have e2:=Io b c
 have e3:=Io a c
 have z1:jg a b=0→jg a c=jg b c:=fun h=>by rw [(Im a b).1 h]
 have z2:jg b c=0→jg a c=jg a b:=fun h=>by rw [(Im b c).1 h]
 refine ⟨e1,e2,z1,z2,fun h k=>?_,fun h k=>?_⟩ <;> omega
theorem O9:∀(o:List aX),SWO (zK o)
 | []=>⟨fun x=>zJ _,fun x y z h k=>vO h k,fun x y z h k=>by
   show o8 x.primary z.primary=false
   have h':o8 x.primary y.primary=false:=h
   have k':o8 y.primary z.primary=false:=k
   rcases tri x.primary z.primary with q | q | q
   ·rcases tri x.primary y.primary with p | p | p
    ·rw [h'] at p;cases p
    ·rw [p] at q;rw [k'] at q;cases q
    ·rw [vO p q] at k';cases k'
   ·rw [q];exact zJ _
   ·exact J6 q⟩
 | p ::ps=>by
  have ih:=O9 ps
  refine ⟨fun x=>?_,fun x y z h k=>?_,fun x y z h k=>?_⟩
  ·unfold zK;rw [if_pos (YI _)];exact ih.irr x
  all_goals
   unfold zK at h k ⊢
   obtain ⟨c1,c2,c3,c4,c5,c6⟩:=atB (uO x.row p.Col) (uO y.row p.Col) (uO z.row p.Col)
   by_cases a1:jg (uO x.row p.Col) (uO y.row p.Col)=0
   ·rw [c3 a1]
    rw [if_pos a1] at h
    by_cases a2:jg (uO y.row p.Col) (uO z.row p.Col)=0
    ·rw [if_pos a2] at k ⊢;first | exact ih.tr x y z h k | exact ih.nt x y z h k
    ·rw [if_neg a2] at k ⊢;exact k
   ·rw [if_neg a1] at h
    by_cases a2:jg (uO y.row p.Col) (uO z.row p.Col)=0
    ·rw [c4 a2,if_neg a1];exact h
    ·rw [if_neg a2] at k
     cases hd:p.Down with
     | false=>
      rw [hd] at h k
      simp at h k
      have:jg (uO x.row p.Col) (uO z.row p.Col)≠0∧(jg (uO x.row p.Col) (uO y.row p.Col) < 0↔jg (uO x.row p.Col) (uO z.row p.Col) < 0):=by
       rcases Int.lt_trichotomy (jg (uO x.row p.Col) (uO y.row p.Col)) 0 with q | q | q <;> rcases Int.lt_trichotomy (jg (uO y.row p.Col) (uO z.row p.Col)) 0 with r | r | r <;> first | omega | (have:=c5 q r;omega) | (have:=c6 q r;omega)
      rw [if_neg this.1]
      simp
      omega
     | true=>
      rw [hd] at h k
      simp at h k
      have:jg (uO x.row p.Col) (uO z.row p.Col)≠0∧(jg (uO x.row p.Col) (uO y.row p.Col) < 0↔jg (uO x.row p.Col) (uO z.row p.Col) < 0):=by
       rcases Int.lt_trichotomy (jg (uO x.row p.Col) (uO y.row p.Col)) 0 with q | q | q <;> rcases Int.lt_trichotomy (jg (uO y.row p.Col) (uO z.row p.Col)) 0 with r | r | r <;> first | omega | (have:=c5 q r;omega) | (have:=c6 q r;omega)
      rw [if_neg this.1]
      simp
      omega
def OL (o:List aX) (z:List aG):Prop:=∀x∈z,∀p∈o,0≤p.Col∧p.Col < x.row.length
theorem OL.perm {o:List aX} {z z':List aG} (h:OL o z) (p:z'.Perm z):OL o z':=fun x hx=>h x (p.mem_iff.1 hx)
theorem ak3 (o:List aX) (a b:aG) (hl:o.length < 4611686018427387904) (ha:∀p∈o,0≤p.Col∧p.Col < a.row.length) (hb:∀p∈o,0≤p.Col∧p.Col < b.row.length):
    fP (Y :=Unit) (E:=Bool)
      (Option.bind (α:=Unit⊕Bool)
        (loop (Y:=Int) (W:=Unit⊕Bool) (fun iR=>
          bif (decide (iR < (o.length:Int))) then
            Option.bind (bP o iR) fun lQ=>
            Option.bind (bP a.row lQ.Col) fun Jr=>
            Option.bind (bP b.row lQ.Col) fun v127=>
            Option.bind (iY Jr v127) fun wJ=>
            bif (wJ != (0:Int)) then
              some (Sum.inr (Sum.inr ((decide (wJ < (0:Int))) != lQ.Down)))
            else
              some (Sum.inl (bL (iR+(1:Int))))
          else
            some (Sum.inr (Sum.inl ()))) (0:Int))
        (Sum.elim (fun e=>some (Sum.inl e)) (fun e=>some (Sum.inr e))))
      (fun _=>some (o8 a.primary b.primary)) (fun e=>some e)=some (zK o a b):=by
  have key:∀(l:List aX) (i:Nat),o.drop i=l→(loop (Y:=Int) (W:=Unit⊕Bool) (fun iR=>
          bif (decide (iR < (o.length:Int))) then
            Option.bind (bP o iR) fun lQ=>
            Option.bind (bP a.row lQ.Col) fun Jr=>
            Option.bind (bP b.row lQ.Col) fun v127=>
            Option.bind (iY Jr v127) fun wJ=>
            bif (wJ != (0:Int)) then
              some (Sum.inr (Sum.inr ((decide (wJ < (0:Int))) != lQ.Down)))
            else
              some (Sum.inl (bL (iR+(1:Int))))
          else
            some (Sum.inr (Sum.inl ()))) (i:Int)=some (.inr (zK l a b))∨(loop (Y:=Int) (W:=Unit⊕Bool) (fun iR=>
          bif (decide (iR < (o.length:Int))) then
            Option.bind (bP o iR) fun lQ=>
            Option.bind (bP a.row lQ.Col) fun Jr=>
            Option.bind (bP b.row lQ.Col) fun v127=>
            Option.bind (iY Jr v127) fun wJ=>
            bif (wJ != (0:Int)) then
              some (Sum.inr (Sum.inr ((decide (wJ < (0:Int))) != lQ.Down)))
            else
              some (Sum.inl (bL (iR+(1:Int))))
          else
            some (Sum.inr (Sum.inl ()))) (i:Int)=some (.inl ())∧zK l a b=o8 a.primary b.primary)):=by
    intro l
    induction l with
    | nil=>
      intro i hi
      right
      refine ⟨fM ?_,rfl⟩
      have:o.length≤i:=List.drop_eq_nil_iff.1 hi
      rw [aP (by omega)]
    | cons p ps ih=>
      intro i hi
      have hlt:i < o.length:=by
        rcases Nat.lt_or_ge i o.length with q | q
        · exact q
        · rw [List.drop_eq_nil_of_le q] at hi;cases hi
      have hp:o[i]=p:=by rw [List.drop_eq_getElem_cons hlt] at hi;exact (List.cons.inj hi).1
      have hps:o.drop (i+1)=ps:=by rw [List.drop_eq_getElem_cons hlt] at hi;exact (List.cons.inj hi).2
      have hm:p∈o:=hp▸List.getElem_mem hlt
      by_cases c:jg (uO a.row p.Col) (uO b.row p.Col)=0
      · have e:zK (p::ps) a b=zK ps a b:=if_pos c
        rw [e]
        rw [gB (y':=((i+1:Nat):Int))]
        · exact ih (i+1) hps
        · rw [aD (by omega),cu hlt]
          refine bo rfl ?_
          rw [hp]
          refine bo (zi (ha p hm)) (bo (zi (hb p hm)) (bo (zf _ _) ?_))
          rw [c]
          show some (Sum.inl _)=_
          rw [bX (by omega)]
      · left
        refine fM ?_
        rw [aD (by omega),cu hlt]
        refine bo rfl ?_
        rw [hp]
        refine bo (zi (ha p hm)) (bo (zi (hb p hm)) (bo (zf _ _) ?_))
        refine bt (by simpa using c) ?_
        rw [show zK (p::ps) a b=_ from if_neg c]
  rcases key o 0 rfl with h | ⟨h,h2⟩
  · exact beE (bo h rfl) rfl
  · refine beY (bo h rfl) ?_
    rw [h2]
theorem Vr {o:List aX} {z:List aG} {n i j:Nat} (hl:o.length < 4611686018427387904) (hn:n≤z.length) (hz:OL o z) (hi:i < n) (hj:j < n):
  fC o z 0 n (i:Int) (j:Int)=some (zK o (ga z i) (ga z j)):=by
 unfold fC
 refine bo (Oq hi hn) (bo (Oq hj hn) ?_)
 exact ak3 o _ _ hl (hz _ (UR (by omega))) (hz _ (UR (by omega)))
theorem Vo {o:List aX} {z:List aG} {n i j:Nat} (hn:n≤z.length) (hi:i < n) (hj:j < n):
  fB o z 0 n (i:Int) (j:Int)=some (NS z i j):=by
 unfold fB
 refine bo (Oq hj hn) (bo (Oq hi hn) (bo (Oq hi hn) (bo (Kc hj (by rw [List.length_set];omega)) ?_)))
 unfold NS
 simp
section
variable {t:aL} {q:bG} {pl:bQ} {lk:List bO} {o:List aX} {rd:ay}
theorem aqx {z:List aG} {n j:Nat} (ho:o.length < 4611686018427387904) (hz:OL o z) (hn:z.length=n) (hs:n < 1000000000) (hj:j < n)
  (H1:∀k,0 < k→k < n→k≠j→zK o (ga z k) (ga z ((k - 1) / 2))=false) (H2:∀k,0 < k→k < n→(k - 1) / 2=j→0 < j→zK o (ga z k) (ga z ((j - 1) / 2))=false):
  ∃z',fV (j:Int) t q pl lk o z rd=some z'∧z'.length=n∧z'.Perm z∧wZ (zK o) (ga z') n:=by
 unfold fV
 exact asJ
   (fun (y:Int×List aG)=>∃j:Nat,y.1=j∧j < n∧y.2.length=n∧y.2.Perm z∧(∀k,0 < k→k < n→k≠j→zK o (ga y.2 k) (ga y.2 ((k - 1) / 2))=false)∧(∀k,0 < k→k < n→(k - 1) / 2=j→0 < j→zK o (ga y.2 k) (ga y.2 ((j - 1) / 2))=false))
   (fun (w:List aG)=>w.length=n∧w.Perm z∧wZ (zK o) (ga w) n)
   (fun (y:Int×List aG)=>y.1.toNat)
   (by
    rintro ⟨_,y⟩ ⟨j,rfl,hj,hl,hp,h1,h2⟩
    show (∃y',Option.bind _ _=_∧_)∨∃w,Option.bind _ _=_∧_
    have hzy:OL o y:=hz.perm hp
    replace hl:y.length=n:=hl
    simp only [akV (show j < 1000000000 by omega),hn]
    rcases Nat.eq_zero_or_pos j with rfl | j0
    ·exact .inr ⟨y,rfl,hl,hp,fun k k0 kn=>h1 k k0 kn (by omega)⟩
    ·have hne:((((j - 1) / 2:Nat):Int)==(j:Int))=false:=by simp;omega
     rw [hne]
     simp only [Bool.cond_false]
     rw [Vr ho (by omega) hzy hj (by omega)]
     cases lt:zK o (ga y j) (ga y ((j - 1) / 2)) with
     | true=>
      left
      obtain ⟨e1,e2,e3⟩:=Ui (z:=y) (i:=(j - 1) / 2) (j:=j) (by omega) (by omega)
      obtain ⟨s1,s2⟩:=aae (O9 o) (n:=n) rfl j0 e1 e2 e3 lt h1 (fun k k0 kn kp=>h2 k k0 kn kp j0)
      refine ⟨((((j - 1) / 2:Nat):Int),NS y ((j - 1) / 2) j),?_,⟨(j - 1) / 2,rfl,by omega,by rw [vC];exact hl,(FH (by omega) (by omega)).trans hp,s1,fun k k0 kn kp i0=>s2 k k0 kn kp _ rfl i0⟩,?_⟩
      ·show Option.bind _ _=_
       rw [Vo (by omega) (by omega) hj];rfl
      ·show (((j - 1) / 2:Nat):Int).toNat < (j:Int).toNat
       omega
     | false=>
      right
      refine ⟨y,rfl,hl,hp,fun k k0 kn=>?_⟩
      by_cases kj:k=j
      ·subst kj;exact lt
      ·exact h1 k k0 kn kj)
   ⟨j,rfl,hj,hn,List.Perm.refl _,H1,H2⟩
theorem ai4 {z:List aG} {n m:Nat} (ho:o.length < 4611686018427387904) (hz:OL o z) (hm:m≤z.length) (hs:m < 1000000000) (hn:n≤m)
    (D1:∀k,0 < k→k < n→(k - 1) / 2≠0→zK o (ga z k) (ga z ((k - 1) / 2))=false):
    ∃b z',eO 0 (n:Int) t q pl lk o z 0 m rd=some (b,z')∧z'.length=z.length∧z'.Perm z∧(z'.take n).Perm (z.take n)∧(∀k,n≤k→ga z' k=ga z k)∧wZ (zK o) (ga z') n:=by
  have main : ∃r:Bool×List aG,eO 0 (n:Int) t q pl lk o z 0 m rd=some r∧(r.2.length=z.length∧r.2.Perm z∧(r.2.take n).Perm (z.take n)∧(∀k,n≤k→ga r.2 k=ga z k)∧wZ (zK o) (ga r.2) n):=by
   unfold eO
   exact ahG
      (fun (y:Int×List aG)=>∃i:Nat,y.1=i∧(i < n∨n=0∧i=0)∧y.2.length=z.length∧y.2.Perm z∧(y.2.take n).Perm (z.take n)∧(∀k,n≤k→ga y.2 k=ga z k)∧(∀k,0 < k→k < n→(k - 1) / 2≠i→zK o (ga y.2 k) (ga y.2 ((k - 1) / 2))=false)∧(∀k,0 < k→k < n→(k - 1) / 2=i→0 < i→zK o (ga y.2 k) (ga y.2 ((i - 1) / 2))=false))
      (fun (w:Int×List aG)=>w.2.length=z.length∧w.2.Perm z∧(w.2.take n).Perm (z.take n)∧(∀k,n≤k→ga w.2 k=ga z k)∧wZ (zK o) (ga w.2) n)
      (fun (y:Int×List aG)=>n - y.1.toNat)
      (by
        rintro ⟨_,y⟩ ⟨i,rfl,hi,hl,hp,ht,hk,d1,d2⟩
        show (∃y',Option.bind _ _=_∧_)∨∃w,Option.bind _ _=_∧_
        replace hl:y.length=z.length:=hl
        have hzy:OL o y:=hz.perm hp
        obtain ⟨w1,w2⟩:=atC (show i < 1000000000 by omega)
        simp only [w1,w2]
        by_cases g:2*i+1 < n
        rotate_left
        · right
          refine ⟨((i:Int),y),?_,hl,hp,ht,hk,fun k k0 kn=>d1 k k0 kn (by omega)⟩
          rw [aD (by omega)];rfl
        have hin:i < n:=by omega
        rw [aP (by omega)]
        rw [decide_eq_false (show ¬(((2*i+1:Nat)):Int) < 0 by omega)]
        simp only [Option.bind_some,Bool.cond_false]
        have hj:∃j:Nat,(j=2*i+1∨j=2*i+2)∧j < n∧(∀k,0 < k→k < n→(k - 1) / 2=i→zK o (ga y k) (ga y j)=false)∧(Option.bind (α:=Bool) (bif (decide (((2*i+2:Nat):Int) < (n:Int))) then Option.bind (fC o y 0 m ((2*i+2:Nat):Int) ((2*i+1:Nat):Int)) fun z3=>some z3 else some false) fun z4=>bif z4 then some ((2*i+2:Nat):Int) else some ((2*i+1:Nat):Int))=some (j:Int):=by
          by_cases g2:2*i+2 < n
          · rw [aD (by omega),Vr ho (by omega) hzy (by omega) (by omega)]
            cases lt:zK o (ga y (2*i+2)) (ga y (2*i+1)) with
            | true=>
              refine ⟨2*i+2,.inr rfl,g2,fun k k0 kn kp=>?_,rfl⟩
              rcases (show k=2*i+1∨k=2*i+2 by omega) with rfl | rfl
              · exact (O9 o).as lt
              · exact (O9 o).irr _
            | false=>
              refine ⟨2*i+1,.inl rfl,by omega,fun k k0 kn kp=>?_,rfl⟩
              rcases (show k=2*i+1∨k=2*i+2 by omega) with rfl | rfl
              · exact (O9 o).irr _
              · exact lt
          · rw [aP (by omega)]
            refine ⟨2*i+1,.inl rfl,by omega,fun k k0 kn kp=>?_,rfl⟩
            obtain rfl:k=2*i+1:=by omega
            exact (O9 o).irr _
        obtain ⟨j,hj1,hjn,hmn,hj2⟩:=hj
        rw [hj2]
        simp only [Option.bind_some]
        rw [Vr ho (by omega) hzy (by omega) (by omega)]
        cases lt:zK o (ga y j) (ga y i) with
        | true=>
          left
          obtain ⟨e1,e2,e3⟩:=Ui (z:=y) (i:=i) (j:=j) (by omega) (by omega)
          obtain ⟨s1,s2⟩:=U9 (O9 o) (n:=n) (by omega:(j - 1) / 2=i) (by omega) hjn e1 e2 e3 lt hmn d1 d2
          refine ⟨((j:Int),NS y i j),?_,⟨j,rfl,.inl hjn,by rw [vC];exact hl,(FH (by omega) (by omega)).trans hp,(KH (by omega) (by omega) (by omega)).trans ht,?_,s1,s2⟩,?_⟩
          · show Option.bind _ _=_
            rw [Vo (by omega) (by omega) (by omega)];rfl
          · intro k kn
            rw [show ga (NS y i j) k=ga y k from e3 k (by omega) (by omega)]
            exact hk k kn
          · show n - (j:Int).toNat < n - (i:Int).toNat
            omega
        | false=>
          right
          refine ⟨((i:Int),y),rfl,hl,hp,ht,hk,fun k k0 kn=>?_⟩
          by_cases kp:(k - 1) / 2=i
          · show zK o (ga y k) (ga y ((k - 1) / 2))=false
            rw [kp]
            exact (O9 o).nt _ _ _ (hmn k k0 kn kp) lt
          · exact d1 k k0 kn kp)
      ⟨0,rfl,by omega,rfl,List.Perm.refl _,List.Perm.refl _,fun k _=>rfl,D1,fun k _ _ _ h=>absurd h (by omega)⟩
      (fun w q=>⟨_,rfl,q⟩)
  obtain ⟨⟨b,z'⟩,h1,h2⟩:=main
  exact ⟨b,z',h1,h2⟩
theorem aji {x:aG} {z:List aG} {n:Nat} (ho:o.length < 4611686018427387904) (hl:z.length=n) (hs:n < 1000000) (hz:OL o (z++[x])) (hh:wZ (zK o) (ga z) n):
  ∃z',fH x t q pl lk o z 0 n rd=some z'∧z'.length=n+1∧z'.Perm (z++[x])∧wZ (zK o) (ga z') (n+1):=by
 have e:List.take n (List.drop 0 z)++[x]=z++[x]:=by rw [List.drop_zero,List.take_of_length_le (by omega)]
 have el:(z++[x]).length=n+1:=by simp [hl]
 have gk:∀k,k < n→ga (z++[x]) k=ga z k:=fun k hk=>by
  rw [Cb (by omega),Cb (by omega),List.getElem_append_left (by omega)]
 obtain ⟨z',h1,h2,h3,h4⟩:=aqx (t:=t) (q:=q) (pl:=pl) (lk:=lk) (rd:=rd) (z:=z++[x]) (n:=n+1) (j:=n) ho hz el (by omega) (by omega)
  (fun k k0 kn kj=>by rw [gk k (by omega),gk _ (by omega)];exact hh k k0 (by omega)) (fun k k0 kn kp _=>by omega)
 refine ⟨z',?_,h2,h3,h4⟩
 unfold fH
 refine bo (a:=()) ?_ ?_
 ·unfold iT
  rw [decide_eq_true (by omega),decide_eq_true (by rw [dL];simp;omega)];rfl
 refine bo (a:=()) rfl ?_
 rw [e,el,show bL (((n+1:Nat):Int) - 1)=(n:Int) by rw [gL (by omega) (by omega)];omega]
 exact bo h1 rfl
theorem agR {z:List aG} {n:Nat} (ho:o.length < 4611686018427387904) (hz:OL o z) (hn:n+1≤z.length) (hs:n+1 < 1000000000) (hh:wZ (zK o) (ga z) (n+1)):
  ∃z',dP t q pl lk o z 0 (n+1) rd=some (ga z 0,z')∧z'.length=z.length∧z'.Perm z∧(z'.take n++[ga z 0]).Perm (z.take (n+1))∧wZ (zK o) (ga z') n:=by
 have hz1:OL o (NS z 0 n):=hz.perm (FH (by omega) (by omega))
 obtain ⟨e1,e2,e3⟩:=Ui (z:=z) (i:=0) (j:=n) (by omega) (by omega)
 obtain ⟨b,z',h1,h2,h3,h4,h5,h6⟩:=ai4 (t:=t) (q:=q) (pl:=pl) (lk:=lk) (rd:=rd) (z:=NS z 0 n) (n:=n) (m:=n+1) ho hz1 (by rw [vC];omega) hs (by omega)
  (fun k k0 kn kp=>by rw [e3 k (by omega) (by omega),e3 _ (by omega) (by omega)];exact hh k k0 (by omega))
 rw [vC] at h2
 have hx:ga z' n=ga z 0:=by rw [h5 n (Nat.le_refl _),e2]
 refine ⟨z',?_,h2,h3.trans (FH (by omega) (by omega)),?_,h6⟩
 ·unfold dP
  have en:bL (((n+1:Nat):Int) - 1)=(n:Int):=by rw [gL (by omega) (by omega)];omega
  refine bo (a:=()) rfl ?_
  rw [en]
  refine bo (Vo (z:=z) (n:=n+1) (i:=0) (j:=n) hn (by omega) (by omega)) ?_
  refine bo h1 ?_
  show Option.bind _ _=_
  refine bo (a:=ga z 0) ?_ rfl
  unfold j5
  rw [en]
  refine bo (Oq (n:=n+1) (i:=n) (by omega) (by omega)) ?_
  rw [decide_eq_true (by omega),hx];rfl
 ·have k1:z'.take (n+1)=z'.take n++[ga z 0]:=by rw [Uh _ n (by omega),← hx,Cb (by omega)]
  have k2:(NS z 0 n).take (n+1)=(NS z 0 n).take n++[ga z 0]:=by rw [Uh _ n (by rw [vC];omega),← Cb (by rw [vC];omega),e2]
  refine (h4.append_right _).trans ?_
  rw [← k2]
  exact KH (by omega) (by omega) hn
end
def AB (s:dG) (k:List UInt8):Bool:= !(o8 k s.Lo)&&(s.Open || o8 k s.Hi)
theorem adT (s:dG) (k:List UInt8):yI s k=some (AB s k):=by
 unfold yI AB
 cases o8 k s.Lo <;> cases s.Open <;> rfl
abbrev Vl:dG:=dG.mk ([]:List UInt8) ([]:List UInt8) true
theorem aar (k:List UInt8):AB Vl k=true:=by
 unfold AB
 rw [show o8 k Vl.Lo=false from zI k];rfl
theorem Jd {α:Type} (f:α→Bool) (l:List α) (i:Nat) (hi:i < l.length):(l.take (i+1)).filter f=if f l[i]=true then (l.take i).filter f++[l[i]] else (l.take i).filter f:=by
 rw [List.take_succ_eq_append_getElem hi,List.filter_append]
 cases h:f l[i] <;> simp [h]
theorem aeH (l:List aU) (s:dG) (h:l.length≤100000):jo l s (-1)=some (l.filter fun e=>AB s e.Key):=by
 unfold jo
 refine QS (w:=l.filter fun e=>AB s e.Key) (J7 (fun i=>((l.take i).filter fun e=>AB s e.Key,(i:Int))) l.length (fun i hi=>?_) ?_ rfl) rfl
 ·show (bif _ then _ else _)=_
  rw [aD (by omega)]
  have hl:((l.take i).filter fun e=>AB s e.Key).length≤i:=Nat.le_trans (List.length_filter_le _ _) (List.length_take_le _ _)
  refine bo (a:=(l.take (i+1)).filter fun e=>AB s e.Key) ?_ ?_
  ·refine bo (a:=AB s l[i].Key) ?_ ?_
   ·refine bo (cu hi) (bo (adT _ _) ?_)
    show (bif AB s l[i].Key then _ else _)=_
    cases AB s l[i].Key <;> rfl
   ·rw [Jd (fun e=>AB s e.Key) l i hi]
    cases e:AB s l[i].Key with
    | true=>
     refine bo (cu hi) ?_
     rw [aD (by rw [dL];simp;omega)];rfl
    | false=>rfl
  ·show some (Sum.inl (_,bL ((i:Int)+1)))=_
   rw [bX (by omega)]
 ·show (bif _ then _ else _)=_
  rw [aP (by omega)]
  rw [List.take_of_length_le (Nat.le_refl _)]
def BJ (e:aU):dh:=⟨e.Key,e.Val⟩
theorem map_take {α β:Type} (f:α→β) (l:List α) (i:Nat) (hi:i < l.length):(l.take (i+1)).map f=(l.take i).map f++[f l[i]]:=by
 rw [List.take_succ_eq_append_getElem hi,List.map_append];rfl
theorem acS (no:List Int) (trees:List dY) (calls fail:Int) (s:dG) (k:Nat) (hk:k < no.length) (hl:trees.length=no.length) (hn:no.length≤1000) (hu:∀j (hj:j < no.length),no[j]=no[k]→j=k) (ht:(trees[k]'(by omega)).L.length≤100000) (hc:bL (calls+1)≠fail):
  fA no[k] s ⟨no,trees,calls,fail⟩=some ((((trees[k]'(by omega)).L.filter fun e=>AB s e.Key).map BJ),0):=by
 unfold fA
 refine bo (a:=()) rfl ?_
 rw [show (bL (calls+1)==fail)=false by simpa using hc]
 refine bo (a:=(((trees[k]'(by omega)).L.filter fun e=>AB s e.Key).map BJ)) ?_ rfl
 generalize hP:((trees[k]'(by omega)).L.filter fun e=>AB s e.Key)=E
 have hE:E.length≤100000:=by rw [← hP];exact Nat.le_trans (List.length_filter_le _ _) ht
 refine bo (a:=E.map BJ) (J7 (w:=E.map BJ) (fun i=>(if k < i then E.map BJ else [],(i:Int))) no.length (fun i hi=>?_) ?_ rfl) rfl
 ·show (bif _ then _ else _)=_
  rw [aD (by show (i:Int) < (no.length:Int);omega)]
  refine bo (a:=if k < i+1 then E.map BJ else []) ?_ ?_
  ·refine bo (cu hi) ?_
   by_cases e:i=k
   ·subst e
    rw [if_neg (Nat.lt_irrefl _),if_pos (Nat.lt_succ_self _)]
    refine bf (by simp) ?_
    refine bo (cu (by show i < trees.length;omega)) ?_
    refine bo (aeH _ _ ht) ?_
    rw [hP]
    refine bo (a:=E.map BJ) (J7 (w:=E.map BJ) (fun j=>((E.take j).map BJ,(j:Int))) E.length (fun j hj=>?_) ?_ rfl) rfl
    ·show (bif _ then _ else _)=_
     rw [aD (show (j:Int) < _ by omega)]
     refine bo (cu hj) (bo (cu hj) ?_)
     rw [aD (by rw [dL];simp;omega),map_take _ _ _ hj]
     show some (Sum.inl (_,bL ((j:Int)+1)))=_
     rw [bX (by omega)];rfl
    ·show (bif _ then _ else _)=_
     rw [aP (by omega),List.take_of_length_le (Nat.le_refl _)]
   ·refine bt (by simpa using fun q=>e (hu i hi q)) ?_
    by_cases q:k < i
    ·rw [if_pos q,if_pos (by omega)]
    ·rw [if_neg q,if_neg (by omega)]
  ·show some (Sum.inl (_,bL ((i:Int)+1)))=_
   rw [bX (by omega)]
 ·show (bif _ then _ else _)=_
  rw [aP (by show ¬((no.length:Int) < (no.length:Int));omega)]
  show some (Sum.inr (if k < no.length then _ else _))=_
  rw [if_pos hk]
section
variable {T:aL} {q:bG} {pl:bQ} {lk:List bO} {o:List aX} {rd:ay} {pt:PT}
def fnd (T:aL) (l:List aj):aG:=⟨l,jc T l⟩
def tkn (T:aL) (pt:PT) (R:List (List aj)):List aG:=(R.filter fun l=>pU l pt).map (fnd T)
structure Hz (o:List aX) (z:List aG) (n:Nat) (M:List aG):Prop where
 len:z.length=n
 perm:z.Perm M
 heap:wZ (zK o) (ga z) n
theorem adL {x:aG} {z:List aG} {n:Nat} {M:List aG} (ht:Eh pt) (hp:flat pt=q.Pred) (hpl:q.Pred.length≤1000) (hn:∀n∈q.Pred,Ja x.row n) (ho:o.length < 4611686018427387904) (hs:n < 1000000) (hin:OL o (M++[x])) (h:Hz o z n M):
  ∃z' n',iy x T q pl lk o z 0 n rd=some (z',0,n')∧Hz o z' n' (if pU x.row pt=true then M++[x] else M):=by
 unfold iy
 rw [ajk hp.symm ht (by omega) hn rfl]
 cases e:pU x.row pt with
 | false=>exact ⟨z,n,rfl,h⟩
 | true=>
  obtain ⟨z',h1,h2,h3,h4⟩:=aji (t:=T) (q:=q) (pl:=pl) (lk:=lk) (rd:=rd) (x:=x) ho h.len hs (hin.perm (h.perm.append_right _)) h.heap
  refine ⟨z',n+1,?_,⟨h2,h3.trans (h.perm.append_right _),h4⟩⟩
  show Option.bind _ _=_
  rw [h1]
  show some (z',0,(List.take n (List.drop 0 z)++[x]).length)=_
  rw [List.drop_zero,List.length_append,List.length_take,h.len,Nat.min_self];rfl
theorem ahz {l:List aj} {z:List aG} {n:Nat} {M:List aG} (r:Right T) (hc:GQ T.aV) (hv:Iz l) (hf:Fit T.aV l) (ht:Eh pt) (hp:flat pt=q.Pred) (hpl:q.Pred.length≤1000) (hn:∀n∈q.Pred,Ja l n) (ho:o.length < 4611686018427387904) (hs:n < 1000000) (hin:OL o (M++[fnd T l])) (h:Hz o z n M):
  ∃z' n',iw (iZ l) T q pl lk o z 0 n rd=some (0,z',0,n')∧Hz o z' n' (if pU l pt=true then M++[fnd T l] else M):=by
 have h1:=aat hf
 have h2:=r.row
 obtain ⟨z',n',k1,k2⟩:=adL (T:=T) (pl:=pl) (lk:=lk) (rd:=rd) (x:=fnd T l) ht hp hpl hn ho hs hin h
 refine ⟨z',n',?_,k2⟩
 unfold iw
 refine bo (M8 hc hf (by omega)) ?_
 show Option.bind (iF T l) _=_
 refine bo (aaK r hc hv hf) ?_
 refine bo (a:=(z',0,n')) ?_ rfl
 show Option.bind (iy _ _ _ _ _ _ _ _ _ _) _=_
 exact bo k1 rfl
end
section
variable {T:aL} {q:bG} {pl:bQ} {lk:List bO} {o:List aX} {rd:ay} {pt:PT}
theorem aam (R:List (List aj)) (i:Nat) (hi:i < R.length):tkn T pt (R.take (i+1))=if pU R[i] pt=true then tkn T pt (R.take i)++[fnd T R[i]] else tkn T pt (R.take i):=by
 unfold tkn
 rw [Jd (fun l=>pU l pt) R i hi]
 split <;> simp
structure acR (T:aL) (q:bG) (l:List aj):Prop where
 fit:Fit T.aV l
 ok:Iz l
 node:∀n∈q.Pred,Ja l n
theorem Xj {R:List (List aj)} (hR:∀l∈R,acR T q l) (ho:∀p∈o,0≤p.Col∧p.Col < T.aV.length):OL o (tkn T pt R):=by
 intro x hx p hp
 unfold tkn at hx
 obtain ⟨l,hl,rfl⟩:=List.mem_map.1 hx
 have hf:=(hR l (List.mem_filter.1 hl).1).fit
 show 0≤p.Col∧p.Col < l.length
 rw [hf.len];exact ho p hp
theorem O8 (R:List (List aj)):(tkn T pt R).length≤R.length:=by
 unfold tkn;rw [List.length_map];exact List.length_filter_le _ _
theorem aap {R:List (List aj)} (r:Right T) (hc:GQ T.aV) (hR:∀l∈R,acR T q l) (hlen:R.length≤1000) (ht:Eh pt) (hp:flat pt=q.Pred) (hpl:q.Pred.length≤1000) (hol:o.length≤1000) (ho:∀p∈o,0≤p.Col∧p.Col < T.aV.length)
    (hpr:fA T.Tree pl.Span rd=some (R.map (fun l=>dh.mk (jc T l) (iZ l)),0)):∃z n,ig T q pl o rd=some (0,z,0,n)∧Hz o z n (tkn T pt R):=by
  unfold ig
  have hpp:je T.Tree T q pl o rd=some (R.map (fun l=>dh.mk (jc T l) (iZ l)),0):=by
    unfold je
    rw [aD (by rw [dL];simp)]
    exact bo hpr rfl
  rw [hpp]
  have main :=aa0 (B:=(fun (Jl,G5,GZ,GY,GX)=>
        bif (decide (G5 < ((R.map (fun l=>dh.mk (jc T l) (iZ l))).length:Int))) then
          Option.bind (α:=Int×(List aG)×Nat×Nat)
            (Option.bind (bP (R.map (fun l=>dh.mk (jc T l) (iZ l))) G5) fun OX=>
            bif (Jl==(0:Int)) then
              Option.bind (iw OX.Val T q pl [(bO.mk T.Tree pl.Span false)] o GZ GY GX (ay.mk rd.no rd.trees (bL (rd.calls+(1:Int))) rd.fail)) fun (X9,X8,X7,X6)=>
              some (X9,X8,X7,X6)
            else
              some (Jl,GZ,GY,GX))
            fun (Xv,Xu,Xt,Xr)=>
          some (Sum.inl (Xv,(bL (G5+(1:Int))),Xu,Xt,Xr))
        else
          some (Sum.inr (Jl,GZ,GY,GX)):(Int×Int×(List aG)×Nat×Nat)→Option ((Int×Int×(List aG)×Nat×Nat)⊕(Int×(List aG)×Nat×Nat)))) R.length
    (fun i y=>∃z n,y=(0,(i:Int),z,0,n)∧Hz o z n (tkn T pt (R.take i))) (fun w=>∃z n,w=(0,z,0,n)∧Hz o z n (tkn T pt R)) ?_ ?_ ((0:Int),(0:Int),([]:List aG),0,([]:List aG).length) ⟨[],0,rfl,⟨rfl,List.Perm.refl _,fun k _ h=>by omega⟩⟩
  · obtain ⟨w,h1,z,n,rfl,h2⟩:=main
    refine ⟨z,n,?_,h2⟩
    refine bo rfl ?_
    show Option.bind (Option.bind (loop _ _) _) _=_
    exact QS h1 rfl
  · rintro i _ hi ⟨z,n,rfl,hz⟩
    have hmem:=List.getElem_mem hi
    have hq:=hR _ hmem
    have hsub:∀l∈R.take i,acR T q l:=fun l hl=>hR l (List.mem_of_mem_take hl)
    have hn:n≤1000:=by
      have h1:=hz.perm.length_eq
      have h2:=O8 (T:=T) (pt:=pt) (R.take i)
      rw [hz.len] at h1
      rw [List.length_take] at h2
      omega
    have hin:OL o (tkn T pt (R.take i)++[fnd T R[i]]):=by
      intro x hx p hp
      rcases List.mem_append.1 hx with hx | hx
      · exact Xj hsub ho x hx p hp
      · rw [List.mem_singleton.1 hx]
        show 0≤p.Col∧p.Col < R[i].length
        rw [hq.fit.len];exact ho p hp
    obtain ⟨z',n',k1,k2⟩:=ahz (T:=T) (q:=q) (pl:=pl) (lk:=[(bO.mk T.Tree pl.Span false)]) (rd:=(ay.mk rd.no rd.trees (bL (rd.calls+(1:Int))) rd.fail)) r hc hq.ok hq.fit ht hp hpl hq.node (by omega) (by omega) hin hz
    refine ⟨(0,((i+1:Nat):Int),z',0,n'),?_,z',n',rfl,?_⟩
    · show (bif _ then _ else _)=_
      rw [aD (by rw [List.length_map];omega)]
      refine bo (a:=(0,z',0,n')) ?_ ?_
      · refine bo (cu (by rw [List.length_map];exact hi)) ?_
        rw [List.getElem_map]
        show Option.bind (iw (iZ R[i]) _ _ _ _ _ _ _ _ _) _=_
        exact bo k1 rfl
      · show some (Sum.inl (_,bL ((i:Int)+1),_))=_
        rw [bX (by omega)]
    · rw [aam R i hi];exact k2
  · rintro _ ⟨z,n,rfl,hz⟩
    refine ⟨(0,z,0,n),?_,z,n,rfl,by rw [List.take_of_length_le (Nat.le_refl _)] at hz;exact hz⟩
    show (bif _ then _ else _)=_
    rw [aP (by rw [List.length_map];omega)]
end
def JF (bW:List Int) (x:aG):List aj:=bW.map (uO x.row)
def lmt {α:Type} (lim:Int) (L:List α):List α:=if lim < 0 then L else L.take lim.toNat
section
variable {T T':aL} {q q':bG} {pl pl':bQ} {lk lk':List bO} {o:List aX} {rd rd':ay}
theorem aoT (z:List aG) (a n:Nat):dP T q pl lk o z a n rd=dP T' q' pl' lk' o z a n rd':=by
 unfold dP eO j5;rfl
end
noncomputable def BI (o:List aX):Nat→List aG→List aG
 | 0,_=>[]
 | n+1,z=>ga z 0::BI o n (((dP default default default [] o z 0 (n+1) default).map (·.2)).getD [])
section
variable {T:aL} {q:bG} {pl:bQ} {lk:List bO} {o:List aX} {rd:ay}
theorem Oc {z z':List aG} {n:Nat} (h:dP T q pl lk o z 0 (n+1) rd=some (ga z 0,z')):BI o (n+1) z=ga z 0::BI o n z':=by
 rw [BI,aoT (T':=T) (q':=q) (pl':=pl) (lk':=lk) (rd':=rd),h];rfl
theorem Ws (ho:o.length < 4611686018427387904):∀(n:Nat) (z:List aG),OL o z→n≤z.length→n < 100000000→wZ (zK o) (ga z) n→(BI o n z).Perm (z.take n)∧(BI o n z).Pairwise fun a b=>zK o b a=false
 | 0,z,_,_,_,_=>⟨by simp [BI],List.Pairwise.nil⟩
 | n+1,z,hz,hn,hs,hh=>by
  obtain ⟨z',h1,h2,h3,h4,h5⟩:=agR (t:=default) (q:=default) (pl:=default) (lk:=[]) (rd:=default) ho hz hn (by omega) hh
  obtain ⟨k1,k2⟩:=Ws ho n z' (hz.perm h3) (by omega) (by omega) h5
  rw [Oc h1]
  refine ⟨((k1.cons _).trans (List.perm_append_comm (l₁:=[ga z 0]) (l₂:=z'.take n))).trans h4,List.pairwise_cons.2 ⟨fun b hb=>?_,k2⟩⟩
  have hb':b∈z.take (n+1):=h4.mem_iff.1 (List.mem_append.2 (.inl (k1.mem_iff.1 hb)))
  obtain ⟨k,hk,e⟩:=List.getElem_of_mem hb'
  rw [List.length_take] at hk
  rw [List.getElem_take] at e
  have hk':k < n+1:=Nat.lt_of_lt_of_le hk (Nat.min_le_left _ _)
  have:=YB (O9 o) hh k hk'
  rw [show ga z k=b by rw [Cb (by omega)];exact e] at this
  exact this
theorem Zi (P:List aY) (C:List Int) (O:List aX) (lim:Int) {z:List aG} {n:Nat} (ho:o.length < 4611686018427387904) (hz:OL o z) (hn:z.length=n) (hs:n≤1000) (hh:wZ (zK o) (ga z) n) (hC:C.length≤1000) (abR:∀x∈z,∀c∈C,0≤c∧c < x.row.length):
  ∃w:List (List aj)×List aG×Nat,iN T ⟨P,C,O,lim⟩ pl lk o z 0 n rd=some w∧w.1=(lmt lim (BI o n z)).map (JF C):=by
 unfold iN
 refine ahG (T:=fun (w:List (List aj)×List aG×Nat)=>w.1=(lmt lim (BI o n z)).map (JF C))
  (fun (y:List (List aj)×List aG×Nat)=>∃done,BI o n z=done++BI o y.2.2 y.2.1∧y.1=done.map (JF C)∧OL o y.2.1∧y.2.2≤y.2.1.length∧y.2.2≤n∧done.length+y.2.2=n∧wZ (zK o) (ga y.2.1) y.2.2∧(lim < 0∨(done.length:Int)≤lim)∧(∀x∈y.2.1,∀c∈C,0≤c∧c < x.row.length))
  (fun w=>w.1=(lmt lim (BI o n z)).map (JF C)) (fun y=>y.2.2) ?_ ⟨[],rfl,rfl,hz,by show n≤z.length;omega,Nat.le_refl _,by simp,hh,by rcases Int.lt_or_le lim 0 with h | h;exact .inl h;exact .inr (by simpa using h),abR⟩ (fun w hw=>⟨w,rfl,hw⟩)
 rintro ⟨out,y,k⟩ ⟨done,e1,e2,e3,e4,e5,e6,e7,e8,e9⟩
 replace e2:out=done.map (JF C):=e2
 replace e1:BI o n z=done++BI o k y:=e1
 replace e4:k≤y.length:=e4
 replace e6:done.length+k=n:=e6
 replace e7:wZ (zK o) (ga y) k:=e7
 replace e3:OL o y:=e3
 have eol:out.length=done.length:=by rw [e2,List.length_map]
 show (∃y',Option.bind _ _=_∧_)∨∃w,Option.bind _ _=_∧_
 cases k with
 | zero=>
  right
  refine ⟨(out,y,0),?_,?_⟩
  ·refine bo (a:=false) ?_ rfl
   exact bo (a:=()) rfl rfl
  ·show out=_
   have h0:BI o 0 y=[]:=rfl
   rw [e1,h0,List.append_nil,e2]
   unfold lmt
   rcases e8 with h | h
   ·rw [if_pos h]
   ·by_cases g:lim < 0
    ·rw [if_pos g]
    ·rw [if_neg g,List.take_of_length_le (by omega)]
 | succ k=>
  by_cases g:lim < 0∨(done.length:Int) < lim
  ·left
   obtain ⟨z',h1,h2,h3,h4,h5⟩:=agR (t:=T) (q:=⟨P,C,O,lim⟩) (pl:=pl) (lk:=lk) (rd:=rd) ho e3 e4 (by omega) e7
   have hm:ga y 0∈y:=UR (by omega)
   refine ⟨(out++[JF C (ga y 0)],z',k),?_,⟨done++[ga y 0],?_,by simp [e2],e3.perm h3,by rw [h2];show k≤y.length;omega,by show k≤n;omega,by simp;omega,h5,?_,fun x hx=>?_⟩,Nat.lt_succ_self k⟩
   ·refine bo (a:=true) ?_ ?_
    ·refine bo (a:=()) rfl ?_
     rw [aD (show (((k+1:Nat)):Int) > 0 by omega)]
     rcases g with g | g
     ·rw [aD g]
     ·by_cases g2:lim < 0
      ·rw [aD g2]
      ·rw [aP g2,decide_eq_true (by rw [eol];exact g)]
    ·refine bo h1 ?_
     show (bif _ then _ else _)=_
     rw [aD (show 0≤(C.length:Int)∧(C.length:Int)*32≤70368744177664∧(C.length:Int)≤70368744177664 by omega)]
     refine bo (a:=JF C (ga y 0)) ?_ ?_
     ·refine bo (a:=JF C (ga y 0)) (J7 (w:=JF C (ga y 0)) (fun i=>((C.take i).map (uO (ga y 0).row),(i:Int))) C.length (fun i hi=>?_) ?_ rfl) rfl
      ·show (bif _ then _ else _)=_
       rw [aD (by show (i:Int) < (C.length:Int);omega)]
       refine bo (cu hi) ?_
       refine bo (zi (e9 _ hm _ (List.getElem_mem hi))) ?_
       rw [aD (by rw [dL];simp;omega),map_take _ _ _ hi]
       show some (Sum.inl (_,bL ((i:Int)+1)))=_
       rw [bX (by omega)]
      ·show (bif _ then _ else _)=_
       rw [aP (by show ¬((C.length:Int) < (C.length:Int));omega),List.take_of_length_le (Nat.le_refl _)];rfl
     ·rw [aD (by rw [dL,eol];simp;omega)]
      rw [show bL (((k+1:Nat):Int) - 1)=(k:Int) by rw [gL (by omega) (by omega)];omega]
      rfl
   ·show BI o n z=_
    rw [e1,Oc h1];simp
   ·rcases g with g | g
    ·exact .inl g
    ·right;simp;omega
   ·have:x∈y:=by
     exact h3.mem_iff.1 hx
    exact e9 x this
  ·right
   have g1:¬lim < 0:=fun h=>g (.inl h)
   have g2:¬(done.length:Int) < lim:=fun h=>g (.inr h)
   refine ⟨(out,y,k+1),?_,?_⟩
   ·refine bo (a:=false) ?_ rfl
    refine bo (a:=()) rfl ?_
    rw [aD (show (((k+1:Nat)):Int) > 0 by omega)]
    rw [aP g1,decide_eq_false (by rw [eol];exact g2)]
   ·show out=_
    rw [e1,e2]
    unfold lmt
    rw [if_neg g1]
    have:lim.toNat=done.length:=by
     rcases e8 with h | h
     ·exact absurd h g1
     ·omega
    rw [this,List.take_left]
end
theorem Yt (k v:List UInt8):(mD.mk (0:UInt64) (1:Int) k (0:UInt64) v (0:Int) (0:UInt64))=Gc k (some v):=rfl
def yes {α:Type}:α→Bool:=fun _=>true
theorem Xi (key val:List aj→List UInt8) (R:List (List aj)) (i:Nat) (hi:i < R.length):SJ key val yes (R.take (i+1))=xq (key R[i]) (some (val R[i])) (SJ key val yes (R.take i)):=by
 rw [List.take_succ_eq_append_getElem hi,QI];rfl
theorem acP (key val:List aj→List UInt8) (R:List (List aj)) (hR:R.length≤1000) (k v:List UInt8):gQ (mD.mk (0:UInt64) (1:Int) k (0:UInt64) v (0:Int) (0:UInt64)) (SJ key val yes R)=some (xq k (some v) (SJ key val yes R)):=by
 obtain ⟨h1,h2⟩:=agQ key val yes R
 rw [Yt]
 exact Zn k (some v) _ h1.1 h1.2 (by omega)
def trX (T:aL) (R:List (List aj)) (x:bT):List aU:=if x.Ready=true then SJ (fun l=>(NC T x l).Key) (fun l=>(NC T x l).Val) yes R else []
def vw (T:aL) (R:List (List aj)):List (List aU):=SJ (jc T) iZ yes R::T.bn.map (trX T R)
def uF (T:aL):List Int:=T.Tree::T.bn.map (·.Tree)
theorem aaW {α:Type} {bs:List Nat} {ts:List α} (hn:bs.Nodup) (hl:ts.length=bs.length):List.mapM (FZ (bs.zip ts)) bs=some ts:=by
 have key:∀(l:List Nat) (i:Nat),bs.drop i=l→List.mapM (FZ (bs.zip ts)) l=some (ts.drop i):=by
  intro l
  induction l with
  | nil=>
   intro i hi
   have:bs.length≤i:=List.drop_eq_nil_iff.1 hi
   rw [List.drop_eq_nil_of_le (by omega)];rfl
  | cons b l ih=>
   intro i hi
   have hlt:i < bs.length:=by
    rcases Nat.lt_or_ge i bs.length with q | q
    ·exact q
    ·rw [List.drop_eq_nil_of_le q] at hi;cases hi
   rw [List.drop_eq_getElem_cons hlt] at hi
   obtain ⟨h1,h2⟩:=List.cons.inj hi
   rw [List.mapM_cons,← h1,RU hn hl hlt]
   show Option.bind (List.mapM _ l) _=_
   rw [ih (i+1) h2,List.drop_eq_getElem_cons (show i < ts.length by omega)];rfl
 exact key bs 0 rfl
theorem TL {T:aL} (r:Right T) (hx:∀x∈T.bn,yw T x) {R:List (List aj)} (hR:∀l∈R,Fit T.aV l) (hlen:R.length≤1000):nQ T R=some (uF T,(vw T R).map dY.mk):=by
 have ixs:=r.ixs
 unfold nQ
 refine ab7 fun b _=>?_
 refine bo (a:=[(b,SJ (jc T) iZ yes R)]) ?_ ?_
 ·refine bo (a:=[(b,SJ (jc T) iZ yes R)]) (J7 (w:=[(b,SJ (jc T) iZ yes R)]) (fun i=>([(b,SJ (jc T) iZ yes (R.take i))],(i:Int))) R.length (fun i hi=>?_) ?_ rfl) rfl
  ·show (bif _ then _ else _)=_
   rw [aD (by omega)]
   have hf:=hR _ (List.getElem_mem hi)
   have num:=hf.num
   refine bo (a:=b) rfl (bo (cu hi) (bo (ow T _ hf r) (bo (cu hi) (bo (Bw _ hf.short (by rw [hf.len];omega)) ?_))))
   refine bo (a:=SJ (jc T) iZ yes (R.take i)) (by simp [FZ]) ?_
   refine bo (acP (jc T) iZ (R.take i) (by rw [List.length_take];omega) _ _) ?_
   show some (Sum.inl (JE [(b,_)] b _,bL ((i:Int)+1)))=_
   rw [bX (by omega),Xi (jc T) iZ R i hi]
   simp [JE,jc]
  ·show (bif _ then _ else _)=_
   rw [aP (by omega),List.take_of_length_le (Nat.le_refl _)]
 show LC _ _ _=_
 have lN:(uF T).length=T.bn.length+1:=by simp [uF]
 have lT:(vw T R).length=T.bn.length+1:=by simp [vw]
 refine Yx T.bn.length (fun i y=>∃bs:List Nat,bs.Nodup∧bs.length=i+1∧y=(bs.zip ((vw T R).take (i+1)),(uF T).take (i+1),bs,(i:Int))) ?_ ?_ 1000 (by omega) _ ⟨[b],by simp,rfl,rfl⟩
 ·rintro i _ ρ hi ⟨bs,hn,hl,rfl⟩ hρ
  show (bif _ then _ else _)=_
  rw [aD (by omega)]
  show dem _ _=_
  refine ab7 fun c hc=>?_
  have hc':c∉bs:=fun h=>hc (by rw [List.map_fst_zip (by rw [List.length_take];omega)];exact h)
  have hn':(bs++[c]).Nodup:=List.nodup_append.2 ⟨hn,by simp,fun x hx y hy hxy=>by simp at hy;subst hy;exact hc' (hxy▸hx)⟩
  have hl':(bs++[c]).length=i+2:=by simp [hl]
  have ltk:((vw T R).take (i+1)).length=i+1:=by rw [List.length_take];omega
  have ajw:∀s:List aU,(bs++[c]).zip ((vw T R).take (i+1)++[s])=bs.zip ((vw T R).take (i+1))++[(c,s)]:=fun s=>by
   rw [List.zip_append (by omega)];rfl
  have hix:yw T T.bn[i]:=hx _ (List.getElem_mem hi)
  have atc:∀s:List aU,FZ ((bs++[c]).zip ((vw T R).take (i+1)++[s])) c=some s:=fun s=>by
   have h0:(bs++[c])[i+1]'(by omega)=c:=by rw [List.getElem_append_right (by omega)];simp [hl]
   have h1:=RU (bs:=bs++[c]) (ts:=(vw T R).take (i+1)++[s]) hn' (by simp [hl,ltk]) (i:=i+1) (by omega)
   rw [h0] at h1
   rw [h1]
   congr 1
   rw [List.getElem_append_right (by omega)];simp [ltk]
  have asi:∀s s':List aU,JE ((bs++[c]).zip ((vw T R).take (i+1)++[s])) c s'=(bs++[c]).zip ((vw T R).take (i+1)++[s']):=fun s s'=>by
   have h0:(bs++[c])[i+1]'(by omega)=c:=by rw [List.getElem_append_right (by omega)];simp [hl]
   have h1:=aaJ (bs:=bs++[c]) (ts:=(vw T R).take (i+1)++[s]) hn' (by simp [hl,ltk]) (i:=i+1) (by omega) s'
   rw [h0] at h1
   rw [h1]
   congr 1
   rw [List.set_append_right (i+1) s' (by omega)];simp [ltk]
  have hend:(vw T R)[i+1]'(by omega)=trX T R T.bn[i]:=by simp [vw]
  refine bo (a:=(bs++[c]).zip ((vw T R).take (i+1)++[trX T R T.bn[i]])) ?_ ?_
  ·refine bo (a:=(bs++[c]).zip ((vw T R).take (i+1)++[trX T R T.bn[i]])) ?_ rfl
   have gx:=cu hi
   cases hrd:T.bn[i].Ready with
   | false=>
    refine fM ?_
    show Option.bind _ _=_
    refine bo (a:=false) ?_ ?_
    ·by_cases g:0 < R.length
     ·rw [aD (show ((0:Int)) < (R.length:Int) by omega)]
      exact bo gx (by rw [hrd])
     ·rw [aP (show ¬((0:Int)) < (R.length:Int) by omega)]
    ·show some (Sum.inr _)=_
     rw [ajw];unfold trX;rw [hrd];rfl
   | true=>
    have htr:trX T R T.bn[i]=SJ (fun l=>(NC T T.bn[i] l).Key) (fun l=>(NC T T.bn[i] l).Val) yes R:=by unfold trX;rw [if_pos hrd]
    rw [htr]
    refine J7 (fun j=>((bs++[c]).zip ((vw T R).take (i+1)++[SJ (fun l=>(NC T T.bn[i] l).Key) (fun l=>(NC T T.bn[i] l).Val) yes (R.take j)]),(j:Int))) R.length (fun j hj=>?_) ?_ ?_
    ·show Option.bind _ _=_
     refine bo (a:=true) ?_ ?_
     ·rw [aD (by omega)]
      exact bo gx (by rw [hrd])
     ·have hf:=hR _ (List.getElem_mem hj)
      refine bo gx (bo (cu hj) (bo (KV T _ _ hf r hix) (bo (atc _) (bo (acP _ _ (R.take j) (by rw [List.length_take];omega) _ _) ?_))))
      show some (Sum.inl (JE _ c _,bL ((j:Int)+1)))=_
      rw [asi,bX (by omega),Xi _ _ R j hj]
    ·show Option.bind _ _=_
     refine bo (a:=false) ?_ ?_
     ·rw [aP (by omega)]
     ·show some (Sum.inr _)=_
      rw [List.take_of_length_le (Nat.le_refl _)]
    ·rw [List.take_zero]
     show ((bs++[c]).zip _,_)=_
     rw [ajw];rfl
  ·refine bo (cu hi) ?_
   have lnt:((uF T).take (i+1)).length=i+1:=by rw [List.length_take];omega
   rw [aD (by rw [dL,lnt];simp;omega),aD (by rw [dL,hl];simp;omega)]
   show ρ _=_
   refine hρ _ ⟨bs++[c],hn',hl',?_⟩
   rw [bX (by omega)]
   have e1:(vw T R).take (i+1+1)=(vw T R).take (i+1)++[trX T R T.bn[i]]:=by
    rw [List.take_succ_eq_append_getElem (by omega),hend]
   have e2:(uF T).take (i+1+1)=(uF T).take (i+1)++[T.bn[i].Tree]:=by
    rw [List.take_succ_eq_append_getElem (by omega)];simp [uF]
   rw [e1,e2]
 ·rintro _ ρ ⟨bs,hn,hl,rfl⟩
  show (bif _ then _ else _)=_
  rw [aP (by omega)]
  show Option.bind (List.mapM _ bs) _=_
  rw [List.take_of_length_le (by omega),List.take_of_length_le (by omega),aaW hn (by omega)]
  rfl
def xS (T:aL) (R:List (List aj)):Option (List Int×List dY):=
 if YJ T=0∧(R.all fun l=>decide (rH T.aV l=0))=true∧R.length≤1000 then some (uF T,(vw T R).map dY.mk) else none
theorem Na (T:aL) (R:List (List aj)):∀r,xS T R=some r→nQ T R=some r:=by
 intro x h
 unfold xS at h
 split at h
 ·rename_i hs
  obtain ⟨h1,h2,h3⟩:=hs
  have r:=Right.of h1
  rw [← h]
  exact TL r (fun x hx=>yw.of (r.idx x hx)) (fun l hl=>Fit.of (by simpa using List.all_eq_true.1 h2 l hl)) h3
 ·cases h
def ab0 (key val:List aj→List UInt8) (l:List aj):aU:=aU.mk (key l) true (val l) 0 false []
theorem Om (key val:List aj→List UInt8) (l:List aj):∀(R:List (List aj)),(∀m∈R,key m≠key l)→∃R':List (List aj),R'.Perm (l::R)∧xq (key l) (some (val l)) (R.map (ab0 key val))=R'.map (ab0 key val)
 | [],_=>⟨[l],List.Perm.refl _,rfl⟩
 | m::R,h=>by
  by_cases g:o8 (key m) (key l)=true
  ·obtain ⟨R',h1,h2⟩:=Om key val l R fun x hx=>h x (List.mem_cons_of_mem _ hx)
   refine ⟨m::R',(h1.cons m).trans (List.Perm.swap l m R),?_⟩
   show (if o8 (key m) (key l)=true then _ else _)=_
   rw [if_pos g,h2];rfl
  ·refine ⟨l::m::R,List.Perm.refl _,?_⟩
   show (if o8 (key m) (key l)=true then _ else if key m=key l then _ else _)=_
   rw [if_neg g,if_neg (h m List.mem_cons_self)];rfl
theorem aeI (key val:List aj→List UInt8) (R:List (List aj)) (hd:R.Pairwise fun a b=>key a≠key b):∃R':List (List aj),R'.Perm R∧SJ key val yes R=R'.map (ab0 key val):=by
 induction R using Rm with
 | h0=>exact ⟨[],List.Perm.refl _,rfl⟩
 | h1 R l ih=>
  obtain ⟨h1,_,h3⟩:=List.pairwise_append.1 hd
  obtain ⟨R',k1,k2⟩:=ih h1
  obtain ⟨R2,j1,j2⟩:=Om key val l R' fun m hm=>h3 m (k1.mem_iff.1 hm) l (by simp)
  refine ⟨R2,(j1.trans (k1.cons l)).trans (List.perm_append_comm (l₁:=[l]) (l₂:=R)),?_⟩
  rw [QI,if_pos (show yes l=true from rfl),k2,j2]
def Da (l:List bT) (i:Nat):List bT:=l.mapIdx fun j x=>if j < i then { x with Tree:=3+(j:Int) } else x
theorem rE (l:List bT) (i:Nat):(Da l i).length=l.length:=by simp [Da]
theorem BP (l:List bT) (i j:Nat) (h:j < l.length):(Da l i)[j]'(by rw [rE];exact h)=if j < i then { l[j] with Tree:=3+(j:Int) } else l[j]:=by simp [Da]
theorem aaP (l:List bT) (i:Nat) (h:i < l.length):(Da l i).set i { l[i] with Tree:=3+(i:Int) }=Da l (i+1):=by
 apply List.ext_getElem
 ·simp [Da]
 ·intro j h1 h2
  have hj:j < l.length:=by simpa [Da] using h2
  rw [List.getElem_set,BP l (i+1) j hj]
  by_cases e:i=j
  ·subst e;rw [if_pos rfl,if_pos (by omega)]
  ·rw [if_neg e,BP l i j hj]
   by_cases q:j < i
   ·rw [if_pos q,if_pos (by omega)]
   ·rw [if_neg q,if_neg (by omega)]
def gZ (t:aL):aL:=⟨t.Name,t.aV,t.aR,Da t.bn t.bn.length,2⟩
theorem Yp {t:aL} {x:bT} (h:x∈(gZ t).bn):∃i,∃hi:i < t.bn.length,x={ t.bn[i] with Tree:=3+(i:Int) }:=by
 obtain ⟨i,hi,rfl⟩:=List.mem_iff_getElem.1 h
 have hi':i < t.bn.length:=by simpa [gZ,rE] using hi
 refine ⟨i,hi',?_⟩
 have:=BP t.bn t.bn.length i hi'
 rw [if_pos hi'] at this
 exact this
theorem I9 {t:aL} (r:Right t):Right (gZ t):=by
 refine ⟨r.len,r.col,r.pri,r.pla,r.row,r.key,by show (Da _ _).length≤6;rw [rE];exact r.ixs,fun x hx=>?_⟩
 obtain ⟨i,hi,rfl⟩:=Yp hx
 exact r.idx t.bn[i] (List.getElem_mem hi)
theorem aee {t:aL} (r:Right t):∀x∈(gZ t).bn,yw (gZ t) x:=fun x hx=>yw.of ((I9 r).idx x hx)
theorem R3 {t:aL} (r:Right t):jU t=some (gZ t).bn:=by
 have ixs:=r.ixs
 unfold jU
 refine bo (aeO t r) ?_
 refine QS (w:=(gZ t).bn) (J7 (fun i=>((i:Int),Da t.bn i)) t.bn.length (fun i hi=>?_) ?_ ?_) rfl
 ·show (bif _ then _ else _)=_
  rw [aD (by rw [rE];omega)]
  refine bo (cu (by rw [rE];exact hi)) ?_
  have h0:=BP t.bn i i hi
  rw [if_neg (Nat.lt_irrefl _)] at h0
  rw [h0,bX (by omega),gL (by omega) (by omega)]
  show some (Sum.inl (_,List.set _ (i:Int).toNat _))=_
  rw [Int.toNat_natCast,← aaP t.bn i hi]
 ·show (bif _ then _ else _)=_
  rw [aP (by rw [rE];omega)];rfl
 ·show ((0:Int),Da t.bn 0)=_
  rw [show Da t.bn 0=t.bn by apply List.ext_getElem;simp [Da];intro j h1 h2;simp [Da]]
structure Apart (T:aL) (R:List (List aj)):Prop where
 fit:∀l∈R,Fit T.aV l∧Iz l
 len:R.length≤40
 ap:R.Pairwise fun a b=>jc T a≠jc T b
theorem apart_eq {T : aL} (r:Right T) (hc:GQ T.aV) (rows:List (List aj)) (hv:∀l∈rows,Iz l) (hl:rows.length < 4611686018427387904):∃R,uH T rows=some R∧Apart T R:=by
  unfold uH
  refine ahG (T:=fun R=>Apart T R) (fun (y:List (List aj)×Int)=>∃i:Nat,y.2=(i:Int)∧i≤rows.length∧Apart T y.1) (fun R=>Apart T R) (fun y=>rows.length - y.2.toNat) ?_ ⟨0,rfl,Nat.zero_le _,fun l h=>(by cases h),by simp,List.Pairwise.nil⟩ (fun w h=>⟨w,rfl,h⟩)
  rintro ⟨R,_⟩ ⟨i,rfl,hi,hA⟩
  replace hA:Apart T R:=hA
  show (∃y',Option.bind _ _=_∧_)∨∃w,Option.bind _ _=_∧_
  by_cases g:i < rows.length
  rotate_left
  · exact .inr ⟨R,bo (a:=false) (by rw [aP (by omega)]) rfl,hA⟩
  by_cases g2:(R.length:Int) < 40
  rotate_left
  · exact .inr ⟨R,bo (a:=false) (by rw [aD (by omega),decide_eq_false g2]) rfl,hA⟩
  left
  have hmem:=List.getElem_mem g
  have hov:=hv _ hmem
  have key:∃R',Apart T R'∧Option.bind (α:=(List (List aj)))
            (Option.bind (bP rows (i:Int)) fun Rb=>
            Option.bind (sG T.aV Rb) fun Wj=>
            Option.bind (α:=Bool)
              (Option.bind (α:=Bool)
                (loop (Y:=Bool×Int) (W:=Bool) (fun (Dj,yB)=>
                  Option.bind (α:=Bool)
                    (bif (decide (yB < (R.length:Int))) then
                      some Dj
                    else
                      some false)
                    fun IJ=>
                  bif IJ then
                    Option.bind (bP R yB) fun Fj=>
                    Option.bind (fu T Fj) fun I5=>
                    Option.bind (bP rows (i:Int)) fun Fh=>
                    Option.bind (fu T Fh) fun I4=>
                    some (Sum.inl ((I5 != I4),(bL (yB+(1:Int)))))
                  else
                    some (Sum.inr Dj)) ((Wj==(0:Int)),(0:Int)))
                (fun e=>some e))
              fun VD=>
            bif VD then
              Option.bind (bP rows (i:Int)) fun Fg=>
              bif decide ((R.length+[Fg].length)*24≤room) then
              some (R++[Fg])
              else none
            else
              some R)
            (fun VE=>
          (some VE))=some R':=by
    have gi:=cu g
    by_cases hf:rH T.aV rows[i]=0
    · have fi:=Fit.of hf
      have lp : ∀ d k,k+d=R.length→loop (Y:=Bool×Int) (W:=Bool) (fun (Dj,yB)=>
                  Option.bind (α:=Bool)
                    (bif (decide (yB < (R.length:Int))) then
                      some Dj
                    else
                      some false)
                    fun IJ=>
                  bif IJ then
                    Option.bind (bP R yB) fun Fj=>
                    Option.bind (fu T Fj) fun I5=>
                    Option.bind (bP rows (i:Int)) fun Fh=>
                    Option.bind (fu T Fh) fun I4=>
                    some (Sum.inl ((I5 != I4),(bL (yB+(1:Int)))))
                  else
                    some (Sum.inr Dj)) (true,(k:Int))=some ((R.drop k).all fun m=>jc T m != jc T rows[i]):=by
        intro d
        induction d with
        | zero=>
          intro k hk
          rw [List.drop_eq_nil_of_le (by omega)]
          exact fM (bo (a:=false) (by rw [aP (by omega)]) rfl)
        | succ d ih =>
          intro k hk
          have hkl:k < R.length:=by omega
          have st : Option.bind (α:=Bool)
                    (bif (decide ((k:Int) < (R.length:Int))) then
                      some true
                    else
                      some false)
                    (fun IJ=>
                  bif IJ then
                    Option.bind (bP R (k:Int)) fun Fj=>
                    Option.bind (fu T Fj) fun I5=>
                    Option.bind (bP rows (i:Int)) fun Fh=>
                    Option.bind (fu T Fh) fun I4=>
                    some (Sum.inl ((I5 != I4),(bL ((k:Int)+(1:Int)))):(Bool×Int)⊕Bool)
                  else
                    some (Sum.inr true))=some (.inl (jc T R[k] != jc T rows[i],((k+1:Nat):Int))):=by
            refine bo (a:=true) (by rw [aD (by omega)]) ?_
            refine bo (cu hkl) (bo (ow T _ (hA.fit _ (List.getElem_mem hkl)).1 r) (bo gi (bo (ow T _ fi r) ?_)))
            rw [bX (by omega)];rfl
          rw [gB st,List.drop_eq_getElem_cons hkl,List.all_cons]
          cases hb:jc T R[k] != jc T rows[i] with
          | true=>rw [ih (k+1) (by omega)];rfl
          | false=>
            refine fM (bo (a:=false) ?_ rfl)
            by_cases q:((k+1:Nat):Int) < (R.length:Int)
            · rw [aD q]
            · rw [aP q]
      cases hall:R.all fun m=>jc T m != jc T rows[i] with
      | true=>
        refine ⟨R++[rows[i]],⟨fun l hl=>?_,?_,?_⟩,?_⟩
        · rcases List.mem_append.1 hl with q | q
          · exact hA.fit l q
          · rw [List.mem_singleton.1 q];exact ⟨fi,hov⟩
        · simp;omega
        · refine List.pairwise_append.2 ⟨hA.ap,List.pairwise_singleton _ _,fun a ha b hb=>?_⟩
          rw [List.mem_singleton.1 hb]
          simpa using List.all_eq_true.1 hall a ha
        · refine bo (a:=R++[rows[i]]) (bo gi (bo (xU _ _ hc hov) ?_)) rfl
          rw [hf]
          refine bo (a:=true) ?_ ?_
          · have:=lp R.length 0 (by omega)
            rw [List.drop_zero,hall] at this
            exact bo this rfl
          · refine bo gi ?_
            rw [aD (by rw [dL];simp;omega)]
      | false=>
        refine ⟨R,hA,?_⟩
        refine bo (a:=R) (bo gi (bo (xU _ _ hc hov) ?_)) rfl
        rw [hf]
        refine bo (a:=false) ?_ rfl
        have:=lp R.length 0 (by omega)
        rw [List.drop_zero,hall] at this
        exact bo this rfl
    · refine ⟨R,hA,?_⟩
      refine bo (a:=R) (bo gi (bo (xU _ _ hc hov) ?_)) rfl
      rw [show (rH T.aV rows[i]==0)=false by simpa using hf]
      refine bo (a:=false) (bo (fM (bo (a:=false) ?_ rfl)) rfl) rfl
      by_cases q:(0:Int) < (R.length:Int)
      · rw [aD q]
      · rw [aP q]
  obtain ⟨R',h1,h2⟩:=key
  refine ⟨(R',((i+1:Nat):Int)),?_,⟨i+1,rfl,g,h1⟩,?_⟩
  · refine bo (a:=true) (by rw [aD (by omega),decide_eq_true g2]) ?_
    obtain ⟨z,hz1,hz2⟩:=ob h2
    refine bo hz1 ?_
    have:=Option.some.inj hz2
    subst this
    show some (Sum.inl (_,bL ((i:Int)+1)))=_
    rw [bX (by omega)]
  · show rows.length - ((i+1:Nat):Int).toNat < rows.length - ((i:Nat):Int).toNat
    omega
section
variable {T:aL} {pt:PT} {rd:ay}
theorem adN {P:List aY} {C C':List Int} {O O' o:List aX} {lim lim':Int} {pl:bQ}:ig T ⟨P,C,O,lim⟩ pl o rd=ig T ⟨P,C',O',lim'⟩ pl o rd:=by
 unfold ig je iw iy fH iT fV;rfl
theorem acQ {P:List aY} {C:List Int} {O:List aX} {R:List (List aj)} (r:Right T) (hc:GQ T.aV) (hR:∀l∈R,acR T ⟨P,C,O,0⟩ l) (hlen:R.length≤1000) (ht:Eh pt) (hp:flat pt=P) (hpl:P.length≤1000) (hol:O.length≤1000) (ho:∀p∈O,0≤p.Col∧p.Col < T.aV.length) (hcl:C.length≤1000) (hC:∀c∈C,0≤c∧c < T.aV.length)
  (hpr:fA T.Tree Vl rd=some (R.map (fun l=>dh.mk (jc T l) (iZ l)),0)):∃L:List aG,L.Perm (tkn T pt R)∧L.Pairwise (fun a b=>zK O b a=false)∧∀lim,pI T ⟨P,C,O,lim⟩ rd=some ((lmt lim L).map (JF C),[bO.mk T.Tree Vl false],0):=by
 obtain ⟨z,n,h1,hz⟩:=aap (T:=T) (q:=⟨P,C,O,0⟩) (pl:=(bQ.mk (-1:Int) (dG.mk ([]:List UInt8) ([]:List UInt8) true) (0:Int) false false (0:Int))) (o:=O) (rd:=rd) (pt:=pt) r hc hR hlen ht hp hpl hol ho hpr
 have hin:OL O z:=(Xj (q:=⟨P,C,O,0⟩) hR ho).perm hz.perm
 have hzn:=hz.len
 have hn:n≤1000:=by
  have e1:=hz.perm.length_eq
  have e2:=O8 (T:=T) (pt:=pt) R
  omega
 obtain ⟨p1,p2⟩:=Ws (o:=O) (by omega) n z hin (by omega) (by omega) hz.heap
 rw [List.take_of_length_le (by omega)] at p1
 refine ⟨BI O n z,p1.trans hz.perm,p2,fun lim=>?_⟩
 have abR:∀x∈z,∀c∈C,0≤c∧c < x.row.length:=by
  intro x hx c hcc
  have:=hz.perm.mem_iff.1 hx
  unfold tkn at this
  obtain ⟨l,hl,rfl⟩:=List.mem_map.1 this
  have hf:=(hR l (List.mem_filter.1 hl).1).fit
  show 0≤c∧c < l.length
  rw [hf.len];exact hC c hcc
 obtain ⟨w,k1,k2⟩:=Zi (T:=T) (pl:=(bQ.mk (-1:Int) (dG.mk ([]:List UInt8) ([]:List UInt8) true) (0:Int) false false (0:Int))) (lk:=[(bO.mk T.Tree (dG.mk ([]:List UInt8) ([]:List UInt8) true) false)]) (rd:=(ay.mk rd.no rd.trees (bL (rd.calls+(1:Int))) rd.fail)) P C O lim (o:=O) (by omega) hin hzn hn hz.heap hcl abR
 unfold pI
 refine bo (a:=(0,z,0,n)) ?_ ?_
 ·refine bo (a:=()) rfl ?_
  rw [adN (C':=C) (O':=O) (lim':=0)]
  exact bo h1 rfl
 ·show Option.bind (iN _ _ _ _ _ _ _ _ _) _=_
  refine bo k1 ?_
  obtain ⟨w1,w2,w3⟩:=w
  replace k2:w1=_:=k2
  subst k2
  rfl
end
theorem Po (a:List (List aj)) (hl:a.length < 4611686018427387904) (h:∀l∈a,l.length < 4611686018427387904):Bz a a=some true:=by
 unfold Bz
 refine bf (by simp) ?_
 refine TS (w:=.inl ()) (J7 (fun k=>(k:Int)) a.length (fun k hk=>?_) ?_ rfl) rfl
 ·show (bif _ then _ else _)=_
  rw [aD (by omega)]
  refine bo (cu hk) (bo (cu hk) (bo (Nk _ _ (h _ (List.getElem_mem hk))) ?_))
  rw [decide_eq_true rfl]
  show some (Sum.inl (bL ((k:Int)+1)))=_
  rw [bX (by omega)]
 ·show (bif _ then _ else _)=_
  rw [aP (by omega)]
theorem adK (p:Int):0≤Int.tmod (bL ((Int.tmod p 10)+10)) 10∧Int.tmod (bL ((Int.tmod p 10)+10)) 10 < 10:=by
 have h1:=Int.tmod_lt_of_pos p (show (0:Int) < 10 by omega)
 have h2:-10 < Int.tmod p 10:=by
  have h3:=Int.tmod_lt_of_pos (-p) (show (0:Int) < 10 by omega)
  rw [Int.neg_tmod] at h3
  omega
 rw [gL (by omega) (by omega)]
 exact ⟨Int.tmod_nonneg _ (by omega),Int.tmod_lt_of_pos _ (by omega)⟩
theorem aaS {t:aL}:∀i j (hi:i < (uF (gZ t)).length) (hj:j < (uF (gZ t)).length),(uF (gZ t))[i]=(uF (gZ t))[j]→i=j:=by
 have key:∀i (hi:i < (uF (gZ t)).length),(uF (gZ t))[i]=2+(i:Int):=by
  intro i hi
  cases i with
  | zero=>rfl
  | succ i=>
   have hi2:i < t.bn.length:=by simpa [uF,gZ,rE] using hi
   have h0:=BP t.bn t.bn.length i hi2
   rw [if_pos hi2] at h0
   show ((gZ t).bn.map (·.Tree))[i]'(by simpa [uF] using hi)=_
   rw [List.getElem_map]
   show ((Da t.bn t.bn.length)[i]'(by rw [rE];exact hi2)).Tree=_
   rw [h0]
   show 3+(i:Int)=_
   omega
 intro i j hi hj h
 rw [key i hi,key j hj] at h
 omega
theorem aaR (t:aL):(uF (gZ t)).length=t.bn.length+1:=by simp [uF,gZ,rE]
abbrev rdS (T:aL) (R:List (List aj)):ay:=ay.mk (uF T) ((vw T R).map dY.mk) 0 0
theorem Uy (T:aL) (R':List (List aj)):((R'.map (ab0 (jc T) iZ)).filter fun e=>AB Vl e.Key).map BJ=R'.map fun l=>dh.mk (jc T l) (iZ l):=by
 rw [List.filter_eq_self.2 (fun e _=>aar e.Key),List.map_map];rfl
theorem Zm {t:aL} (r:Right t) {R R':List (List aj)} (hR:R.length≤1000) (h:SJ (jc (gZ t)) iZ yes R=R'.map (ab0 (jc (gZ t)) iZ)):fA (gZ t).Tree Vl (rdS (gZ t) R)=some (R'.map (fun l=>dh.mk (jc (gZ t) l) (iZ l)),0):=by
 have ixs:=r.ixs
 have hl:((vw (gZ t) R).map dY.mk).length=(uF (gZ t)).length:=by simp [vw,uF]
 have h0:0 < (uF (gZ t)).length:=by simp [uF]
 have:=acS (uF (gZ t)) ((vw (gZ t) R).map dY.mk) 0 0 Vl 0 h0 hl (by rw [aaR];omega) (fun j hj e=>aaS j 0 hj h0 e)
  (by show (SJ (jc (gZ t)) iZ yes R).length≤100000;have:=(agQ (jc (gZ t)) iZ yes R).2;omega) (by decide)
 rw [show (uF (gZ t))[0]=(gZ t).Tree from rfl] at this
 rw [this]
 show some (List.map BJ (List.filter _ (SJ (jc (gZ t)) iZ yes R)),0)=_
 rw [h,Uy]
theorem Wv {n:Nat} {l:List Int} (h:¬l.any (BL n)=true):∀c∈l,0≤c∧c < n:=by
 intro c hc
 have:BL n c=false:=by
  cases e:BL n c with
  | false=>rfl
  | true=>exact absurd (List.any_eq_true.2 ⟨c,hc,e⟩) h
 unfold BL at this
 simp at this
 omega
theorem ahy {t:aL} {q:bG} (h:pcS t q=0):yu t.aV q.Pred=0∧q.aV.length≤24∧q.Order.length≤4∧ -1≤q.Limit∧(∀c∈q.aV,0≤c∧c < t.aV.length)∧∀p∈q.Order,0≤p.Col∧p.Col < t.aV.length:=by
 unfold pcS at h
 by_cases g1:yu t.aV q.Pred=0
 rotate_left
 ·rw [if_pos g1] at h;exact absurd h g1
 rw [if_neg (fun k=>k g1)] at h
 by_cases g2:q.aV.length > 24∨q.Order.length > 4∨q.Limit < -1
 ·rw [if_pos g2] at h;cases h
 rw [if_neg g2] at h
 split at h
 ·cases h
 ·rename_i g3
  refine ⟨g1,by omega,by omega,by omega,Wv fun k=>g3 (.inl k),fun p hp=>?_⟩
  exact Wv (fun k=>g3 (.inr (.inl k))) p.Col (List.mem_map.2 ⟨p,hp,rfl⟩)
theorem Va {T:aL} {q:bG} (h:yu T.aV q.Pred=0) {R:List (List aj)} (hA:Apart T R):∃pt,Eh pt∧flat pt=q.Pred∧q.Pred.length≤200∧∀l∈R,acR T q l:=by
 obtain ⟨h1,h2,pt,h3,h4⟩:=ab8 h
 exact ⟨pt,h3,h4,h1,fun l hl=>⟨(hA.fit l hl).1,(hA.fit l hl).2,fun n hn=>UF (by rw [(hA.fit l hl).1.len];exact (h2 n hn).1)⟩⟩
theorem Je {α:Type} (f:α→Bool):∀l:List α,(l.filter f).length+(l.filter fun x=> !f x).length=l.length
 | []=>rfl
 | x::l=>by
  have:=Je f l
  cases h:f x <;> simp [List.filter_cons,h] <;> omega
theorem QL (ha:nX=some true) (t:aL) (q:bG) (rows:List (List aj)) (n:Int) (hT:OkT t) (hp:∀n∈q.Pred,OkN n) (ho:q.Order.length*16≤140737488351232) (hv:∀l∈rows,Iz l) (hl:rows.length < 4611686018427387904):mO t q rows n=some true:=by
 unfold mO
 refine bo ha (bf rfl ?_)
 by_cases g1:YJ t=0
 rotate_left
 ·exact bo (a:=true) (bo (wD t hT) (bt (by simpa using g1) rfl)) rfl
 by_cases g2:pcS t q=0
 rotate_left
 ·refine bo (a:=true) (bo (wD t hT) (bf (by simpa using g1) (bo (Iy t q hT.bW.1 hp ho) ?_))) rfl
  simpa using g2
 refine bo (a:=false) (bo (wD t hT) (bf (by simpa using g1) (bo (Iy t q hT.bW.1 hp ho) ?_))) ?_
 ·rw [g2];rfl
 have r:=Right.of g1
 obtain ⟨q1,q2,q3,q4,q5,q6⟩:=ahy g2
 have rT:=I9 r
 have hcT:GQ (gZ t).aV:=hT.bW
 obtain ⟨R,hR,hA⟩:=apart_eq rT hcT rows hv hl
 have hRl:=hA.len
 show Option.bind (jU t) _=_
 refine bo (R3 r) (bo hR (bo (TL rT (aee r) (fun l hl=>(hA.fit l hl).1) (by omega)) ?_))
 obtain ⟨R',k1,k2⟩:=aeI (jc (gZ t)) iZ R hA.ap
 have hpr:=Zm r (by omega) k2
 have hA':Apart (gZ t) R':=⟨fun l hl=>hA.fit l (k1.mem_iff.1 hl),by rw [k1.length_eq];exact hRl,(k1.pairwise_iff (fun h=>fun e=>h e.symm)).2 hA.ap⟩
 have avv:=k1.length_eq
 obtain ⟨pt,ht,hfl,hpl,hrq⟩:=Va (T:=gZ t) (q:=q) q1 hA'
 obtain ⟨L,l1,l2,l3⟩:=acQ (T:=gZ t) (P:=q.Pred) (C:=q.aV) (O:=q.Order) (pt:=pt) (rd:=rdS (gZ t) R) rT hcT (fun l hl=>⟨(hrq l hl).fit,(hrq l hl).ok,(hrq l hl).node⟩) (by omega) ht hfl (by omega) (by omega) q6 (by omega) q5 hpr
 have hL:L.length≤40:=by
  have:=l1.length_eq
  have h2:=O8 (T:=gZ t) (pt:=pt) R'
  omega
 refine bo (l3 (-1)) (bo (l3 _) ?_)
 obtain ⟨n1,n2⟩:=adK n
 generalize Int.tmod (bL ((Int.tmod n 10)+10)) 10=N at n1 n2
 have e1:(lmt (-1) L).map (JF q.aV)=L.map (JF q.aV):=rfl
 have e2:(lmt N L).map (JF q.aV)=(L.map (JF q.aV)).take N.toNat:=by unfold lmt;rw [if_neg (by omega),List.map_take]
 rw [e1,e2]
 have e3:((L.map (JF q.aV)).take N.toNat).length=min N.toNat L.length:=by simp
 refine bo (a:=false) ?_ ?_
 ·refine bf rfl (bf rfl ?_)
  rw [aP (by rw [e3];omega),aP (by rw [e3,List.length_map];omega),aD (by rw [e3,List.length_map];omega)]
  have e4:List.take ((((L.map (JF q.aV)).take N.toNat).length:Int)).toNat (L.map (JF q.aV))=(L.map (JF q.aV)).take N.toNat:=by
   rw [Int.toNat_natCast,e3]
   by_cases g:N.toNat≤L.length
   ·rw [Nat.min_eq_left g]
   ·rw [Nat.min_eq_right (by omega),List.take_of_length_le (by simp),List.take_of_length_le (by simp;omega)]
  rw [e4]
  refine bo (Po _ (by rw [e3];omega) fun l hl=>?_) (bf rfl ?_)
  ·obtain ⟨x,hx,rfl⟩:=List.mem_map.1 (List.mem_of_mem_take hl)
   unfold JF;rw [List.length_map];omega
  ·by_cases g:N.toNat≤L.length
   ·rw [aP (by rw [e3];omega)]
   ·rw [aD (by rw [e3];omega)]
    have:(((L.map (JF q.aV)).take N.toNat).length:Int)=((L.map (JF q.aV)).length:Int):=by rw [e3,List.length_map];omega
    rw [this];simp
 show (bif _ then _ else _)=_
 rw [aD (by rw [dL];simp;omega),aD (by rw [dL];simp;omega)]
 have okA:∀m∈q.Pred++[R6],OkN m:=by
  intro m hm
  rcases List.mem_append.1 hm with h | h
  ·exact hp m h
  ·rw [List.mem_singleton.1 h];exact aeJ 6
 refine bo (Iy (gZ t) ⟨q.Pred++[R6],q.aV,q.Order,-1⟩ hcT.1 okA ho) ?_
 by_cases g3:pcS (gZ t) ⟨q.Pred++[R6],q.aV,q.Order,-1⟩=0
 rotate_left
 ·exact bt (by simpa using g3) rfl
 rw [g3]
 refine bf rfl ?_
 obtain ⟨M,m1,m2,m3⟩:=acQ (T:=gZ t) (P:=q.Pred++[R6]) (C:=q.aV) (O:=q.Order) (R:=R') (pt:=.un R6 pt) (rd:=rdS (gZ t) R) rT hcT (fun l hl=>⟨(hrq l hl).fit,(hrq l hl).ok,fun m hm=>by
  rcases List.mem_append.1 hm with h | h
  ·exact (hrq l hl).node m h
  ·rw [List.mem_singleton.1 h];exact Yq l⟩) (by omega) ⟨rfl,ht⟩ (by show flat pt++[R6]=_;rw [hfl]) (by simp;omega) (by omega) q6 (by omega) q5 hpr
 refine bo (m3 (-1)) ?_
 have e5:(lmt (-1) M).map (JF q.aV)=M.map (JF q.aV):=rfl
 rw [e5]
 refine bo (a:=true) ?_ rfl
 show some (bL (((L.map (JF q.aV)).length:Int)+((M.map (JF q.aV)).length:Int))==(R.length:Int))=some true
 have s1:=l1.length_eq
 have s2:=m1.length_eq
 have s3:=Je (fun l=>pU l pt) R'
 unfold tkn at s1 s2
 rw [List.length_map] at s1 s2
 have s4:(R'.filter fun l=>pU l (.un R6 pt)).length=(R'.filter fun l=> !pU l pt).length:=rfl
 rw [List.length_map,List.length_map,gL (by omega) (by omega)]
 congr 1
 simp
 omega
omit [bJ] in
theorem akY {R:Nat} (hR:R≤140737488355328) {q:bG} (h:BN R q):∀n∈q.Pred,OkN n:=fun n hn=>by
 obtain ⟨_,_,_,k4,_⟩:=h.1.2 n hn
 have k5:=k4.2.2.1
 show n.Val.S.length < 4611686018427387904
 omega
end Lv
namespace Lv
open Option renaming bind→ah
open Go Go.Proofs
set_option maxRecDepth 100000
set_option maxHeartbeats 4000000
variable [bJ]
def Le {α:Type} (a b:Option α):Prop:=∀r,a=some r→b=some r
theorem zr {α:Type} (a:Option α):Le a a:=fun _ h=>h
theorem zb {α β:Type} {a a':Option α} {f f':α→Option β} (h:Le a a') (k:∀x,Le (f x) (f' x)):Le (ah a f) (ah a' f'):=by
 intro r hr
 cases ha:a with
 | none=>rw [ha] at hr;cases hr
 | some x=>
  rw [ha] at hr
  rw [h x ha]
  exact k x r hr
theorem zc {α:Type} {c:Bool} {a a' b b':Option α} (h:Le a a') (k:Le b b'):Le (bif c then a else b) (bif c then a' else b'):=by
 cases c
 ·exact k
 ·exact h
theorem zm {α β γ:Type} {f f':α→Option γ} {g g':β→Option γ} {s:α⊕β} (h:∀x,Le (f x) (f' x)) (k:∀x,Le (g x) (g' x)):Le (Sum.elim f g s) (Sum.elim f' g' s):=by
 cases s
 ·exact h _
 ·exact k _
theorem zE {Y E R:Type} {p p':Option (Y⊕E)} {k k':Y→Option R} {e e':E→Option R} (h:Le p p') (hk:∀x,Le (k x) (k' x)) (he:∀x,Le (e x) (e' x)):Le (fP p k e) (fP p' k' e'):=
 zb h fun x=>zm hk he
def nK {Y W:Type} (B:Y→Option (Y⊕W)) (y:Y):Option W:=mM B 12 y
theorem zn {Y W:Type} {B B':Y→Option (Y⊕W)} (h:∀y,Le (B y) (B' y)):∀n y,Le (mM B n y) (mM B' n y)
 | 0,y=>fun _ h=>by cases h
 | n+1,y=>by
  intro r hr
  simp only [Lv.mM] at hr ⊢
  cases hb:B y with
  | none=>rw [hb] at hr;cases hr
  | some s=>
   rw [hb] at hr
   rw [h y s hb]
   cases s with
   | inl y'=>exact zn h n y' r hr
   | inr w=>exact hr
theorem zl {Y W:Type} {B B':Y→Option (Y⊕W)} {y:Y} (h:∀y,Le (B y) (B' y)):Le (nK B y) (loop B' y):=fun r hr=>J8 (zn h _ y r hr)
noncomputable def qR (p0:List aU) (p1:dG) (p2:Int):Option ((List aU)):=
 ah (α:=(List aU))
 (ah (α:=(List aU))
 (nK (Y:=(List aU)×Int) (W:=(List aU)) (fun (DV,Jm)=>
 bif (decide (Jm < (p0.length:Int))) then
 ah (α:=(List aU))
 (ah (α:=Bool)
 (ah (bP p0 Jm) fun Ra=>
 ah (yI p1 Ra.Key) fun adY=>
 bif adY then
 bif (decide (p2 < (0:Int))) then
 some true
 else
 some (decide ((DV.length:Int) < p2))
 else
 some false)
 fun adb=>
 bif adb then
 ah (bP p0 Jm) fun G9=>
 bif decide ((DV.length+[G9].length)*72≤room) then
 some (DV++[G9])
 else none
 else
 some DV)
 fun adh=>
 some (Sum.inl (adh,(bL (Jm+(1:Int)))))
 else
 some (Sum.inr DV)) (([]:List aU),(0:Int)))
 (fun e=>some e))
 fun Xw=>
 some Xw
theorem FP (p0:List aU) (p1:dG) (p2:Int):Le (qR p0 p1 p2) (jo p0 p1 p2):=by
 unfold qR jo
 repeat (first|apply zb|apply zc|apply zl|apply zE|apply zm|exact zr _|intro _)
noncomputable def nW (p0:Int) (p1:dG) (p2:ay):Option ((List dh)×Int):=
 ah (kF p2) fun _=>
 bif ((bL (p2.calls+(1:Int)))==p2.fail) then
 some (([]:List dh),(4:Int))
 else
 ah (α:=(List dh))
 (ah (α:=(List dh))
 (nK (Y:=(List dh)×Int) (W:=(List dh)) (fun (QW,Jk)=>
 bif (decide (Jk < (p2.no.length:Int))) then
 ah (α:=(List dh))
 (ah (bP p2.no Jk) fun adC=>
 bif (adC != p0) then
 some QW
 else
 ah (bP p2.trees Jk) fun XF=>
 ah (qR XF.L p1 (-1:Int)) fun Pq=>
 ah (α:=(List dh))
 (nK (Y:=(List dh)×Int) (W:=(List dh)) (fun (OP,DU)=>
 bif (decide (DU < (Pq.length:Int))) then
 ah (bP Pq DU) fun M4=>
 ah (bP Pq DU) fun M0=>
 bif decide ((OP.length+[(dh.mk M4.Key M0.Val)].length)*32≤room) then
 some (Sum.inl ((OP++[(dh.mk M4.Key M0.Val)]),(bL (DU+(1:Int)))))
 else none
 else
 some (Sum.inr OP)) (QW,(0:Int)))
 (fun e=>some e))
 fun ac5=>
 some (Sum.inl (ac5,(bL (Jk+(1:Int)))))
 else
 some (Sum.inr QW)) (([]:List dh),(0:Int)))
 (fun e=>some e))
 fun Xq=>
 some (Xq,(0:Int))
theorem BX (p0:Int) (p1:dG) (p2:ay):Le (nW p0 p1 p2) (fA p0 p1 p2):=by
 unfold nW fA
 repeat (first|exact FP _ _ _|apply zb|apply zc|apply zl|apply zE|apply zm|exact zr _|intro _)
noncomputable def sZ (p0:Int) (p1:aL) (p2:bG) (p3:bQ) (p4:List aX) (p5:ay):Option ((List dh)×Int):=
 bif decide ([(bO.mk p0 p3.Span false)].length*56≤room) then
 ah (nW p0 p3.Span p5) fun (PE,r14)=>
 some (PE,r14)
 else none
theorem Ie (p0:Int) (p1:aL) (p2:bG) (p3:bQ) (p4:List aX) (p5:ay):Le (sZ p0 p1 p2 p3 p4 p5) (je p0 p1 p2 p3 p4 p5):=by
 unfold sZ je
 repeat (first|exact BX _ _ _|apply zb|apply zc|apply zl|apply zE|apply zm|exact zr _|intro _)
noncomputable def ze (p0:List UInt8):Option Bool:=
 ah (α:=Bool)
 (bif (p0==([]:List UInt8)) then
 some true
 else
 some (decide ((p0.length:Int) > (16:Int))))
 fun y88=>
 bif y88 then
 some false
 else
 fP (Y:=Unit) (E:=Bool)
 (ah (α:=Unit⊕Bool)
 (nK (Y:=Int) (W:=Unit⊕Bool) (fun iR=>
 bif (decide (iR < (p0.length:Int))) then
 ah (bP p0 iR) fun lQ=>
 ah (α:=Bool)
 (bif (decide ((97:UInt8)≤lQ)) then
 some (decide (lQ≤(122:UInt8)))
 else
 some false)
 fun adv=>
 ah (α:=Bool)
 (bif (!adv) then
 bif (iR==(0:Int)) then
 some true
 else
 bif (lQ != (95:UInt8)) then
 bif (decide (lQ < (48:UInt8))) then
 some true
 else
 some (decide ((57:UInt8) < lQ))
 else
 some false
 else
 some false)
 fun adu=>
 bif adu then
 some (Sum.inr (Sum.inr false))
 else
 some (Sum.inl (bL (iR+(1:Int))))
 else
 some (Sum.inr (Sum.inl ()))) (0:Int))
 (Sum.elim (fun e=>some (Sum.inl e)) (fun e=>some (Sum.inr e))))
 (fun _=>
 some true)
 (fun e=>some e)
theorem OW (p0:List UInt8):Le (ze p0) (pR p0):=by
 unfold ze pR
 repeat (first|apply zb|apply zc|apply zl|apply zE|apply zm|exact zr _|intro _)
noncomputable def vU (p0:aA):Option Int:=
 ah (ze p0.Name) fun RH=>
 bif (!RH) then
 some (1:Int)
 else
 ah (α:=Bool)
 (bif (decide (p0.Kind < (1:Int))) then
 some true
 else
 some (decide (p0.Kind > (5:Int))))
 fun Vx=>
 bif Vx then
 some (8:Int)
 else
 ah (α:=Bool)
 (ah (jM p0.Kind) fun X5=>
 bif X5 then
 bif (decide (p0.Max < (1:Int))) then
 some true
 else
 bif (decide (p0.Max > (64:Int))) then
 some true
 else
 ah (jM p0.Kind) fun DF=>
 bif (!DF) then
 some (p0.Max != (0:Int))
 else
 some false
 else
 ah (jM p0.Kind) fun X4=>
 bif (!X4) then
 some (p0.Max != (0:Int))
 else
 some false)
 fun II=>
 bif II then
 some (7:Int)
 else
 ah (kJ p0 p0.Default) fun X3=>
 some X3
theorem Kw (p0:aA):Le (vU p0) (lM p0):=by
 unfold vU lM
 repeat (first|exact OW _|apply zb|apply zc|apply zl|apply zE|apply zm|exact zr _|intro _)
noncomputable def uR (p0:aA):Option Bool:=
 ah (vU p0) fun r7=>
 some (r7 != (0:Int))
theorem Jv (p0:aA):Le (uR p0) (mU p0):=by
 unfold uR mU
 repeat (first|exact Kw _|apply zb|apply zc|apply zl|apply zE|apply zm|exact zr _|intro _)
noncomputable def fZ (p0:List aA):Option Int:=
 fP (Y:=Unit) (E:=Int)
 (ah (α:=Unit⊕Int)
 (nK (Y:=Int) (W:=Unit⊕Int) (fun GR=>
 bif (decide (GR < (p0.length:Int))) then
 ah (bP p0 GR) fun v85=>
 ah (uR v85) fun XY=>
 bif XY then
 some (Sum.inr (Sum.inr GR))
 else
 some (Sum.inl (bL (GR+(1:Int))))
 else
 some (Sum.inr (Sum.inl ()))) (0:Int))
 (Sum.elim (fun e=>some (Sum.inl e)) (fun e=>some (Sum.inr e))))
 (fun _=>
 some (-1:Int))
 (fun e=>some e)
theorem nA (p0:List aA):Le (fZ p0) (dK p0):=by
 unfold fZ dK
 repeat (first|exact Jv _|apply zb|apply zc|apply zl|apply zE|apply zm|exact zr _|intro _)
noncomputable def fJ (p0:List aA):Option Bool:=
 ah (fZ p0) fun r7=>
 some (decide (r7≥(0:Int)))
theorem lC (p0:List aA):Le (fJ p0) (dD p0):=by
 unfold fJ dD
 repeat (first|exact nA _|apply zb|apply zc|apply zl|apply zE|apply zm|exact zr _|intro _)
noncomputable def tN (p0:List aA):Option Bool:=
 ah (α:=Bool)
 (bif (decide ((p0.length:Int)≥(1:Int))) then
 bif (decide ((p0.length:Int)≤(24:Int))) then
 ah (fJ p0) fun GV=>
 some (!GV)
 else
 some false
 else
 some false)
 fun OT=>
 some OT
theorem Dt (p0:List aA):Le (tN p0) (lI p0):=by
 unfold tN lI
 repeat (first|exact lC _|apply zb|apply zc|apply zl|apply zE|apply zm|exact zr _|intro _)
noncomputable def sM (p0:Int) (p1:List UInt8) (p2:Bool):Option (UInt64×Nat×Nat×Bool):=
 ah (α:=UInt64×Nat×Nat×Bool)
 (ah (kE p0 p1 p2) fun (K5,NV,r98,r99)=>
 ah (α:=UInt64×Nat×Nat×Bool)
 (nK (Y:=UInt64×Int) (W:=UInt64×Nat×Nat×Bool) (fun (y101,y102)=>
 bif (decide (y102 < (K5:Int))) then
 ah (mP p1 0 K5 y102) fun Z7=>
 some (Sum.inl (((pz y101 8) ||| (Z7.toUInt64)),(bL (y102+(1:Int)))))
 else
 some (Sum.inr (y101,NV,r98,r99))) ((0:UInt64),(0:Int)))
 (fun e=>some e))
 fun (y90,y91,TW,y93)=>
 some (y90,y91,TW,y93)
theorem H7 (p0:Int) (p1:List UInt8) (p2:Bool):Le (sM p0 p1 p2) (jR p0 p1 p2):=by
 unfold sM jR
 repeat (first|apply zb|apply zc|apply zl|apply zE|apply zm|exact zr _|intro _)
noncomputable def wN (p0:List UInt8) (p1:Bool):Option (UInt8×Nat×Nat×Bool):=
 ah (sM (1:Int) p0 p1) fun (r16,Wm,NW,GV)=>
 some ((r16.toUInt8),Wm,NW,GV)
theorem Lc (p0:List UInt8) (p1:Bool):Le (wN p0 p1) (lW p0 p1):=by
 unfold wN lW
 repeat (first|exact H7 _ _ _|apply zb|apply zc|apply zl|apply zE|apply zm|exact zr _|intro _)
noncomputable def jQ (p0:Int) (p1:List UInt8) (p2:Nat) (p3:Nat) (p4:Bool):Option (UInt64×Nat×Nat×Bool):=
 ah (α:=UInt64×Nat×Nat×Bool)
 (ah (gG p0 p1 p2 p3 p4) fun (RO,K8,RN,aaC,pG)=>
 ah (α:=UInt64×Nat×Nat×Bool)
 (nK (Y:=UInt64×Int) (W:=UInt64×Nat×Nat×Bool) (fun (Az,G7)=>
 bif (decide (G7 < (K8:Int))) then
 ah (mP p1 RO K8 G7) fun Z6=>
 some (Sum.inl (((pz Az 8) ||| (Z6.toUInt64)),(bL (G7+(1:Int)))))
 else
 some (Sum.inr (Az,RN,aaC,pG))) ((0:UInt64),(0:Int)))
 (fun e=>some e))
 fun (y95,y96,Xn,y98)=>
 some (y95,y96,Xn,y98)
theorem qd (p0:Int) (p1:List UInt8) (p2:Nat) (p3:Nat) (p4:Bool):Le (jQ p0 p1 p2 p3 p4) (eF p0 p1 p2 p3 p4):=by
 unfold jQ eF
 repeat (first|apply zb|apply zc|apply zl|apply zE|apply zm|exact zr _|intro _)
noncomputable def sO (p0:List UInt8) (p1:Nat) (p2:Nat) (p3:Bool):Option (Bool×Nat×Nat×Bool):=
 ah (α:=Bool)
 (bif (decide ((p2:Int) > (0:Int))) then
 ah (mP p0 p1 p2 (0:Int)) fun v28=>
 some (decide ((1:UInt8) < v28))
 else
 some false)
 fun y26=>
 bif y26 then
 ah (α:=Unit)
 (some ())
 fun _=>
 some (false,p1,p2,true)
 else
 ah (jQ (1:Int) p0 p1 p2 p3) fun (r31,r32,r33,r34)=>
 some ((r31==(1:UInt64)),r32,r33,r34)
theorem H8 (p0:List UInt8) (p1:Nat) (p2:Nat) (p3:Bool):Le (sO p0 p1 p2 p3) (jS p0 p1 p2 p3):=by
 unfold sO jS
 repeat (first|exact qd _ _ _ _ _|apply zb|apply zc|apply zl|apply zE|apply zm|exact zr _|intro _)
noncomputable def xZ (p0:List UInt8) (p1:Nat) (p2:Nat) (p3:Bool):Option (UInt64×Nat×Nat×Bool):=
 ah (jQ (8:Int) p0 p1 p2 p3) fun (r16,Wm,NW,GV)=>
 some (r16,Wm,NW,GV)
theorem Nr (p0:List UInt8) (p1:Nat) (p2:Nat) (p3:Bool):Le (xZ p0 p1 p2 p3) (qE p0 p1 p2 p3):=by
 unfold xZ qE
 repeat (first|exact qd _ _ _ _ _|apply zb|apply zc|apply zl|apply zE|apply zm|exact zr _|intro _)
noncomputable def zy (p0:List UInt8) (p1:Nat) (p2:Nat) (p3:Bool):Option (UInt8×Nat×Nat×Bool):=
 ah (jQ (1:Int) p0 p1 p2 p3) fun (r16,Wm,NW,GV)=>
 some ((r16.toUInt8),Wm,NW,GV)
theorem PN (p0:List UInt8) (p1:Nat) (p2:Nat) (p3:Bool):Le (zy p0 p1 p2 p3) (sN p0 p1 p2 p3):=by
 unfold zy sN
 repeat (first|exact qd _ _ _ _ _|apply zb|apply zc|apply zl|apply zE|apply zm|exact zr _|intro _)
noncomputable def D7 (p0:Int) (p1:List UInt8) (p2:Nat) (p3:Nat) (p4:Bool):Option (Nat×Nat×Bool×aj):=
 ah (sO p1 p2 p3 p4) fun (r94,Pp,K5,NV)=>
 bif r94 then
 some (Pp,K5,NV,(aj.mk (0:Int) (0:UInt64) ([]:List UInt8)))
 else
 ah (α:=Nat×Nat×Bool×aj)
 (ah (α:=Bool)
 (bif (p0==(1:Int)) then
 some (p0==(1:Int))
 else
 some (p0==(2:Int)))
 fun adw=>
 bif adw then
 ah (xZ p1 Pp K5 NV) fun (BA,ad7,ad6,Uv)=>
 some (ad7,ad6,Uv,(aj.mk p0 BA ([]:List UInt8)))
 else
 bif (p0==(3:Int)) then
 ah (zy p1 Pp K5 NV) fun (Yc,wJ,Ut,ad5)=>
 some (wJ,Ut,ad5,(aj.mk p0 (Yc.toUInt64) ([]:List UInt8)))
 else
 ah (oK p1 Pp K5 NV) fun (Us,Ur,ad4,ad3)=>
 some (Ur,ad4,ad3,(aj.mk p0 (0:UInt64) Us)))
 fun (y115,iR,adx,XB)=>
 some (y115,iR,adx,XB)
theorem Ul (p0:Int) (p1:List UInt8) (p2:Nat) (p3:Nat) (p4:Bool):Le (D7 p0 p1 p2 p3 p4) (wu p0 p1 p2 p3 p4):=by
 unfold D7 wu
 repeat (first|exact H8 _ _ _ _|exact Nr _ _ _ _|exact PN _ _ _ _|apply zb|apply zc|apply zl|apply zE|apply zm|exact zr _|intro _)
noncomputable def D8 (p0:List aA) (p1:List UInt8):Option (Bool×(List aj)):=
 ah (Cy p1) fun _=>
 ah (wN p1 false) fun (wH,PD,Eb,Pz)=>
 ah (α:=Bool)
 (bif (decide ((wH.toNat:Int) < (1:Int))) then
 some true
 else
 some (decide ((wH.toNat:Int) > (p0.length:Int))))
 fun adp=>
 bif adp then
 some (false,([]:List aj))
 else
 fP (Y:=(List aj)×Nat×Nat×Bool) (E:=Bool×(List aj))
 (bif decide (0≤(wH.toNat:Int)∧(wH.toNat:Int)≤(p0.length:Int)) then
 ah (α:=((List aj)×Nat×Nat×Bool)⊕(Bool×(List aj)))
 (nK (Y:=Int×(List aj)×Nat×Nat×Bool) (W:=((List aj)×Nat×Nat×Bool)⊕(Bool×(List aj))) (fun (OQ,G6,MU,E5,MS)=>
 bif (decide (OQ < ((List.take (wH.toNat:Int).toNat p0).length:Int))) then
 ah (bP (List.take (wH.toNat:Int).toNat p0) OQ) fun DX=>
 ah (oL p1 MU E5 MS) fun _=>
 ah (D7 DX.Kind p1 MU E5 MS) fun (RL,RJ,HV,FT)=>
 ah (α:=Bool)
 (ah (uE p1 RL RJ HV) fun _=>
 bif HV then
 some true
 else
 ah (kJ DX FT) fun adZ=>
 some (adZ != (0:Int)))
 fun adi=>
 bif adi then
 some (Sum.inr (Sum.inr (false,G6)))
 else
 ah (nP FT (E5:Int) G6) fun _=>
 some (Sum.inl ((bL (OQ+(1:Int))),(G6++[FT]),RL,RJ,HV))
 else
 some (Sum.inr (Sum.inl (G6,MU,E5,MS)))) ((0:Int),([]:List aj),PD,Eb,Pz))
 (Sum.elim (fun e=>some (Sum.inl e)) (fun e=>some (Sum.inr e)))
 else none)
 (fun (adl,Zz,Zy,Zx)=>
 ah (rD p1 Zz Zy Zx) fun aaw=>
 some (aaw,adl))
 (fun e=>some e)
theorem Um (p0:List aA) (p1:List UInt8):Le (D8 p0 p1) (wz p0 p1):=by
 unfold D8 wz
 repeat (first|exact Lc _ _|exact Ul _ _ _ _ _|apply zb|apply zc|apply zl|apply zE|apply zm|exact zr _|intro _)
noncomputable def zu (p0:List aA) (p1:List UInt8):Option ((List aj)×Int):=
 ah (tN p0) fun r86=>
 bif (!r86) then
 some (([]:List aj),(1:Int))
 else
 ah (α:=Bool×(List aj))
 (bif (decide ((p1.length:Int) > (512:Int))) then
 some (true,([]:List aj))
 else
 ah (D8 p0 p1) fun (r94,Pp)=>
 some ((!r94),Pp))
 fun (y90,y91)=>
 bif y90 then
 some (([]:List aj),(2:Int))
 else
 ah (α:=(List aj))
 (bif decide (0≤(y91.length:Int)∧(y91.length:Int)≤(p0.length:Int)) then
 ah (α:=(List aj))
 (nK (Y:=Int×(List aj)) (W:=(List aj)) (fun (y115,iR)=>
 bif (decide (y115 < ((List.drop (y91.length:Int).toNat p0).length:Int))) then
 ah (bP (List.drop (y91.length:Int).toNat p0) y115) fun gD=>
 bif decide ((iR.length+[gD.Default].length)*32≤room) then
 some (Sum.inl ((bL (y115+(1:Int))),(iR++[gD.Default])))
 else none
 else
 some (Sum.inr iR)) ((0:Int),y91))
 (fun e=>some e)
 else none)
 fun XC=>
 some (XC,(0:Int))
theorem Pj (p0:List aA) (p1:List UInt8):Le (zu p0 p1) (pX p0 p1):=by
 unfold zu pX
 repeat (first|exact Dt _|exact Um _ _|apply zb|apply zc|apply zl|apply zE|apply zm|exact zr _|intro _)
noncomputable def Bl (p0:List Int):Option ((List aX)):=
 ah (α:=(List aX))
 (ah (α:=(List aX))
 (nK (Y:=(List aX)×Int) (W:=(List aX)) (fun (xO,AX)=>
 bif (decide (AX < (p0.length:Int))) then
 ah (bP p0 AX) fun v83=>
 bif decide ((xO.length+[(aX.mk v83 false)].length)*16≤room) then
 some (Sum.inl ((xO++[(aX.mk v83 false)]),(bL (AX+(1:Int)))))
 else none
 else
 some (Sum.inr xO)) (([]:List aX),(0:Int)))
 (fun e=>some e))
 fun IG=>
 some IG
theorem Rn (p0:List Int):Le (Bl p0) (r9 p0):=by
 unfold Bl r9
 repeat (first|apply zb|apply zc|apply zl|apply zE|apply zm|exact zr _|intro _)
noncomputable def D9 (p0:List aA) (p1:List aj):Option Int:=
 ah (α:=Bool)
 (ah (tN p0) fun r89=>
 bif (!r89) then
 some true
 else
 some ((p1.length:Int) != (p0.length:Int)))
 fun y86=>
 bif y86 then
 some (1:Int)
 else
 fP (Y:=Unit) (E:=Int)
 (ah (α:=Unit⊕Int)
 (nK (Y:=Int) (W:=Unit⊕Int) (fun y112=>
 bif (decide (y112 < (p1.length:Int))) then
 ah (bP p1 y112) fun He=>
 ah (bP p0 y112) fun KC=>
 ah (kJ KC He) fun BA=>
 bif (BA != (0:Int)) then
 some (Sum.inr (Sum.inr BA))
 else
 some (Sum.inl (bL (y112+(1:Int))))
 else
 some (Sum.inr (Sum.inl ()))) (0:Int))
 (Sum.elim (fun e=>some (Sum.inl e)) (fun e=>some (Sum.inr e))))
 (fun _=>
 some (0:Int))
 (fun e=>some e)
theorem Un (p0:List aA) (p1:List aj):Le (D9 p0 p1) (wB p0 p1):=by
 unfold D9 wB
 repeat (first|exact Dt _|apply zb|apply zc|apply zl|apply zE|apply zm|exact zr _|intro _)
noncomputable def gF (p0:List aj):Option Int:=
 fP (Y:=Unit) (E:=Int)
 (ah (α:=Unit⊕Int)
 (nK (Y:=Int) (W:=Unit⊕Int) (fun GR=>
 bif (decide (GR < (p0.length:Int))) then
 ah (bP p0 GR) fun v85=>
 ah (lZ v85) fun XY=>
 bif XY then
 some (Sum.inr (Sum.inr GR))
 else
 some (Sum.inl (bL (GR+(1:Int))))
 else
 some (Sum.inr (Sum.inl ()))) (0:Int))
 (Sum.elim (fun e=>some (Sum.inl e)) (fun e=>some (Sum.inr e))))
 (fun _=>
 some (-1:Int))
 (fun e=>some e)
theorem nO (p0:List aj):Le (gF p0) (dN p0):=by
 unfold gF dN
 repeat (first|apply zb|apply zc|apply zl|apply zE|apply zm|exact zr _|intro _)
noncomputable def fQ (p0:List aj):Option Bool:=
 ah (gF p0) fun r7=>
 some (decide (r7≥(0:Int)))
theorem mG (p0:List aj):Le (fQ p0) (dz p0):=by
 unfold fQ dz
 repeat (first|exact nO _|apply zb|apply zc|apply zl|apply zE|apply zm|exact zr _|intro _)
noncomputable def zL (p0:List UInt8):Option ((List UInt8)):=
 ah (α:=(List UInt8))
 (ah (α:=(List UInt8))
 (nK (Y:=(List UInt8)×Int) (W:=(List UInt8)) (fun (xO,AX)=>
 bif (decide (AX < (p0.length:Int))) then
 ah (bP xO AX) fun v83=>
 ah (bP xO AX) fun v84=>
 some (Sum.inl ((List.set xO AX.toNat (~~~ v83)),(bL (AX+(1:Int)))))
 else
 some (Sum.inr xO)) (p0,(0:Int)))
 (fun e=>some e))
 fun IG=>
 some IG
theorem PZ (p0:List UInt8):Le (zL p0) (lY p0):=by
 unfold zL lY
 repeat (first|apply zb|apply zc|apply zl|apply zE|apply zm|exact zr _|intro _)
noncomputable def Ia (p0:aj) (p1:Bool):Option ((List UInt8)):=
 ah (mW (p0.Kind != (0:Int))) fun DF=>
 ah (α:=(List UInt8))
 (bif (p0.Kind==(1:Int)) then
 ah (kD (p0.N ^^^ (9223372036854775808:UInt64)) DF) fun _=>
 some ((((DF++[((fK ((fT ((dO (p0.N ^^^ (9223372036854775808:UInt64)) 32).toUInt32) 16).toUInt16) 8).toUInt8),(((fT ((dO (p0.N ^^^ (9223372036854775808:UInt64)) 32).toUInt32) 16).toUInt16).toUInt8)])++[((fK (((dO (p0.N ^^^ (9223372036854775808:UInt64)) 32).toUInt32).toUInt16) 8).toUInt8),((((dO (p0.N ^^^ (9223372036854775808:UInt64)) 32).toUInt32).toUInt16).toUInt8)])++[((fK ((fT ((p0.N ^^^ (9223372036854775808:UInt64)).toUInt32) 16).toUInt16) 8).toUInt8),(((fT ((p0.N ^^^ (9223372036854775808:UInt64)).toUInt32) 16).toUInt16).toUInt8)])++[((fK (((p0.N ^^^ (9223372036854775808:UInt64)).toUInt32).toUInt16) 8).toUInt8),((((p0.N ^^^ (9223372036854775808:UInt64)).toUInt32).toUInt16).toUInt8)])
 else
 bif (p0.Kind==(2:Int)) then
 ah (kD p0.N DF) fun _=>
 some ((((DF++[((fK ((fT ((dO p0.N 32).toUInt32) 16).toUInt16) 8).toUInt8),(((fT ((dO p0.N 32).toUInt32) 16).toUInt16).toUInt8)])++[((fK (((dO p0.N 32).toUInt32).toUInt16) 8).toUInt8),((((dO p0.N 32).toUInt32).toUInt16).toUInt8)])++[((fK ((fT (p0.N.toUInt32) 16).toUInt16) 8).toUInt8),(((fT (p0.N.toUInt32) 16).toUInt16).toUInt8)])++[((fK ((p0.N.toUInt32).toUInt16) 8).toUInt8),(((p0.N.toUInt32).toUInt16).toUInt8)])
 else
 bif (p0.Kind==(3:Int)) then
 ah (qD (p0.N.toUInt8) DF) fun _=>
 some (DF++[(p0.N.toUInt8)])
 else
 some DF)
 fun QX=>
 ah (jP QX) fun _=>
 ah (α:=(List UInt8))
 (ah (α:=Bool)
 (bif (p0.Kind==(4:Int)) then
 some true
 else
 some (p0.Kind==(5:Int)))
 fun xO=>
 bif xO then
 ah (KP p0.S ([0]:List UInt8) ([0,255]:List UInt8)) fun r78=>
 bif decide ((QX.length+r78.length)*1≤room) then
 bif decide (((QX++r78).length+[(0:UInt8),(0:UInt8)].length)*1≤room) then
 some ((QX++r78)++[(0:UInt8),(0:UInt8)])
 else none
 else none
 else
 some QX)
 fun MO=>
 bif p1 then
 ah (zL MO) fun r82=>
 some r82
 else
 some MO
theorem Yy (p0:aj) (p1:Bool):Le (Ia p0 p1) (xG p0 p1):=by
 unfold Ia xG
 repeat (first|exact PZ _|apply zb|apply zc|apply zl|apply zE|apply zm|exact zr _|intro _)
noncomputable def zM (p0:List aj) (p1:List Bool):Option ((List UInt8)×Int):=
 bif ((p0.length:Int) != (p1.length:Int)) then
 some (([]:List UInt8),(1:Int))
 else
 ah (fQ p0) fun ad8=>
 bif ad8 then
 some (([]:List UInt8),(8:Int))
 else
 ah (α:=(List UInt8))
 (ah (α:=(List UInt8))
 (nK (Y:=(List UInt8)×Int) (W:=(List UInt8)) (fun (OV,za)=>
 bif (decide (za < (p0.length:Int))) then
 ah (bP p0 za) fun v141=>
 ah (bP p1 za) fun Z4=>
 ah (Ia v141 Z4) fun Yb=>
 bif decide ((OV.length+Yb.length)*1≤room) then
 some (Sum.inl ((OV++Yb),(bL (za+(1:Int)))))
 else none
 else
 some (Sum.inr OV)) (([]:List UInt8),(0:Int)))
 (fun e=>some e))
 fun DW=>
 bif (decide ((DW.length:Int) > (256:Int))) then
 some (([]:List UInt8),(7:Int))
 else
 some (DW,(0:Int))
theorem P5 (p0:List aj) (p1:List Bool):Le (zM p0 p1) (nY p0 p1):=by
 unfold zM nY
 repeat (first|exact mG _|exact Yy _ _|apply zb|apply zc|apply zl|apply zE|apply zm|exact zr _|intro _)
noncomputable def wh (p0:aL) (p1:List aX) (p2:List aj):Option ((List UInt8)×Bool×Int):=
 ah (D9 p0.aV p2) fun Uu=>
 bif (Uu != (0:Int)) then
 some (([]:List UInt8),false,Uu)
 else
 ah (α:=(List aj)×(List Bool)×Bool)
 (ah (α:=(List aj)×(List Bool)×Bool)
 (nK (Y:=(List aj)×(List Bool)×Bool×Int) (W:=(List aj)×(List Bool)×Bool) (fun (Kr,Kq,Xz,MV)=>
 bif (decide (MV < (p1.length:Int))) then
 ah (bP p1 MV) fun Bf=>
 ah (bP p2 Bf.Col) fun Jq=>
 bif decide ((Kr.length+[Jq].length)*32≤room) then
 bif decide ((Kq.length+[Bf.Down].length)*1≤room) then
 bif Xz then
 some (Sum.inl ((Kr++[Jq]),(Kq++[Bf.Down]),true,(bL (MV+(1:Int)))))
 else
 ah (bP p2 Bf.Col) fun v182=>
 some (Sum.inl ((Kr++[Jq]),(Kq++[Bf.Down]),(v182.Kind==(0:Int)),(bL (MV+(1:Int)))))
 else none
 else none
 else
 some (Sum.inr (Kr,Kq,Xz))) (([]:List aj),([]:List Bool),false,(0:Int)))
 (fun e=>some e))
 fun (Bc,E8,tZ)=>
 ah (zM Bc E8) fun (aay,aax)=>
 some (aay,tZ,aax)
theorem KJ (p0:aL) (p1:List aX) (p2:List aj):Le (wh p0 p1 p2) (lU p0 p1 p2):=by
 unfold wh lU
 repeat (first|exact Un _ _|exact P5 _ _|apply zb|apply zc|apply zl|apply zE|apply zm|exact zr _|intro _)
noncomputable def sj (p0:aL) (p1:List aj):Option ((List UInt8)×Int):=
 ah (Bl p0.aR) fun r16=>
 ah (wh p0 r16 p1) fun (NW,GV,r20)=>
 some (NW,r20)
theorem Ht (p0:aL) (p1:List aj):Le (sj p0 p1) (iF p0 p1):=by
 unfold sj iF
 repeat (first|exact Rn _|exact KJ _ _ _|apply zb|apply zc|apply zl|apply zE|apply zm|exact zr _|intro _)
noncomputable def zS (p0:List Int):Option Int:=
 fP (Y:=Unit) (E:=Int)
 (ah (α:=Unit⊕Int)
 (nK (Y:=Int) (W:=Unit⊕Int) (fun MP=>
 bif (decide (MP < (p0.length:Int))) then
 ah (bP p0 MP) fun v51=>
 bif (v51 != (0:Int)) then
 some (Sum.inr (Sum.inr v51))
 else
 some (Sum.inl (bL (MP+(1:Int))))
 else
 some (Sum.inr (Sum.inl ()))) (0:Int))
 (Sum.elim (fun e=>some (Sum.inl e)) (fun e=>some (Sum.inr e))))
 (fun _=>
 some (0:Int))
 (fun e=>some e)
theorem Qw (p0:List Int):Le (zS p0) (ql p0):=by
 unfold zS ql
 repeat (first|apply zb|apply zc|apply zl|apply zE|apply zm|exact zr _|intro _)
noncomputable def tL (p0:aj) (p1:aj):Option Int:=
 ah (cmp_Compare_int p0.Kind p1.Kind) fun r39=>
 ah (α:=Int)
 (ah (α:=Bool)
 (bif (r39==(0:Int)) then
 some (p0.Kind==(1:Int))
 else
 some false)
 fun MP=>
 bif MP then
 ah (jk (Gh p0.N) (Gh p1.N)) fun r49=>
 some r49
 else
 some r39)
 fun Vx=>
 ah (iU p0.N p1.N) fun RF=>
 ah (aex p0.S p1.S) fun Zq=>
 ah (zS [Vx,RF,Zq]) fun X5=>
 some X5
theorem Dm (p0:aj) (p1:aj):Le (tL p0 p1) (iY p0 p1):=by
 unfold tL iY
 repeat (first|exact Qw _|apply zb|apply zc|apply zl|apply zE|apply zm|exact zr _|intro _)
noncomputable def nU (p0:aY) (p1:aj):Option Bool:=
 bif (p1.Kind==(0:Int)) then
 some false
 else
 ah (tL p1 p0.Val) fun r7=>
 bif (p0.Op==(1:Int)) then
 some (decide (r7 < (0:Int)))
 else
 bif (p0.Op==(2:Int)) then
 some (decide (r7≤(0:Int)))
 else
 bif (p0.Op==(3:Int)) then
 some (r7==(0:Int))
 else
 bif (p0.Op==(4:Int)) then
 some (decide (r7≥(0:Int)))
 else
 bif (p0.Op==(5:Int)) then
 some (decide (r7 > (0:Int)))
 else
 some (r7 != (0:Int))
theorem BG (p0:aY) (p1:aj):Le (nU p0 p1) (iB p0 p1):=by
 unfold nU iB
 repeat (first|exact Dm _ _|apply zb|apply zc|apply zl|apply zE|apply zm|exact zr _|intro _)
noncomputable def rz (p0:aY) (p1:List Bool) (p2:Nat) (p3:Nat) (p4:List aj):Option Bool:=
 ah (bP p4 p0.Col) fun v8=>
 ah (nU p0 v8) fun Uw=>
 some Uw
theorem FW (p0:aY) (p1:List Bool) (p2:Nat) (p3:Nat) (p4:List aj):Le (rz p0 p1 p2 p3 p4) (mJ p0 p1 p2 p3 p4):=by
 unfold rz mJ
 repeat (first|exact BG _ _|apply zb|apply zc|apply zl|apply zE|apply zm|exact zr _|intro _)
noncomputable def BH (p0:List aY) (p1:List aj):Option Bool:=
 ah vD fun _=>
 ah (α:=(List Bool))
 (ah (α:=(List Bool))
 (nK (Y:=(List Bool)×Int) (W:=(List Bool)) (fun (bV,Aw)=>
 bif (decide (Aw < (p0.length:Int))) then
 ah (bP p0 Aw) fun ko=>
 ah (jq ko) fun d9=>
 bif decide (0≤(bL ((bV.length:Int) - d9))∧(bL ((bV.length:Int) - d9))≤(bV.length:Int)) then
 bif (ko.Kind==(1:Int)) then
 bif decide (0≤(bL ((bV.length:Int) - d9))∧(bL ((bV.length:Int) - d9))≤(bV.length:Int)) then
 ah (pK ko bV (0+(bL ((bV.length:Int) - d9)).toNat) (bV.length - (bL ((bV.length:Int) - d9)).toNat) p1) fun _=>
 bif decide (0+((bL ((bV.length:Int) - d9)).toNat)≤bV.length) then
 bif decide ((((bL ((bV.length:Int) - d9)).toNat)+[true].length)*1≤room) then
 some (Sum.inl ((List.take ((bL ((bV.length:Int) - d9)).toNat) (List.drop 0 bV)++[true]),(bL (Aw+(1:Int)))))
 else none
 else none
 else none
 else
 bif (ko.Kind==(2:Int)) then
 bif decide (0≤(bL ((bV.length:Int) - d9))∧(bL ((bV.length:Int) - d9))≤(bV.length:Int)) then
 ah (rz ko bV (0+(bL ((bV.length:Int) - d9)).toNat) (bV.length - (bL ((bV.length:Int) - d9)).toNat) p1) fun Pt=>
 bif decide (0+((bL ((bV.length:Int) - d9)).toNat)≤bV.length) then
 bif decide ((((bL ((bV.length:Int) - d9)).toNat)+[Pt].length)*1≤room) then
 some (Sum.inl ((List.take ((bL ((bV.length:Int) - d9)).toNat) (List.drop 0 bV)++[Pt]),(bL (Aw+(1:Int)))))
 else none
 else none
 else none
 else
 bif (ko.Kind==(3:Int)) then
 bif decide (0≤(bL ((bV.length:Int) - d9))∧(bL ((bV.length:Int) - d9))≤(bV.length:Int)) then
 ah (oF ko bV (0+(bL ((bV.length:Int) - d9)).toNat) (bV.length - (bL ((bV.length:Int) - d9)).toNat) p1) fun Pv=>
 bif decide (0+((bL ((bV.length:Int) - d9)).toNat)≤bV.length) then
 bif decide ((((bL ((bV.length:Int) - d9)).toNat)+[Pv].length)*1≤room) then
 some (Sum.inl ((List.take ((bL ((bV.length:Int) - d9)).toNat) (List.drop 0 bV)++[Pv]),(bL (Aw+(1:Int)))))
 else none
 else none
 else none
 else
 bif (ko.Kind==(4:Int)) then
 bif decide (0≤(bL ((bV.length:Int) - d9))∧(bL ((bV.length:Int) - d9))≤(bV.length:Int)) then
 ah (rA ko bV (0+(bL ((bV.length:Int) - d9)).toNat) (bV.length - (bL ((bV.length:Int) - d9)).toNat) p1) fun Pw=>
 bif decide (0+((bL ((bV.length:Int) - d9)).toNat)≤bV.length) then
 bif decide ((((bL ((bV.length:Int) - d9)).toNat)+[Pw].length)*1≤room) then
 some (Sum.inl ((List.take ((bL ((bV.length:Int) - d9)).toNat) (List.drop 0 bV)++[Pw]),(bL (Aw+(1:Int)))))
 else none
 else none
 else none
 else
 bif (ko.Kind==(5:Int)) then
 bif decide (0≤(bL ((bV.length:Int) - d9))∧(bL ((bV.length:Int) - d9))≤(bV.length:Int)) then
 ah (oG ko bV (0+(bL ((bV.length:Int) - d9)).toNat) (bV.length - (bL ((bV.length:Int) - d9)).toNat) p1) fun Px=>
 bif decide (0+((bL ((bV.length:Int) - d9)).toNat)≤bV.length) then
 bif decide ((((bL ((bV.length:Int) - d9)).toNat)+[Px].length)*1≤room) then
 some (Sum.inl ((List.take ((bL ((bV.length:Int) - d9)).toNat) (List.drop 0 bV)++[Px]),(bL (Aw+(1:Int)))))
 else none
 else none
 else none
 else
 bif (ko.Kind==(6:Int)) then
 bif decide (0≤(bL ((bV.length:Int) - d9))∧(bL ((bV.length:Int) - d9))≤(bV.length:Int)) then
 ah (qZ ko bV (0+(bL ((bV.length:Int) - d9)).toNat) (bV.length - (bL ((bV.length:Int) - d9)).toNat) p1) fun Py=>
 bif decide (0+((bL ((bV.length:Int) - d9)).toNat)≤bV.length) then
 bif decide ((((bL ((bV.length:Int) - d9)).toNat)+[Py].length)*1≤room) then
 some (Sum.inl ((List.take ((bL ((bV.length:Int) - d9)).toNat) (List.drop 0 bV)++[Py]),(bL (Aw+(1:Int)))))
 else none
 else none
 else none
 else
 none
 else none
 else
 some (Sum.inr bV)) (([]:List Bool),(0:Int)))
 (fun e=>some e))
 fun ada=>
 ah (bP ada (0:Int)) fun ZR=>
 some ZR
theorem RQ (p0:List aY) (p1:List aj):Le (BH p0 p1) (qC p0 p1):=by
 unfold BH qC
 repeat (first|exact FW _ _ _ _ _|apply zb|apply zc|apply zl|apply zE|apply zm|exact zr _|intro _)
noncomputable def jd (p0:List aX) (p1:List aG) (p2:Nat) (p3:Nat) (p4:Int) (p5:Int):Option Bool:=
 ah (mP p1 p2 p3 p4) fun ZQ=>
 ah (mP p1 p2 p3 p5) fun v89=>
 fP (Y:=Unit) (E:=Bool)
 (ah (α:=Unit⊕Bool)
 (nK (Y:=Int) (W:=Unit⊕Bool) (fun iR=>
 bif (decide (iR < (p0.length:Int))) then
 ah (bP p0 iR) fun lQ=>
 ah (bP ZQ.row lQ.Col) fun Jr=>
 ah (bP v89.row lQ.Col) fun v127=>
 ah (tL Jr v127) fun wJ=>
 bif (wJ != (0:Int)) then
 some (Sum.inr (Sum.inr ((decide (wJ < (0:Int))) != lQ.Down)))
 else
 some (Sum.inl (bL (iR+(1:Int))))
 else
 some (Sum.inr (Sum.inl ()))) (0:Int))
 (Sum.elim (fun e=>some (Sum.inl e)) (fun e=>some (Sum.inr e))))
 (fun _=>
 some (o8 ZQ.primary v89.primary))
 (fun e=>some e)
theorem uJ (p0:List aX) (p1:List aG) (p2:Nat) (p3:Nat) (p4:Int) (p5:Int):Le (jd p0 p1 p2 p3 p4 p5) (fC p0 p1 p2 p3 p4 p5):=by
 unfold jd fC
 repeat (first|exact Dm _ _|apply zb|apply zc|apply zl|apply zE|apply zm|exact zr _|intro _)
noncomputable def nG (p0:Int) (p1:aL) (p2:bG) (p3:bQ) (p4:List bO) (p5:List aX) (p6:List aG) (p7:ay):Option ((List aG)):=
 ah (α:=(List aG))
 (nK (Y:=Int×(List aG)) (W:=(List aG)) (fun (JZ,MO)=>
 ah (α:=Bool)
 (bif ((bL (Int.tdiv (bL (JZ - (1:Int))) (2:Int)))==JZ) then
 some true
 else
 ah (jd p5 MO 0 p6.length JZ (bL (Int.tdiv (bL (JZ - (1:Int))) (2:Int)))) fun r91=>
 some (!r91))
 fun y88=>
 bif y88 then
 some (Sum.inr MO)
 else
 ah (fB p5 MO 0 p6.length (bL (Int.tdiv (bL (JZ - (1:Int))) (2:Int))) JZ) fun r93=>
 some (Sum.inl ((bL (Int.tdiv (bL (JZ - (1:Int))) (2:Int))),r93))) (p0,p6))
 (fun e=>some e)
theorem AQ (p0:Int) (p1:aL) (p2:bG) (p3:bQ) (p4:List bO) (p5:List aX) (p6:List aG) (p7:ay):Le (nG p0 p1 p2 p3 p4 p5 p6 p7) (fV p0 p1 p2 p3 p4 p5 p6 p7):=by
 unfold nG fV
 repeat (first|exact uJ _ _ _ _ _ _|apply zb|apply zc|apply zl|apply zE|apply zm|exact zr _|intro _)
noncomputable def kZ (p0:aG) (p1:aL) (p2:bG) (p3:bQ) (p4:List bO) (p5:List aX) (p6:List aG) (p7:Nat) (p8:Nat) (p9:ay):Option ((List aG)):=
 ah (iT p0 p1 p2 p3 p4 p5 p6 p7 p8 p9) fun _=>
 ah (pQ p5 (List.take p8 (List.drop p7 p6)++[p0])) fun _=>
 ah (nG (bL (((List.take p8 (List.drop p7 p6)++[p0]).length:Int) - (1:Int))) p1 p2 p3 p4 p5 (List.take p8 (List.drop p7 p6)++[p0]) p9) fun PE=>
 some PE
theorem yS (p0:aG) (p1:aL) (p2:bG) (p3:bQ) (p4:List bO) (p5:List aX) (p6:List aG) (p7:Nat) (p8:Nat) (p9:ay):Le (kZ p0 p1 p2 p3 p4 p5 p6 p7 p8 p9) (fH p0 p1 p2 p3 p4 p5 p6 p7 p8 p9):=by
 unfold kZ fH
 repeat (first|exact AQ _ _ _ _ _ _ _ _|apply zb|apply zc|apply zl|apply zE|apply zm|exact zr _|intro _)
noncomputable def rJ (p0:aG) (p1:aL) (p2:bG) (p3:bQ) (p4:List bO) (p5:List aX) (p6:List aG) (p7:Nat) (p8:Nat) (p9:ay):Option ((List aG)×Nat×Nat):=
 ah (BH p2.Pred p0.row) fun PE=>
 bif PE then
 ah (kZ p0 p1 p2 p3 p4 p5 p6 p7 p8 p9) fun r15=>
 some (r15,0,(List.take p8 (List.drop p7 p6)++[p0]).length)
 else
 some (p6,p7,p8)
theorem Gr (p0:aG) (p1:aL) (p2:bG) (p3:bQ) (p4:List bO) (p5:List aX) (p6:List aG) (p7:Nat) (p8:Nat) (p9:ay):Le (rJ p0 p1 p2 p3 p4 p5 p6 p7 p8 p9) (iy p0 p1 p2 p3 p4 p5 p6 p7 p8 p9):=by
 unfold rJ iy
 repeat (first|exact RQ _ _|exact yS _ _ _ _ _ _ _ _ _ _|apply zb|apply zc|apply zl|apply zE|apply zm|exact zr _|intro _)
noncomputable def tu (p0:List UInt8) (p1:aL) (p2:bG) (p3:bQ) (p4:List bO) (p5:List aX) (p6:List aG) (p7:Nat) (p8:Nat) (p9:ay):Option (Int×(List aG)×Nat×Nat):=
 ah (zu p1.aV p0) fun (RI,RH)=>
 bif (RH != (0:Int)) then
 some ((2:Int),p6,p7,p8)
 else
 ah (sj p1 RI) fun (GU,RG)=>
 ah (α:=(List aG)×Nat×Nat)
 (bif (RG==(0:Int)) then
 ah (rJ (aG.mk RI GU) p1 p2 p3 p4 p5 p6 p7 p8 p9) fun (r56,DF,r58)=>
 some (r56,DF,r58)
 else
 some (p6,p7,p8))
 fun (y51,II,y53)=>
 some (RG,y51,II,y53)
theorem Ig (p0:List UInt8) (p1:aL) (p2:bG) (p3:bQ) (p4:List bO) (p5:List aX) (p6:List aG) (p7:Nat) (p8:Nat) (p9:ay):Le (tu p0 p1 p2 p3 p4 p5 p6 p7 p8 p9) (iw p0 p1 p2 p3 p4 p5 p6 p7 p8 p9):=by
 unfold tu iw
 repeat (first|exact Pj _ _|exact Ht _ _|exact Gr _ _ _ _ _ _ _ _ _ _|apply zb|apply zc|apply zl|apply zE|apply zm|exact zr _|intro _)
noncomputable def sW (p0:aL) (p1:bG) (p2:bQ) (p3:List aX) (p4:ay):Option (Int×(List aG)×Nat×Nat):=
 ah (sZ p0.Tree p0 p1 p2 p3 p4) fun (Nl,Ya)=>
 ah (α:=Int×(List aG)×Nat×Nat)
 (ah (α:=Int×(List aG)×Nat×Nat)
 (nK (Y:=Int×Int×(List aG)×Nat×Nat) (W:=Int×(List aG)×Nat×Nat) (fun (Jl,G5,GZ,GY,GX)=>
 bif (decide (G5 < (Nl.length:Int))) then
 ah (α:=Int×(List aG)×Nat×Nat)
 (ah (bP Nl G5) fun OX=>
 bif (Jl==(0:Int)) then
 ah (tu OX.Val p0 p1 p2 [(bO.mk p0.Tree p2.Span false)] p3 GZ GY GX (ay.mk p4.no p4.trees (bL (p4.calls+(1:Int))) p4.fail)) fun (X9,X8,X7,X6)=>
 some (X9,X8,X7,X6)
 else
 some (Jl,GZ,GY,GX))
 fun (Xv,Xu,Xt,Xr)=>
 some (Sum.inl (Xv,(bL (G5+(1:Int))),Xu,Xt,Xr))
 else
 some (Sum.inr (Jl,GZ,GY,GX))) (Ya,(0:Int),([]:List aG),0,([]:List aG).length))
 (fun e=>some e))
 fun (adg,adf,TY,ade)=>
 some (adg,adf,TY,ade)
theorem Ic (p0:aL) (p1:bG) (p2:bQ) (p3:List aX) (p4:ay):Le (sW p0 p1 p2 p3 p4) (ig p0 p1 p2 p3 p4):=by
 unfold sW ig
 repeat (first|exact Ie _ _ _ _ _ _|exact Ig _ _ _ _ _ _ _ _ _ _|apply zb|apply zc|apply zl|apply zE|apply zm|exact zr _|intro _)
noncomputable def kY (p0:Int) (p1:Int) (p2:aL) (p3:bG) (p4:bQ) (p5:List bO) (p6:List aX) (p7:List aG) (p8:Nat) (p9:Nat) (Yj:ay):Option (Bool×(List aG)):=
 ah (α:=Int×(List aG))
 (ah (α:=Int×(List aG))
 (nK (Y:=Int×(List aG)) (W:=Int×(List aG)) (fun (oq,Ay)=>
 ah (α:=Bool)
 (bif (decide ((bL ((bL ((2:Int)*oq))+(1:Int)))≥p1)) then
 some true
 else
 some (decide ((bL ((bL ((2:Int)*oq))+(1:Int))) < (0:Int))))
 fun adk=>
 bif adk then
 some (Sum.inr (oq,Ay))
 else
 ah (α:=Int)
 (ah (α:=Bool)
 (bif (decide ((bL ((bL ((bL ((2:Int)*oq))+(1:Int)))+(1:Int))) < p1)) then
 ah (jd p6 Ay p8 p9 (bL ((bL ((bL ((2:Int)*oq))+(1:Int)))+(1:Int))) (bL ((bL ((2:Int)*oq))+(1:Int)))) fun r408=>
 some r408
 else
 some false)
 fun adj=>
 bif adj then
 some (bL ((bL ((bL ((2:Int)*oq))+(1:Int)))+(1:Int)))
 else
 some (bL ((bL ((2:Int)*oq))+(1:Int))))
 fun MQ=>
 ah (jd p6 Ay p8 p9 MQ oq) fun ad2=>
 bif (!ad2) then
 some (Sum.inr (oq,Ay))
 else
 ah (fB p6 Ay p8 p9 oq MQ) fun ad1=>
 some (Sum.inl (MQ,ad1))) (p0,p7))
 (fun e=>some e))
 fun (ado,adn)=>
 some ((decide (ado > p0)),adn)
theorem yR (p0:Int) (p1:Int) (p2:aL) (p3:bG) (p4:bQ) (p5:List bO) (p6:List aX) (p7:List aG) (p8:Nat) (p9:Nat) (Yj:ay):Le (kY p0 p1 p2 p3 p4 p5 p6 p7 p8 p9 Yj) (eO p0 p1 p2 p3 p4 p5 p6 p7 p8 p9 Yj):=by
 unfold kY eO
 repeat (first|exact uJ _ _ _ _ _ _|apply zb|apply zc|apply zl|apply zE|apply zm|exact zr _|intro _)
noncomputable def l9 (p0:aL) (p1:bG) (p2:bQ) (p3:List bO) (p4:List aX) (p5:List aG) (p6:Nat) (p7:Nat) (p8:ay):Option (aG×(List aG)):=
 ah (ji p4 p5 p6 p7) fun _=>
 ah (fB p4 p5 p6 p7 (0:Int) (bL ((p7:Int) - (1:Int)))) fun r21=>
 ah (kY (0:Int) (bL ((p7:Int) - (1:Int))) p0 p1 p2 p3 p4 r21 p6 p7 p8) fun (r23,r24)=>
 ah (j5 p0 p1 p2 p3 p4 r24 p6 p7 p8) fun r26=>
 some (r26,r24)
theorem zR (p0:aL) (p1:bG) (p2:bQ) (p3:List bO) (p4:List aX) (p5:List aG) (p6:Nat) (p7:Nat) (p8:ay):Le (l9 p0 p1 p2 p3 p4 p5 p6 p7 p8) (dP p0 p1 p2 p3 p4 p5 p6 p7 p8):=by
 unfold l9 dP
 repeat (first|exact yR _ _ _ _ _ _ _ _ _ _ _|apply zb|apply zc|apply zl|apply zE|apply zm|exact zr _|intro _)
noncomputable def rM (p0:aL) (p1:bG) (p2:bQ) (p3:List bO) (p4:List aX) (p5:List aG) (p6:Nat) (p7:Nat) (p8:ay):Option ((List (List aj))×(List aG)×Nat):=
 ah (α:=(List (List aj))×(List aG)×Nat)
 (ah (α:=(List (List aj))×(List aG)×Nat)
 (nK (Y:=(List (List aj))×(List aG)×Nat) (W:=(List (List aj))×(List aG)×Nat) (fun (A8,Kl,Av)=>
 ah (α:=Bool)
 (ah (ji p4 Kl p6 Av) fun _=>
 bif (decide ((Av:Int) > (0:Int))) then
 bif (decide (p1.Limit < (0:Int))) then
 some true
 else
 some (decide ((A8.length:Int) < p1.Limit))
 else
 some false)
 fun ac4=>
 bif ac4 then
 ah (l9 p0 p1 p2 p3 p4 Kl p6 Av p8) fun (X0,XZ)=>
 bif decide (0≤(p1.aV.length:Int)∧(p1.aV.length:Int)*32≤70368744177664∧(p1.aV.length:Int)≤70368744177664) then
 ah (α:=(List aj))
 (ah (α:=(List aj))
 (nK (Y:=(List aj)×Int) (W:=(List aj)) (fun (OO,QV)=>
 bif (decide (QV < (p1.aV.length:Int))) then
 ah (bP p1.aV QV) fun adB=>
 ah (bP X0.row adB) fun MZ=>
 bif decide ((OO.length+[MZ].length)*32≤room) then
 some (Sum.inl ((OO++[MZ]),(bL (QV+(1:Int)))))
 else none
 else
 some (Sum.inr OO)) (([]:List aj),(0:Int)))
 (fun e=>some e))
 fun MN=>
 bif decide ((A8.length+[MN].length)*24≤room) then
 some (Sum.inl ((A8++[MN]),XZ,(bL ((Av:Int) - (1:Int))).toNat))
 else none
 else none
 else
 some (Sum.inr (A8,Kl,Av))) (([]:List (List aj)),p5,p7))
 (fun e=>some e))
 fun (Xp,ac8,ac7)=>
 some (Xp,ac8,ac7)
theorem Gv (p0:aL) (p1:bG) (p2:bQ) (p3:List bO) (p4:List aX) (p5:List aG) (p6:Nat) (p7:Nat) (p8:ay):Le (rM p0 p1 p2 p3 p4 p5 p6 p7 p8) (iN p0 p1 p2 p3 p4 p5 p6 p7 p8):=by
 unfold rM iN
 repeat (first|exact zR _ _ _ _ _ _ _ _ _|apply zb|apply zc|apply zl|apply zE|apply zm|exact zr _|intro _)
noncomputable def EK (p0:aL) (p1:bG) (p2:ay):Option ((List (List aj))×(List bO)×Int):=
 ah (α:=Int×(List aG)×Nat×Nat)
 (ah (α:=Unit)
 (some ())
 fun _=>
 ah (sW p0 p1 (bQ.mk (-1:Int) (dG.mk ([]:List UInt8) ([]:List UInt8) true) (0:Int) false false (0:Int)) p1.Order p2) fun (X4,r60,X3,r62)=>
 some (X4,r60,X3,r62))
 fun (II,y53,y54,y55)=>
 bif (II != (0:Int)) then
 some (([]:List (List aj)),([]:List bO),II)
 else
 ah (rM p0 p1 (bQ.mk (-1:Int) (dG.mk ([]:List UInt8) ([]:List UInt8) true) (0:Int) false false (0:Int)) [(bO.mk p0.Tree (dG.mk ([]:List UInt8) ([]:List UInt8) true) false)] p1.Order y53 y54 y55 (ay.mk p2.no p2.trees (bL (p2.calls+(1:Int))) p2.fail)) fun (r64,r65,r66)=>
 some (r64,[(bO.mk p0.Tree (dG.mk ([]:List UInt8) ([]:List UInt8) true) false)],(0:Int))
theorem U8 (p0:aL) (p1:bG) (p2:ay):Le (EK p0 p1 p2) (pI p0 p1 p2):=by
 unfold EK pI
 repeat (first|exact Ic _ _ _ _ _|exact Gv _ _ _ _ _ _ _ _ _|apply zb|apply zc|apply zl|apply zE|apply zm|exact zr _|intro _)
noncomputable def DK:Option Bool:=
 ah (xS (aL.mk ([97]:List UInt8) [(aA.mk ([105,100]:List UInt8) (1:Int) (0:Int) false (aj.mk (1:Int) (0:UInt64) ([]:List UInt8))),(aA.mk ([110]:List UInt8) (1:Int) (0:Int) false (aj.mk (1:Int) (0:UInt64) ([]:List UInt8)))] [(0:Int)] ([]:List bT) (2:Int)) [[(aj.mk (1:Int) (1:UInt64) ([]:List UInt8)),(aj.mk (1:Int) (5:UInt64) ([]:List UInt8))],[(aj.mk (1:Int) (2:UInt64) ([]:List UInt8)),(aj.mk (1:Int) (7:UInt64) ([]:List UInt8))]]) fun (r41,RI)=>
 ah (EK (aL.mk ([97]:List UInt8) [(aA.mk ([105,100]:List UInt8) (1:Int) (0:Int) false (aj.mk (1:Int) (0:UInt64) ([]:List UInt8))),(aA.mk ([110]:List UInt8) (1:Int) (0:Int) false (aj.mk (1:Int) (0:UInt64) ([]:List UInt8)))] [(0:Int)] ([]:List bT) (2:Int)) (bG.mk [(aY.mk (2:Int) (1:Int) (5:Int) (aj.mk (1:Int) (5:UInt64) ([]:List UInt8)))] [(0:Int)] ([]:List aX) (-1:Int)) (ay.mk r41 RI (0:Int) (0:Int))) fun (r44,GU,RG)=>
 ah (α:=Bool)
 (bif (RG==(0:Int)) then
 bif ((r44.length:Int)==(1:Int)) then
 ah (bP r44 (0:Int)) fun v54=>
 bif ((v54.length:Int)==(1:Int)) then
 ah (bP r44 (0:Int)) fun v55=>
 ah (bP v55 (0:Int)) fun v56=>
 bif (v56.N==(2:UInt64)) then
 bif ((GU.length:Int)==(1:Int)) then
 ah (bP GU (0:Int)) fun v57=>
 bif (v57.Space==(2:Int)) then
 ah (bP GU (0:Int)) fun v58=>
 some (!v58.Own)
 else
 some false
 else
 some false
 else
 some false
 else
 some false
 else
 some false
 else
 some false)
 fun II=>
 some II
theorem Nv:Le (DK) (nX):=by
 unfold DK nX
 repeat (first|exact U8 _ _ _|exact Na _ _|apply zb|apply zc|apply zl|apply zE|apply zm|exact zr _|intro _)
theorem H9:nX=some true:=Nv _ (by kernel_rfl)
end Lv
namespace Lv
open Option renaming bind→ah
open Go Go.Proofs
variable [bJ]
theorem MF (t:aL) (q:bG) (rows:List (List aj)) (n:Int) (hT:OkT t) (hp:∀n∈q.Pred,OkN n) (ho:q.Order.length*16≤140737488351232) (hv:∀l∈rows,Iz l) (hl:rows.length < 4611686018427387904):mO t q rows n=some true:=QL H9 t q rows n hT hp ho hv hl
end Lv
