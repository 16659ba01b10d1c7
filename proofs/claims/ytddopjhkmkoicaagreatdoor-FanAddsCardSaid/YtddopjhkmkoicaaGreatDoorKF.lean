/- Part of the proof of a law. -/
import Derived.Test.YtddopjhkmkoicaaGreatDoorXAll
import Derived.Test.YtddopjhkmkoicaaGreatDoorGwPlain
import Derived.Lib.ValidLaws
import Derived.Test.YtddopjhkmkoicaaGreatDoorGwQ
import Derived.Test.YtddopjhkmkoicaaGreatDoorXOk
set_option linter.unusedVariables false
set_option linter.unusedSimpArgs false
set_option linter.unusedSectionVars false
set_option maxRecDepth 100000
namespace Lv
open Go Go.Proofs
variable [BaseTab]
def val (v : ApiValue) : Bool :=
 (v.Kind == 0 && (v.N == 0 && v.S == [])) || ((v.Kind == 1 || v.Kind == 2) && v.S == []) || (v.Kind == 3 && (decide (v.N < 2) && v.S == [])) ||
 (v.Kind == 4 && (v.N == 0 && decide (v.S.length ≤ 64))) || (v.Kind == 5 && (v.N == 0 && (decide (v.S.length ≤ 64) && Go.Lib.validD v.S)))
theorem xY (v : ApiValue) (h : v.S.length < 4611686018427387904) : ny v = some (val v) := by
 have e1 : FT v.S = some (Go.Lib.validD v.S) := by unfold FT; rw [if_pos (by omega)]
 have e2 : ((v.S.length : Int) ≤ 64) = (v.S.length ≤ 64) := propext (by omega)
 have e3 : (v.N ≤ 1) = (v.N < 2) := propext (by rw [UInt64.le_iff_toNat_le, UInt64.lt_iff_toNat_lt]; show _ ≤ 1 ↔ _ < 2; omega)
 obtain ⟨K, N, S⟩ := v
 unfold ny val
 simp only [e1, e2, e3, eG, Bool.and_true] at *
 by_cases k0 : K = 0
 ·subst k0; simp
 by_cases k1 : K = 1
 ·subst k1; simp
 by_cases k2 : K = 2
 ·subst k2; simp
 by_cases k3 : K = 3
 ·subst k3; by_cases hN : N < 2 <;> simp [hN]
 by_cases k4 : K = 4
 ·subst k4; cases hN : (N == 0) <;> simp [hN]
 by_cases k5 : K = 5
 ·subst k5; cases hN : (N == 0) <;> by_cases hS : S.length ≤ 64 <;> simp [hN, hS]
 simp [beq_eq_false_iff_ne.2 k0, beq_eq_false_iff_ne.2 k1, beq_eq_false_iff_ne.2 k2, beq_eq_false_iff_ne.2 k3, beq_eq_false_iff_ne.2 k4, beq_eq_false_iff_ne.2 k5]
def Q7 (s : List UInt8) (i n : Int) : Int × Int → Option ((Int × Int) ⊕ (Int ⊕ Bool)) := fun (YE, TF) =>
                      bif (decide (TF < n)) then
                        Option.bind (bF s (bD (i + TF))) fun TT =>
                        Option.bind (α := Bool)
                          (bif (decide ((TT.toNat : Int) < (128 : Int))) then
                            some true
                          else
                            some (decide ((TT.toNat : Int) ≥ (192 : Int))))
                          fun ad1 =>
                        bif ad1 then
                          some (Sum.inr (Sum.inr false))
                        else
                          some (Sum.inl ((bD ((bD ((bD (YE * (64 : Int))) + (TT.toNat : Int))) - (128 : Int))), (bD (TF + (1 : Int)))))
                      else
                        some (Sum.inr (Sum.inl YE))
theorem uZ (s : List UInt8) (i : Nat) (n k c : Int) (b : UInt8) (hk : 0 ≤ k) (hn : k < n) (hn4 : n ≤ 4) (hi : i + k.toNat < s.length) (hs : s.length < 4611686018427387904) (hc : 0 ≤ c ∧ c < 4294967296) (hb : s.getD (i + k.toNat) 0 = b) :
  loop (Q7 s i n) (c, k) = if b.toNat / 64 = 2 then loop (Q7 s i n) (c * 64 + (b.toNat : Int) - 128, k + 1) else some (.inr false) := by
 have hg : bF s (bD ((i : Int) + k)) = some b := by
  rw [dA (by omega) (by omega)]
  unfold bF
  rw [if_pos (by omega), show ((i : Int) + k).toNat = i + k.toNat by omega, List.getElem?_eq_getElem hi]
  rw [List.getD_eq_getElem?_getD, List.getElem?_eq_getElem hi] at hb
  exact congrArg some hb
 have hlt := b.toNat_lt
 by_cases h : b.toNat / 64 = 2
 ·rw [if_pos h]
  refine lM ?_
  show (bif (decide (k < n)) then _ else _) = _
  rw [decide_eq_true hn, cond_true, hg, ah, aD (show ¬ ((b.toNat : Int) < 128) by omega), ah, aD (show ¬ ((b.toNat : Int) ≥ 192) by omega)]
  rw [dA (n := c * 64) (by omega) (by omega), dA (n := c * 64 + _) (by omega) (by omega), dA (n := c * 64 + _ - _) (by omega) (by omega), dA (n := k + 1) (by omega) (by omega)]
 ·rw [if_neg h]
  refine iJ ?_
  show (bif (decide (k < n)) then _ else _) = _
  rw [decide_eq_true hn, cond_true, hg, ah]
  by_cases h2 : b.toNat < 128
  ·rw [av (show ((b.toNat : Int) < 128) by omega), ah, cond_true]
  ·rw [aD (show ¬ ((b.toNat : Int) < 128) by omega), ah, av (show ((b.toNat : Int) ≥ 192) by omega)]
theorem Fy (s : List UInt8) (i : Nat) (n c : Int) : loop (Q7 s i n) (c, n) = some (.inl c) := by
 refine iJ ?_
 show (bif (decide (n < n)) then _ else _) = _
 rw [aD (show ¬ (n < n) by omega)]
def mM (l : List UInt8) : Nat :=
 if (Go.Lib.decodeN l.length (l.getD 0 0).toNat (l.getD 1 0).toNat (l.getD 2 0).toNat (l.getD 3 0).toNat).1 = 65533 ∧ (Go.Lib.decodeN l.length (l.getD 0 0).toNat (l.getD 1 0).toNat (l.getD 2 0).toNat (l.getD 3 0).toNat).2 = 1 then 0
 else (Go.Lib.decodeN l.length (l.getD 0 0).toNat (l.getD 1 0).toNat (l.getD 2 0).toNat (l.getD 3 0).toNat).2
theorem LP (l : List UInt8) (hne : l ≠ []) : Go.Lib.validD l = if mM l = 0 then false else Go.Lib.validD (l.drop (mM l)) := by
 have hw := Go.Lib.decodeL_width l
 have hl : 0 < l.length := List.length_pos_iff.2 hne
 rw [Go.Lib.validD_step l hne, Go.Lib.decodeL_N]
 rw [Go.Lib.decodeL_N] at hw
 unfold mM
 split
 ·simp
 ·rw [if_neg (by omega)]
theorem TY (l : List UInt8) (h : (l.getD 0 0).toNat < 128) : mM l = 1 := by
 unfold mM Go.Lib.decodeN
 rw [if_pos h]
 simp only
 rw [if_neg (by omega)]
theorem Bl (l : List UInt8) (h : (128 ≤ (l.getD 0 0).toNat ∧ (l.getD 0 0).toNat < 194) ∨ 245 ≤ (l.getD 0 0).toNat) : mM l = 0 := by
 unfold mM
 have := (l.getD 0 0).toNat_lt
 rw [Go.Lib.decodeN_bad _ _ _ _ _ (by omega)]
 rfl
theorem TW (l : List UInt8) (h : 194 ≤ (l.getD 0 0).toNat ∧ (l.getD 0 0).toNat < 224) : mM l = if 1 < l.length ∧ (l.getD 1 0).toNat / 64 = 2 then 2 else 0 := by
 unfold mM Go.Lib.decodeN
 repeat' split
 all_goals first | rfl | (exfalso; omega) | (simp only at *; omega)
theorem TV (l : List UInt8) (h : 224 ≤ (l.getD 0 0).toNat ∧ (l.getD 0 0).toNat < 240) : mM l = if (2 < l.length ∧ (l.getD 1 0).toNat / 64 = 2 ∧ (l.getD 2 0).toNat / 64 = 2) ∧ 2048 ≤ (l.getD 0 0).toNat % 16 * 4096 + (l.getD 1 0).toNat % 64 * 64 + (l.getD 2 0).toNat % 64 ∧ ((l.getD 0 0).toNat % 16 * 4096 + (l.getD 1 0).toNat % 64 * 64 + (l.getD 2 0).toNat % 64 < 55296 ∨ 57344 ≤ (l.getD 0 0).toNat % 16 * 4096 + (l.getD 1 0).toNat % 64 * 64 + (l.getD 2 0).toNat % 64) then 3 else 0 := by
 unfold mM Go.Lib.decodeN
 repeat' split
 all_goals first | rfl | (exfalso; omega) | (simp only at *; omega)
theorem TU (l : List UInt8) (h : 240 ≤ (l.getD 0 0).toNat ∧ (l.getD 0 0).toNat < 245) : mM l = if (3 < l.length ∧ (l.getD 1 0).toNat / 64 = 2 ∧ (l.getD 2 0).toNat / 64 = 2 ∧ (l.getD 3 0).toNat / 64 = 2) ∧ 65536 ≤ (l.getD 0 0).toNat % 8 * 262144 + (l.getD 1 0).toNat % 64 * 4096 + (l.getD 2 0).toNat % 64 * 64 + (l.getD 3 0).toNat % 64 ∧ (l.getD 0 0).toNat % 8 * 262144 + (l.getD 1 0).toNat % 64 * 4096 + (l.getD 2 0).toNat % 64 * 64 + (l.getD 3 0).toNat % 64 ≤ 1114111 then 4 else 0 := by
 unfold mM Go.Lib.decodeN
 repeat' split
 all_goals first | rfl | (exfalso; omega) | (simp only at *; omega)
theorem Pt {p q : Prop} [Decidable p] [Decidable q] (h : p ↔ q) : decide p = decide q := decide_eq_decide.2 h
noncomputable def JW (p0 : List UInt8) (TG y1207 y1208 y1209 : Int) : Option (Int ⊕ (Unit ⊕ Bool)) :=
              bif (decide ((bD (TG + y1207)) > (p0.length : Int))) then
                some (Sum.inr (Sum.inr false))
              else
                eH (Y := Int) (E := Bool)
                  (Option.bind (α := Int ⊕ Bool) (loop (Q7 p0 TG y1207) (y1209, (1 : Int)))
                    (Sum.elim (fun e => some (Sum.inl e)) (fun e => some (Sum.inr e))))
                  (fun P9 =>
                    Option.bind (α := Bool)
                      (bif (decide (P9 < y1208)) then
                        some true
                      else
                        bif (decide (P9 > (1114111 : Int))) then
                          some true
                        else
                          bif (decide (P9 ≥ (55296 : Int))) then
                            some (decide (P9 < (57344 : Int)))
                          else
                            some false)
                      fun adZ =>
                    bif adZ then
                      some (Sum.inr (Sum.inr false))
                    else
                      some (Sum.inl (bD (TG + y1207))))
                  (fun e => some (Sum.inr (Sum.inr e)))
theorem Bj {s : List UInt8} {i n : Nat} {m c c' : Int} (hn : n ≤ 4) (hs : s.length < 4611686018427387904) (hi : i + n ≤ s.length) (h : loop (Q7 s i n) (c, 1) = some (.inl c')) :
  JW s i n m c = some (if c' < m ∨ c' > 1114111 ∨ (55296 ≤ c' ∧ c' < 57344) then .inr (.inr false) else .inl ((i + n : Nat) : Int)) := by
 unfold JW
 rw [dA (n := (i : Int) + n) (by omega) (by omega), aD (show ¬ ((i : Int) + n > (s.length : Int)) by omega), h, ah, Sum.elim_inl, Cq]
 by_cases h1 : c' < m
 ·rw [av h1, ah, cond_true, if_pos (.inl h1)]
 rw [aD h1]
 by_cases h2 : c' > 1114111
 ·rw [av h2, ah, cond_true, if_pos (.inr (.inl h2))]
 rw [aD h2]
 by_cases h3 : c' ≥ 55296
 ·rw [av h3, ah]
  by_cases h4 : c' < 57344
  ·rw [av h4, if_pos (.inr (.inr ⟨h3, h4⟩))]
  ·rw [aD h4, if_neg (by omega)]; rfl
 ·rw [aD h3, ah, cond_false, if_neg (by omega)]; rfl
theorem y9 {s : List UInt8} {i n : Nat} {m c : Int} (hn : n ≤ 4) (hs : s.length < 4611686018427387904) (hi : i + n ≤ s.length) (h : loop (Q7 s i n) (c, 1) = some (.inr false)) :
  JW s i n m c = some (.inr (.inr false)) := by
 unfold JW
 rw [dA (n := (i : Int) + n) (by omega) (by omega), aD (show ¬ ((i : Int) + n > (s.length : Int)) by omega), h, ah, Sum.elim_inr, QD]
theorem Ag {s : List UInt8} {i n : Nat} {m c : Int} (hn : n ≤ 4) (hs : s.length < 4611686018427387904) (hi : i ≤ s.length) (hi : ¬ i + n ≤ s.length) : JW s i n m c = some (.inr (.inr false)) := by
 unfold JW
 rw [dA (n := (i : Int) + n) (by omega) (by omega), av (show ((i : Int) + n > (s.length : Int)) by omega)]
theorem IG (s : List UInt8) (hs : s.length < 4611686018427387904) : rU s = some (Go.Lib.validD s) := by
 unfold rU
 refine Eq.trans (congrArg (fun x => eH (Y := Unit) (E := Bool) (Option.bind (α := Unit ⊕ Bool) x (Sum.elim (fun e => some (Sum.inl e)) (fun e => some (Sum.inr e)))) (fun _ => some true) (fun e => some e))
  (XL (fun y : Int => ∃ i : Nat, y = i ∧ i ≤ s.length) (fun y => s.length - y.toNat) (fun y => if Go.Lib.validD (s.drop y.toNat) = true then .inl () else .inr false) ?_ 0 ⟨0, rfl, by omega⟩)) ?_
 ·rintro y ⟨i, rfl, hi⟩
  rcases Nat.lt_or_ge i s.length with hlt | hge
  rotate_left
  ·right
   have : i = s.length := by omega
   subst this
   simp only [ltI, Nat.lt_irrefl, decide_false, cond_false, Int.toNat_natCast, List.drop_length, Go.Lib.validD_nil, if_true]
  have hne : s.drop i ≠ [] := by intro e; have := congrArg List.length e; simp at this; omega
  have hv := LP (s.drop i) hne
  have hlen : (s.drop i).length = s.length - i := by simp
  have hd : ∀ k, (s.drop i).getD k 0 = s.getD (i + k) 0 := fun k => Go.Lib.getD_dropU s i k
  have hg : bF s (i : Int) = some (s.getD i 0) := by
   rw [bM hlt, List.getD_eq_getElem?_getD, List.getElem?_eq_getElem hlt]; rfl
  have hb := (s.getD i 0).toNat_lt
  -- what a round must show
  suffices hB : ∀ B : Option (Int ⊕ (Unit ⊕ Bool)), B = some (if mM (s.drop i) = 0 then .inr (.inr false) else .inl ((i + mM (s.drop i) : Nat) : Int)) → mM (s.drop i) ≤ s.length - i →
    (∃ y', B = some (.inl y') ∧ (∃ j : Nat, y' = j ∧ j ≤ s.length) ∧ s.length - y'.toNat < s.length - ((i : Int)).toNat ∧ (if Go.Lib.validD (s.drop y'.toNat) = true then Sum.inl () else Sum.inr false) = (if Go.Lib.validD (s.drop ((i : Int)).toNat) = true then Sum.inl () else Sum.inr false)) ∨ B = some (.inr (if Go.Lib.validD (s.drop ((i : Int)).toNat) = true then .inl () else .inr false)) by
   have hle : mM (s.drop i) ≤ s.length - i := by
    rcases Nat.lt_or_ge (s.getD i 0).toNat 128 with c1 | c1
    ·rw [TY _ (by rw [hd]; exact c1)]; omega
    rcases Nat.lt_or_ge (s.getD i 0).toNat 194 with c2 | c2
    ·rw [Bl _ (by rw [hd, Nat.add_zero]; omega)]; omega
    rcases Nat.lt_or_ge (s.getD i 0).toNat 224 with c3 | c3
    ·rw [TW _ (by rw [hd, Nat.add_zero]; omega)]; split <;> omega
    rcases Nat.lt_or_ge (s.getD i 0).toNat 240 with c4 | c4
    ·rw [TV _ (by rw [hd, Nat.add_zero]; omega)]; split <;> omega
    rcases Nat.lt_or_ge (s.getD i 0).toNat 245 with c5 | c5
    ·rw [TU _ (by rw [hd, Nat.add_zero]; omega)]; split <;> omega
    ·rw [Bl _ (by rw [hd, Nat.add_zero]; omega)]; omega
   refine hB _ ?_ hle
   rw [ltI, decide_eq_true hlt, cond_true, hg, ah]
   have d0 := hd 0
   rw [Nat.add_zero] at d0
   have d1 := hd 1
   have d2 := hd 2
   have d3 := hd 3
   have b1 := (s.getD (i + 1) 0).toNat_lt
   have b2 := (s.getD (i + 2) 0).toNat_lt
   have b3 := (s.getD (i + 3) 0).toNat_lt
   rcases Nat.lt_or_ge (s.getD i 0).toNat 128 with c1 | c1
   ·have hu := TY (s.drop i) (by rw [d0]; exact c1)
    rw [hu, av (show ((s.getD i 0).toNat : Int) < 128 by omega), Cq]
    refine (Bj (n := 1) (by omega) hs (by omega) (Fy s i 1 _)).trans ?_
    rw [if_neg (by omega), if_neg (by omega)]
   rw [aD (show ¬ (((s.getD i 0).toNat : Int) < 128) by omega)]
   rcases Nat.lt_or_ge (s.getD i 0).toNat 194 with c2 | c2
   ·have hu := Bl (s.drop i) (by rw [d0]; omega)
    rw [hu, aD (show ¬ (((s.getD i 0).toNat : Int) ≥ 194) by omega), ah, cond_false, aD (show ¬ (((s.getD i 0).toNat : Int) ≥ 224) by omega), ah, cond_false, aD (show ¬ (((s.getD i 0).toNat : Int) ≥ 240) by omega), ah, cond_false]
    rfl
   rw [av (show (((s.getD i 0).toNat : Int) ≥ 194) by omega), ah]
   rcases Nat.lt_or_ge (s.getD i 0).toNat 224 with c3 | c3
   ·have hu := TW (s.drop i) (by rw [d0]; omega)
    rw [d1, hlen] at hu
    rw [av (show (((s.getD i 0).toNat : Int) < 224) by omega), Cq]
    show JW s i (2 : Nat) 128 _ = _
    by_cases hn : i + 2 ≤ s.length
    ·rw [dA (n := ((s.getD i 0).toNat : Int) - 192) (by omega) (by omega)]
     have q := uZ s i 2 1 (((s.getD i 0).toNat : Int) - 192) (s.getD (i + 1) 0) (by omega) (by omega) (by omega) (by omega) hs (by omega) rfl
     by_cases t1 : (s.getD (i + 1) 0).toNat / 64 = 2
     ·rw [if_pos t1] at q
      refine (Bj (n := 2) (by omega) hs (by omega) (q.trans (Fy s i 2 _))).trans ?_
      rw [hu, if_pos (show 1 < s.length - i ∧ (s.getD (i + 1) 0).toNat / 64 = 2 by omega)]
      split
      ·exfalso; omega
      ·rfl
     ·rw [if_neg t1] at q
      refine (y9 (n := 2) (by omega) hs (by omega) q).trans ?_
      rw [show mM (s.drop i) = 0 by rw [hu]; exact if_neg (by omega)]
      rfl
    ·rw [show mM (s.drop i) = 0 by rw [hu]; exact if_neg (by omega)]
     exact Ag (by omega) hs hi hn
   rw [aD (show ¬ (((s.getD i 0).toNat : Int) < 224) by omega), av (show (((s.getD i 0).toNat : Int) ≥ 224) by omega), ah]
   rcases Nat.lt_or_ge (s.getD i 0).toNat 240 with c4 | c4
   ·have hu := TV (s.drop i) (by rw [d0]; omega)
    rw [d0, d1, d2, hlen] at hu
    rw [av (show (((s.getD i 0).toNat : Int) < 240) by omega), Cq]
    show JW s i (3 : Nat) 2048 _ = _
    by_cases hn : i + 3 ≤ s.length
    ·rw [dA (n := ((s.getD i 0).toNat : Int) - 224) (by omega) (by omega)]
     have q := uZ s i 3 1 (((s.getD i 0).toNat : Int) - 224) (s.getD (i + 1) 0) (by omega) (by omega) (by omega) (by omega) hs (by omega) rfl
     by_cases t1 : (s.getD (i + 1) 0).toNat / 64 = 2
     ·rw [if_pos t1] at q
      have q2 := uZ s i 3 2 ((((s.getD i 0).toNat : Int) - 224) * 64 + ((s.getD (i + 1) 0).toNat : Int) - 128) (s.getD (i + 2) 0) (by omega) (by omega) (by omega) (by omega) hs (by omega) rfl
      by_cases t2 : (s.getD (i + 2) 0).toNat / 64 = 2
      ·rw [if_pos t2] at q2
       refine (Bj (n := 3) (by omega) hs (by omega) (q.trans (q2.trans (Fy s i 3 _)))).trans ?_
       split
       ·rw [show mM (s.drop i) = 0 by rw [hu]; exact if_neg (by omega)]
        rfl
       ·rw [show mM (s.drop i) = 3 by rw [hu]; exact if_pos (by omega)]
        rfl
      ·rw [if_neg t2] at q2
       refine (y9 (n := 3) (by omega) hs (by omega) (q.trans q2)).trans ?_
       rw [show mM (s.drop i) = 0 by rw [hu]; exact if_neg (by omega)]
       rfl
     ·rw [if_neg t1] at q
      refine (y9 (n := 3) (by omega) hs (by omega) q).trans ?_
      rw [show mM (s.drop i) = 0 by rw [hu]; exact if_neg (by omega)]
      rfl
    ·rw [show mM (s.drop i) = 0 by rw [hu]; exact if_neg (by omega)]
     exact Ag (by omega) hs hi hn
   rw [aD (show ¬ (((s.getD i 0).toNat : Int) < 240) by omega), av (show (((s.getD i 0).toNat : Int) ≥ 240) by omega), ah]
   rcases Nat.lt_or_ge (s.getD i 0).toNat 245 with c5 | c5
   ·have hu := TU (s.drop i) (by rw [d0]; omega)
    rw [d0, d1, d2, d3, hlen] at hu
    rw [av (show (((s.getD i 0).toNat : Int) < 245) by omega), Cq]
    show JW s i (4 : Nat) 65536 _ = _
    by_cases hn : i + 4 ≤ s.length
    ·rw [dA (n := ((s.getD i 0).toNat : Int) - 240) (by omega) (by omega)]
     have q := uZ s i 4 1 (((s.getD i 0).toNat : Int) - 240) (s.getD (i + 1) 0) (by omega) (by omega) (by omega) (by omega) hs (by omega) rfl
     by_cases t1 : (s.getD (i + 1) 0).toNat / 64 = 2
     ·rw [if_pos t1] at q
      have q2 := uZ s i 4 2 ((((s.getD i 0).toNat : Int) - 240) * 64 + ((s.getD (i + 1) 0).toNat : Int) - 128) (s.getD (i + 2) 0) (by omega) (by omega) (by omega) (by omega) hs (by omega) rfl
      by_cases t2 : (s.getD (i + 2) 0).toNat / 64 = 2
      ·rw [if_pos t2] at q2
       have q3 := uZ s i 4 3 (((((s.getD i 0).toNat : Int) - 240) * 64 + ((s.getD (i + 1) 0).toNat : Int) - 128) * 64 + ((s.getD (i + 2) 0).toNat : Int) - 128) (s.getD (i + 3) 0) (by omega) (by omega) (by omega) (by omega) hs (by omega) rfl
       by_cases t3 : (s.getD (i + 3) 0).toNat / 64 = 2
       ·rw [if_pos t3] at q3
        refine (Bj (n := 4) (by omega) hs (by omega) (q.trans (q2.trans (q3.trans (Fy s i 4 _))))).trans ?_
        split
        ·rw [show mM (s.drop i) = 0 by rw [hu]; exact if_neg (by omega)]
         rfl
        ·rw [show mM (s.drop i) = 4 by rw [hu]; exact if_pos (by omega)]
         rfl
       ·rw [if_neg t3] at q3
        refine (y9 (n := 4) (by omega) hs (by omega) (q.trans (q2.trans q3))).trans ?_
        rw [show mM (s.drop i) = 0 by rw [hu]; exact if_neg (by omega)]
        rfl
      ·rw [if_neg t2] at q2
       refine (y9 (n := 4) (by omega) hs (by omega) (q.trans q2)).trans ?_
       rw [show mM (s.drop i) = 0 by rw [hu]; exact if_neg (by omega)]
       rfl
     ·rw [if_neg t1] at q
      refine (y9 (n := 4) (by omega) hs (by omega) q).trans ?_
      rw [show mM (s.drop i) = 0 by rw [hu]; exact if_neg (by omega)]
      rfl
    ·rw [show mM (s.drop i) = 0 by rw [hu]; exact if_neg (by omega)]
     exact Ag (by omega) hs hi hn
   ·have hu := Bl (s.drop i) (by rw [d0]; omega)
    rw [hu, aD (show ¬ (((s.getD i 0).toNat : Int) < 245) by omega)]
    rfl
  intro B hB hle
  rw [Int.toNat_natCast, hv]
  by_cases h0 : mM (s.drop i) = 0
  ·right; rw [hB, if_pos h0, if_pos h0]; rfl
  ·left
   rw [if_neg h0] at hB
   refine ⟨_, hB, ⟨_, rfl, by omega⟩, by rw [Int.toNat_natCast]; omega, ?_⟩
   rw [Int.toNat_natCast, if_neg h0, List.drop_drop]
 ·simp only [Int.toNat_zero, List.drop_zero]
  by_cases h : Go.Lib.validD s = true
  ·rw [h]; rfl
  ·rw [if_neg h, Bool.eq_false_iff.2 h]; rfl
theorem Gt (v : ApiValue) (h : v.S.length < 4611686018427387904) : qj v = some (val v) := by
 have e1 := IG v.S h
 have e2 : ((v.S.length : Int) ≤ 64) = (v.S.length ≤ 64) := propext (by omega)
 obtain ⟨K, N, S⟩ := v
 unfold qj val
 simp only [e1, e2, Bool.and_true] at *
 by_cases k0 : K = 0
 ·subst k0; cases hN : (N == 0) <;> simp [hN]
 by_cases k1 : K = 1
 ·subst k1; simp
 by_cases k2 : K = 2
 ·subst k2; simp
 by_cases k3 : K = 3
 ·subst k3; by_cases hN : N < 2 <;> simp [hN]
 by_cases k4 : K = 4
 ·subst k4; cases hN : (N == 0) <;> simp [hN]
 by_cases k5 : K = 5
 ·subst k5; cases hN : (N == 0) <;> by_cases hS : S.length ≤ 64 <;> simp [hN, hS, e1]
 simp [beq_eq_false_iff_ne.2 k0, beq_eq_false_iff_ne.2 k1, beq_eq_false_iff_ne.2 k2, beq_eq_false_iff_ne.2 k3, beq_eq_false_iff_ne.2 k4, beq_eq_false_iff_ne.2 k5]
def bH (n : UInt64) : Nat → List UInt8
 | 0 => []
 | k + 1 => UInt8.ofNat (n.toNat / 2 ^ (8 * k)) :: bH n k
theorem bQ (n : UInt64) : ∀ k, (bH n k).length = k
 | 0 => rfl
 | k + 1 => by simp [bH, bQ n k]
theorem Ji (n : UInt64) (m : Nat) : (bZ n m).toUInt8 = UInt8.ofNat (n.toNat / 2 ^ m) := by
 unfold bZ
 rw [← UInt8.toNat_inj]
 have h : n.toNat / 2 ^ m < 18446744073709551616 := Nat.lt_of_le_of_lt (Nat.div_le_self _ _) n.toNat_lt
 simp [UInt64.toNat_ofNat, Nat.mod_eq_of_lt h]
theorem afp (n : UInt64) : n.toUInt8 = UInt8.ofNat (n.toNat / 2 ^ (8 * 0)) := by
 rw [← UInt8.toNat_inj]; simp
theorem gY (n : UInt64) (k : Nat) (acc : List UInt8) (hk : k ≤ 8) (hr : acc.length + 8 ≤ 70368744177664) : bn n k acc = some (acc ++ bH n k) := by
 unfold bn
 rw [dA (n := (k : Int) - 1) (by omega) (by omega)]
 suffices h : ∀ (k : Nat) (acc : List UInt8), k ≤ 8 → acc.length + k ≤ 70368744177664 → ∀ B : Int × List UInt8 → Option ((Int × List UInt8) ⊕ List UInt8), B = (fun (y21, y22) =>
   bif (decide (y21 ≥ (0 : Int))) then
    bif decide (0 ≤ (bD ((8 : Int) * y21))) then
    bif decide ((y22.length + [((bZ n ((bD ((8 : Int) * y21)).toNat)).toUInt8)].length) * 1 ≤ room) then
    some (Sum.inl ((bD (y21 - (1 : Int))), (y22 ++ [((bZ n ((bD ((8 : Int) * y21)).toNat)).toUInt8)])))
    else none
    else none
   else
    some (Sum.inr y22)) → loop B ((k : Int) - 1, acc) = some (acc ++ bH n k) by
  rw [show (loop _ ((k : Int) - 1, acc)) = _ from h k acc hk (by omega) _ rfl]
  rfl
 intro k
 induction k with
 | zero =>
  intro acc _ _ B hB
  rw [bH, List.append_nil]
  refine iJ ?_
  rw [hB]
  rfl
 | succ k ih =>
  intro acc hk hr B hB
  have e : bD ((8 : Int) * (((k + 1 : Nat) : Int) - 1)) = ((8 * k : Nat) : Int) := by rw [dA (by omega) (by omega)]; omega
  have e2 : bD ((((k + 1 : Nat) : Int) - 1) - 1) = (k : Int) - 1 := by rw [dA (by omega) (by omega)]; omega
  have st : B (((k + 1 : Nat) : Int) - 1, acc) = some (Sum.inl ((k : Int) - 1, acc ++ [UInt8.ofNat (n.toNat / 2 ^ (8 * k))])) := by
   rw [hB]
   show (bif _ then _ else _) = _
   rw [e, e2, av (by omega), av (by omega), Int.toNat_natCast, Ji, av (by rw [bV]; simp; omega)]
  rw [lM st, ih (acc ++ [_]) (by omega) (by simp; omega) B hB, bH, List.append_assoc]
  rfl
theorem y7 (n : UInt64) (k : Int) : iB n k = bn n k [] := rfl
def turn (d : Bool) (b : List UInt8) : List UInt8 := if d then b.map (fun x => ~~~ x) else b
theorem Bp (d : Bool) (b : List UInt8) : (turn d b).length = b.length := by cases d <;> simp [turn]
theorem IZ (b : List UInt8) (h : b.length < 4611686018427387904) : mZ b = some (b.map (fun x => ~~~ x)) := by
  unfold mZ
  have q := vO (B := (fun (y57, Yy) =>
        bif (decide (Yy < (b.length : Int))) then
          Option.bind (bF y57 Yy) fun v67 =>
          Option.bind (bF y57 Yy) fun v68 =>
          some (Sum.inl ((List.set y57 Yy.toNat (~~~ v67)), (bD (Yy + (1 : Int)))))
        else
          some (Sum.inr y57))) (fun i => (mapped (fun x => ~~~ x) b i, (i : Int))) b.length (w := b.map (fun x => ~~~ x)) ?_ ?_
  · rw [Ew] at q
    rw [show (loop _ (b, (0 : Int))) = _ from q]
    rfl
  · intro i hi
    show (bif _ then _ else _) = _
    rw [av (by omega), nZ, GQ _ _ hi, ah, ah, bN (by omega), Int.toNat_natCast]
    exact congrArg (fun x => some (Sum.inl (x, _))) (GL _ _ hi)
  · show (bif _ then _ else _) = _
    rw [aD (by omega), GR]
def esc : List UInt8 → List UInt8
 | [] => []
 | x :: r => if x = 0 then 0 :: 255 :: esc r else x :: esc r
theorem zn : ∀ s, (esc s).length ≤ 2 * s.length
 | [] => by simp [esc]
 | x :: r => by have := zn r; unfold esc; split <;> simp <;> omega
open Go.Lib in
theorem yO (b : UInt8) (l : List UInt8) : index (b :: l) [0] = if b = 0 then 0 else if index l [0] = -1 then -1 else index l [0] + 1 := by
 conv => lhs; unfold index
 by_cases hb : b = 0
 ·subst hb; simp [List.isPrefixOf]
 ·rw [if_neg hb]
  rw [if_neg (by simp [List.isPrefixOf]; exact fun h => hb h.symm)]
  by_cases h : index l [0] = -1
  ·simp [h]
  ·rw [if_neg h, if_neg (by simpa using h)]
open Go.Lib in
theorem Mk (b : UInt8) (l new : List UInt8) (hb : b ≠ 0) : ∀ k, replaceK [0] new k (b :: l) = b :: replaceK [0] new k l
 | 0 => rfl
 | k + 1 => by
  have h := yO b l
  rw [if_neg hb] at h
  unfold replaceK
  by_cases hm : index l [0] = -1
  ·rw [if_pos hm] at h
   rw [h, hm]; rfl
  ·have hge := index_ge l [0]
   rw [if_neg hm] at h
   rw [if_neg (by rw [h]; intro e; have := beq_iff_eq.1 e; omega), if_neg (by intro e; exact hm (beq_iff_eq.1 e)), h]
   have e1 : (index l [0] + 1).toNat = (index l [0]).toNat + 1 := by omega
   rw [e1, List.take_succ_cons, Nat.add_right_comm, List.drop_succ_cons]
   simp
open Go.Lib in
theorem Nh (b : UInt8) (l : List UInt8) : count (b :: l) [0] = if b = 0 then 1 + count l [0] else count l [0] := by
 have h := yO b l
 by_cases hb : b = 0
 ·rw [if_pos hb] at h ⊢
  exact count_hit (i := 0) (by simp) h
 ·rw [if_neg hb] at h ⊢
  by_cases hm : index l [0] = -1
  ·rw [if_pos hm] at h
   rw [count_miss h, count_miss hm]
  ·have hge := index_ge l [0]
   rw [if_neg hm] at h
   have e1 : index (b :: l) [0] = ((index l [0]).toNat + 1 : Nat) := by omega
   have e2 : index l [0] = ((index l [0]).toNat : Nat) := by omega
   rw [count_hit (by simp) e1, count_hit (s := l) (by simp) e2]
   rfl
open Go.Lib in
theorem Mj (s : List UInt8) : replaceAll s [0] [0, 255] = esc s := by
 have e : replaceNum s [0] (-1) = count s [0] := by unfold replaceNum; rw [if_pos (.inl (by omega))]
 unfold replaceAll replace
 rw [if_neg (by decide), e]
 induction s with
 | nil => rfl
 | cons b l ih =>
  rw [Nh]
  unfold esc
  by_cases hb : b = 0
  ·have h := yO b l
   rw [if_pos hb] at h
   rw [if_pos hb, if_pos hb, Nat.add_comm, replaceK_hit _ _ _ _ 0 h]
   have e : replaceNum l [0] (-1) = count l [0] := by unfold replaceNum; rw [if_pos (.inl (by omega))]
   simp only [List.take_zero, List.nil_append, List.length_singleton, Nat.zero_add, List.drop_succ_cons, List.drop_zero]
   rw [ih e]; rfl
  ·rw [if_neg hb, if_neg hb, Mk _ _ _ hb, ih (by unfold replaceNum; rw [if_pos (.inl (by omega))])]
theorem Ri (s : List UInt8) (h : s.length ≤ 1048576) : Jl s ([0] : List UInt8) ([0, 255] : List UInt8) = some (esc s) := by
 unfold Jl
 have := Go.Lib.count_le s [0]
 rw [if_pos ⟨by omega, by simp, (by show s.length + Go.Lib.count s [0] * 2 ≤ _; omega)⟩, Mj]
def body (v : ApiValue) : List UInt8 :=
 if v.Kind = 1 then bH (v.N ^^^ 9223372036854775808) 8 else if v.Kind = 2 then bH v.N 8 else if v.Kind = 3 then bH v.N 1
 else if v.Kind = 4 ∨ v.Kind = 5 then esc v.S ++ [0, 0] else []
def enc (v : ApiValue) : List UInt8 := (if v.Kind = 0 then 0 else 1) :: body v
theorem HV (v : ApiValue) : (body v).length ≤ 2 * v.S.length + 8 := by
 unfold body
 have := zn v.S
 repeat' split
 all_goals simp [bQ] <;> omega
theorem yH (a b : List UInt8) (h : b.length + a.length ≤ 70368744177664) : gN a b = some () := by
 unfold gN; rw [av (by rw [bV]; omega)]
theorem F5 (n : UInt64) (m : Nat) (x : UInt16) (h : x.toNat = n.toNat / 2 ^ m % 65536) : (dM x 8).toUInt8 = UInt8.ofNat (n.toNat / 2 ^ (m + 8)) := by
 unfold dM
 rw [← UInt8.toNat_inj]
 have hx := x.toNat_lt
 have e : n.toNat / 2 ^ (m + 8) = n.toNat / 2 ^ m / 256 := by rw [Nat.pow_add, Nat.div_div_eq_div_mul]
 simp [UInt16.toNat_ofNat, e]
 omega
theorem F4 (n : UInt64) (m : Nat) (x : UInt16) (h : x.toNat = n.toNat / 2 ^ m % 65536) : x.toUInt8 = UInt8.ofNat (n.toNat / 2 ^ m) := by
 rw [← UInt8.toNat_inj]
 simp [h]
 try omega
theorem aeI (n : UInt64) : (bZ n 32).toUInt32.toNat = n.toNat / 2 ^ 32 := by
 unfold bZ
 have := n.toNat_lt
 simp [UInt64.toNat_ofNat]
 omega
theorem DW (n : UInt64) (acc : List UInt8) : (((acc ++ [((dM ((eu ((bZ n 32).toUInt32) 16).toUInt16) 8).toUInt8), (((eu ((bZ n 32).toUInt32) 16).toUInt16).toUInt8)]) ++ [((dM (((bZ n 32).toUInt32).toUInt16) 8).toUInt8), ((((bZ n 32).toUInt32).toUInt16).toUInt8)]) ++ [((dM ((eu (n.toUInt32) 16).toUInt16) 8).toUInt8), (((eu (n.toUInt32) 16).toUInt16).toUInt8)]) ++ [((dM ((n.toUInt32).toUInt16) 8).toUInt8), (((n.toUInt32).toUInt16).toUInt8)] = acc ++ bH n 8 := by
 have hn := n.toNat_lt
 have h1 : ((eu ((bZ n 32).toUInt32) 16).toUInt16).toNat = n.toNat / 2 ^ 48 % 65536 := by
  unfold eu
  have := aeI n
  simp [UInt32.toNat_ofNat] at *
  omega
 have h2 : (((bZ n 32).toUInt32).toUInt16).toNat = n.toNat / 2 ^ 32 % 65536 := by
  have := aeI n
  simp at *
  omega
 have h3 : ((eu (n.toUInt32) 16).toUInt16).toNat = n.toNat / 2 ^ 16 % 65536 := by
  unfold eu
  simp [UInt32.toNat_ofNat]
  omega
 have h4 : ((n.toUInt32).toUInt16).toNat = n.toNat / 2 ^ 0 % 65536 := by
  simp
 rw [F5 n 48 _ h1, F4 n 48 _ h1, F5 n 32 _ h2, F4 n 32 _ h2, F5 n 16 _ h3, F4 n 16 _ h3, F5 n 0 _ h4, F4 n 0 _ h4]
 simp [bH]
theorem AZ (x : UInt16) (b : List UInt8) (h : b.length + 2 ≤ 70368744177664) : jJ x b = some () := by
 unfold jJ; rw [yH _ _ (by simpa using h)]; rfl
theorem Ij (x : UInt32) (b : List UInt8) (h : b.length + 4 ≤ 70368744177664) : lH x b = some () := by
 unfold lH; rw [AZ _ _ (by omega), ah, AZ _ _ (by simp; omega)]; rfl
theorem AY (x : UInt64) (b : List UInt8) (h : b.length + 8 ≤ 70368744177664) : jI x b = some () := by
 unfold jI; rw [Ij _ _ (by omega), ah, Ij _ _ (by simp; omega)]; rfl
theorem OV (v : ApiValue) (d : Bool) (h : v.S.length ≤ 1048576) : zk v d = some (turn d (enc v)) := by
 have hf : mG (v.Kind != (0 : Int)) = some [if v.Kind = 0 then 0 else 1] := by
  unfold mG
  by_cases k : v.Kind = 0
  ·rw [k]; rfl
  ·rw [if_neg k, show (v.Kind != 0) = true by simpa using k]; rfl
 have hb := HV v
 obtain ⟨K, N, S⟩ := v
 simp only at h hf hb
 unfold zk
 simp only
 rw [hf, ah]
 -- the middle
 have key : ∀ (m : Option (List UInt8)) (q : List UInt8), m = some q → (if K = 4 ∨ K = 5 then q ++ (esc S ++ [0, 0]) else q) = enc ⟨K, N, S⟩ → q.length ≤ 100 →
   (Option.bind (α := (List UInt8)) m
  fun y50 =>
 Option.bind (gP y50) fun _ =>
 Option.bind (α := (List UInt8))
  (Option.bind (α := Bool)
   (bif (K == (4 : Int)) then
    some true
   else
    some (K == (5 : Int)))
   fun JI =>
  bif JI then
   Option.bind (Jl S ([0] : List UInt8) ([0, 255] : List UInt8)) fun r75 =>
   bif decide ((y50.length + r75.length) * 1 ≤ room) then
   bif decide (((y50 ++ r75).length + [(0 : UInt8), (0 : UInt8)].length) * 1 ≤ room) then
   some ((y50 ++ r75) ++ [(0 : UInt8), (0 : UInt8)])
   else none
   else none
  else
   some y50)
  fun y68 =>
 bif d then
  Option.bind (mZ y68) fun S9 =>
  some S9
 else
  some y68) = some (turn d (enc ⟨K, N, S⟩)) := by
  intro m q hm he hq
  subst hm
  have hl := zn S
  rw [ah, show gP q = some () by unfold gP; rw [av (by rw [bV]; omega)], ah, Ri S h]
  have hlen : (enc ⟨K, N, S⟩).length ≤ 4194304 := by unfold enc; simp; omega
  have ht : (bif d then Option.bind (mZ (enc ⟨K, N, S⟩)) fun S9 => some S9 else some (enc ⟨K, N, S⟩)) = some (turn d (enc ⟨K, N, S⟩)) := by
   cases d with
   | false => rfl
   | true => rw [cond_true, IZ _ (by omega)]; rfl
  by_cases k4 : K = 4
  ·rw [if_pos (.inl k4)] at he
   rw [k4] at he ht ⊢
   simp only [BEq.rfl, cond_true, ah]
   rw [av (by rw [bV]; omega), av (by rw [bV]; simp; omega), ah, List.append_assoc, he]
   exact ht
  by_cases k5 : K = 5
  ·rw [if_pos (.inr k5)] at he
   rw [k5] at he ht ⊢
   simp only [show ((5 : Int) == 4) = false from rfl, cond_false, BEq.rfl, cond_true, ah]
   rw [av (by rw [bV]; omega), av (by rw [bV]; simp; omega), ah, List.append_assoc, he]
   exact ht
  rw [if_neg (by omega)] at he
  subst he
  rw [beq_eq_false_iff_ne.2 k4, beq_eq_false_iff_ne.2 k5, cond_false, ah, cond_false, ah]
  exact ht
 by_cases k1 : K = 1
 ·subst k1
  refine key _ ([1] ++ bH (N ^^^ 9223372036854775808) 8) ?_ ?_ ?_
  rotate_left
  ·rfl
  ·simp [bQ]
  ·simp only [BEq.rfl, cond_true]
   rw [AY _ _ (by simp), ah, DW]
   rfl
 by_cases k2 : K = 2
 ·subst k2
  refine key _ ([1] ++ bH N 8) ?_ ?_ ?_
  rotate_left
  ·rfl
  ·simp [bQ]
  ·simp only [show ((2 : Int) == 1) = false from rfl, cond_false, BEq.rfl, cond_true]
   rw [AY _ _ (by simp), ah, DW]
   rfl
 by_cases k3 : K = 3
 ·subst k3
  refine key _ ([1] ++ bH N 1) ?_ ?_ ?_
  rotate_left
  ·rfl
  ·simp [bQ]
  ·simp only [show ((3 : Int) == 1) = false from rfl, show ((3 : Int) == 2) = false from rfl, cond_false, BEq.rfl, cond_true]
   rw [show kP (N.toUInt8) [if (3 : Int) = 0 then 0 else 1] = some () from by unfold kP; rw [yH _ _ (by simp)]; rfl, ah, afp]
   rfl
 refine key _ ([if K = 0 then 0 else 1]) ?_ ?_ ?_
 rotate_left
 ·unfold enc body
  simp only [k1, k2, k3, if_false]
  split <;> rfl
 ·simp
 ·rw [beq_eq_false_iff_ne.2 k1, beq_eq_false_iff_ne.2 k2, beq_eq_false_iff_ne.2 k3]; rfl
structure Sm (l : List ApiValue) : Prop where
 len : l.length ≤ 1048576
 txt : ∀ v ∈ l, v.S.length ≤ 1048576
theorem Sm.get {l : List ApiValue} (h : Sm l) {i : Nat} (hi : i < l.length) : (l[i]'hi).S.length ≤ 1048576 := h.txt _ (List.getElem_mem hi)
def bad (v : ApiValue) : Bool := !val v
def vV : List ApiValue → List Bool → List UInt8
 | v :: l, d :: ds => turn d (enc v) ++ vV l ds
 | _, _ => []
def encS (l : List ApiValue) (ds : List Bool) : List UInt8 × Int :=
 if l.length = ds.length then
  if l.any bad = true then ([], 8) else if (vV l ds).length > 256 then ([], 7) else (vV l ds, 0)
 else ([], 1)
theorem DN : ∀ (l : List ApiValue) (ds : List Bool) (i : Nat) (h : i < l.length) (h2 : i < ds.length), vV (l.take (i + 1)) (ds.take (i + 1)) = vV (l.take i) (ds.take i) ++ turn ds[i] (enc l[i])
 | v :: l, d :: ds, 0, h, h2 => by simp [vV]
 | v :: l, d :: ds, i + 1, h, h2 => by
  simp only [List.take_succ_cons, vV, List.getElem_cons_succ]
  rw [DN l ds i (by simpa using h) (by simpa using h2), List.append_assoc]
theorem CK {v : ApiValue} (h : val v = true) : v.S.length ≤ 64 := by
 unfold val at h
 simp only [Bool.or_eq_true, Bool.and_eq_true, beq_iff_eq, decide_eq_true_eq] at h
 rcases h with (((⟨_, _, h⟩ | ⟨_, h⟩) | ⟨_, _, h⟩) | ⟨_, _, h⟩) | ⟨_, _, h, _⟩
 ·rw [h]; simp
 ·rw [h]; simp
 ·rw [h]; simp
 ·exact h
 ·exact h
theorem DL {v : ApiValue} (h : val v = true) : (enc v).length ≤ 137 := by
 have := HV v
 have := CK h
 unfold enc
 simp; omega
theorem wS : ∀ (l : List ApiValue) (ds : List Bool), l.any bad = false → (vV l ds).length ≤ 137 * l.length
 | [], ds, _ => by simp [vV]
 | v :: l, [], _ => by simp [vV]
 | v :: l, d :: ds, h => by
  rw [List.any_cons, Bool.or_eq_false_iff] at h
  have := DL (v := v) (by have := h.1; unfold bad at this; simpa using this)
  have := wS l ds h.2
  simp [vV, Bp]
  omega
theorem Nw {α : Type} (p : α → Bool) (l : List α) (i : Nat) (h : l.any p = false) : (l.take i).any p = false := by
 rw [List.any_eq_false] at h ⊢
 exact fun x hx => h x (List.mem_of_mem_take hx)
theorem NS (v : ApiValue) (h : v.S.length ≤ 1048576) : lN v = some (bad v) := by
 unfold lN; rw [xY v (by omega)]; rfl
theorem Sz (l : List ApiValue) (h : Sm l) : cu l = some (l.any bad) := by
  unfold cu dJ
  have hl := h.len
  have q := MJ (B := (fun y69 =>
        bif (decide (y69 < (l.length : Int))) then
          Option.bind (bF l y69) fun v79 =>
          Option.bind (lN v79) fun S9 =>
          bif S9 then
            some (Sum.inr (Sum.inr y69))
          else
            some (Sum.inl (bD (y69 + (1 : Int))))
        else
          some (Sum.inr (Sum.inl ())))) l bad (fun i => .inr (i : Int)) (.inl ()) (fun i hi => by
      show (bif _ then _ else _) = _
      rw [av (by omega), bM hi, ah, NS _ (h.get hi), ah]
      cases bad l[i]
      · rw [cond_false, bN (by omega)]; rfl
      · rfl) (by
      show (bif _ then _ else _) = _
      rw [aD (by omega)])
  rcases q with ⟨q1, i, _, _, q2⟩ | ⟨q1, q2⟩
  · rw [show (loop _ (0 : Int)) = _ from q2, q1]
    show some (decide ((i : Int) ≥ 0)) = _
    rw [decide_eq_true (by omega)]
  · rw [show (loop _ (0 : Int)) = _ from q2, q1]
    rfl
theorem I5 (l : List ApiValue) (ds : List Bool) (h : Sm l) : oU l ds = some (encS l ds) := by
  unfold oU encS
  have hl := h.len
  by_cases he : l.length = ds.length
  rotate_left
  · rw [if_neg he, show ((l.length : Int) != (ds.length : Int)) = true by simp; omega]; rfl
  rw [if_pos he, show ((l.length : Int) != (ds.length : Int)) = false by simp; omega, cond_false, Sz l h, ah]
  cases hb : l.any bad with
  | true => rfl
  | false =>
    rw [cond_false, if_neg (by simp)]
    have hs := wS l ds hb
    have q := vO (B := (fun (Tg, y98) =>
            bif (decide (y98 < (l.length : Int))) then
              Option.bind (bF l y98) fun Q6 =>
              Option.bind (bF ds y98) fun ajN =>
              Option.bind (zk Q6 ajN) fun Rl =>
              bif decide ((Tg.length + Rl.length) * 1 ≤ room) then
              some (Sum.inl ((Tg ++ Rl), (bD (y98 + (1 : Int)))))
              else none
            else
              some (Sum.inr Tg))) (fun i => (vV (l.take i) (ds.take i), (i : Int))) l.length (w := vV l ds) ?_ ?_
    · rw [show (loop _ (([] : List UInt8), (0 : Int))) = _ from q, ah, ah]
      by_cases hlen : (vV l ds).length > 256
      · rw [if_pos hlen, av (by omega)]
      · rw [if_neg hlen, aD (by omega)]
    · intro i hi
      have h1 := wS (l.take i) (ds.take i) (Nw _ _ _ hb)
      have h2 := DL (v := l[i]) (by rw [List.any_eq_false] at hb; have := hb _ (List.getElem_mem hi); unfold bad at this; simpa using this)
      rw [List.length_take, Nat.min_eq_left (Nat.le_of_lt hi)] at h1
      show (bif _ then _ else _) = _
      rw [av (by omega), bM hi, ah, bM (by omega), ah, OV _ _ (h.get hi), ah, av (by rw [bV, Bp]; omega), bN (by omega), DN l ds i hi (by omega)]
    · show (bif _ then _ else _) = _
      rw [aD (by omega), List.take_length, he, List.take_length]
end Lv
namespace Lv
open Go Go.Proofs
theorem GV : ∀ a : List UInt8, Op.bytesLess a a = false
 | [] => rfl
 | x :: a => by simp [Op.bytesLess, GV a]
def nu : List UInt8 → Option (List UInt8)
 | [] => none
 | x :: r => match nu r with
  | some r' => some (x :: r')
  | none => if x = 255 then none else some [x + 1]
theorem EH : ∀ {q : List UInt8}, (∀ x, x ∈ q → x = 255) → nu q = none
 | [], _ => rfl
 | x :: q, h => by
  have hq : nu q = none := EH fun y hy => h y (List.mem_cons_of_mem _ hy)
  have hx : x = 255 := h x (List.mem_cons_self ..)
  simp only [nu, hq, hx, if_true]
theorem Ab : ∀ (p : List UInt8) {q : List UInt8}, (∀ x, x ∈ q → x = 255) → nu (p ++ q) = nu p
 | [], q, h => by rw [List.nil_append, EH h]; rfl
 | x :: p, q, h => by simp only [List.cons_append, nu, Ab p h]
theorem EG : ∀ (p : List UInt8) {x : UInt8}, x ≠ 255 → nu (p ++ [x]) = some (p ++ [x + 1])
 | [], x, h => by simp [nu, h]
 | y :: p, x, h => by simp only [List.cons_append, nu, EG p h]
variable [BaseTab]
theorem Wt (s : List UInt8) (hs : s.length < 4611686018427387904) : vQ s = some (match nu s with | some a => (a, true) | none => ([], false)) := by
 unfold vQ
 suffices hk : ∀ B : Nat → Option (Nat ⊕ Nat), (∀ y, y ≤ s.length → B y = some (if 0 < y ∧ s[y - 1]? = some 255 then .inl (y - 1) else .inr y)) → ∀ y, y ≤ s.length → ∃ n, n ≤ y ∧ loop B y = some n ∧ (∀ i, n ≤ i → i < y → s[i]? = some 255) ∧ (n = 0 ∨ s[n - 1]? ≠ some 255) by
  refine Exists.elim (hk (fun LK =>
    Option.bind (α := Bool)
     (bif (decide ((LK : Int) > (0 : Int))) then
      Option.bind (qY s 0 LK (bD ((LK : Int) - (1 : Int)))) fun FW =>
      some (FW == (255 : UInt8))
     else
      some false)
     fun Ae =>
    bif Ae then
     bif decide (0 ≤ (bD ((LK : Int) - (1 : Int))) ∧ (bD ((LK : Int) - (1 : Int))) ≤ (LK : Int)) then
     some (Sum.inl ((bD ((LK : Int) - (1 : Int))).toNat))
     else none
    else
     some (Sum.inr LK)) ?_ s.length (Nat.le_refl _)) ?_
  ·intro y hy
   show Option.bind (bif _ then _ else _) _ = _
   by_cases h0 : 0 < y
   rotate_left
   ·rw [aD (by omega), ah, cond_false, if_neg (fun h => h0 h.1)]
   rw [av (by omega), dA (n := (y : Int) - 1) (by omega) (by omega)]
   have hg : qY s 0 y ((y : Int) - 1) = s[y - 1]? := by
    unfold qY
    rw [if_pos (by omega), Nat.zero_add, show ((y : Int) - 1).toNat = y - 1 by omega]
   rw [hg, List.getElem?_eq_getElem (by omega), ah, ah]
   by_cases h1 : s[y - 1]'(by omega) = 255
   ·rw [h1, BEq.rfl, cond_true, av (by omega), if_pos ⟨h0, rfl⟩, show ((y : Int) - 1).toNat = y - 1 by omega]
   ·rw [beq_eq_false_iff_ne.2 h1, cond_false, if_neg (fun h => h1 (Option.some.inj h.2))]
  ·rintro n ⟨h1, h2, h3, h4⟩
   rw [h2, ah, ah]
   have hsplit : s = s.take n ++ s.drop n := (List.take_append_drop _ _).symm
   have hfull : ∀ x, x ∈ s.drop n → x = 255 := by
    intro x hx
    obtain ⟨i, hi⟩ := List.getElem?_of_mem hx
    rw [List.getElem?_drop] at hi
    have hlt := MI hi
    rw [h3 (n + i) (by omega) (by omega)] at hi
    exact (Option.some.inj hi).symm
   have e1 : nu s = nu (s.take n) := by
    conv => lhs; rw [hsplit]
    exact Ab _ hfull
   rw [e1]
   by_cases h0 : n = 0
   ·subst h0; rfl
   obtain ⟨m, rfl⟩ : ∃ m, n = m + 1 := ⟨n - 1, by omega⟩
   have hm : m < s.length := by omega
   have hx : s[m] ≠ 255 := by
    rcases h4 with h4 | h4
    ·omega
    ·intro e; apply h4; rw [show m + 1 - 1 = m by omega, List.getElem?_eq_getElem hm, e]
   have hg : qY s 0 (m + 1) (m : Int) = some s[m] := by
    unfold qY
    rw [if_pos (by omega), Nat.zero_add, Int.toNat_natCast, List.getElem?_eq_getElem hm]
   rw [beq_eq_false_iff_ne.2 (show ¬ ((m + 1 : Nat) : Int) = 0 by omega), cond_false, dA (n := ((m + 1 : Nat) : Int) - 1) (by omega) (by omega), show ((m + 1 : Nat) : Int) - 1 = (m : Int) by omega, hg, ah, ah, Int.toNat_natCast, av (by simp; omega)]
   rw [List.take_succ_eq_append_getElem hm, EG _ hx]
   simp only
   congr 2
   rw [List.drop_zero, List.take_set, List.take_succ_eq_append_getElem hm, List.set_append_right _ _ (by simp; omega)]
   have : m - (s.take m).length = 0 := by simp; omega
   rw [this, List.set_cons_zero]
 intro B hB y
 induction y with
 | zero => intro _; exact ⟨0, by omega, iJ (by rw [hB 0 (by omega), if_neg (by omega)]), fun i _ _ => by omega, .inl rfl⟩
 | succ y ih =>
  intro hy
  have hb := hB (y + 1) hy
  by_cases h : s[y]? = some 255
  ·rw [if_pos ⟨by omega, by simpa using h⟩] at hb
   obtain ⟨n, h1, h2, h3, h4⟩ := ih (by omega)
   refine ⟨n, by omega, (lM hb).trans h2, fun i k1 k2 => ?_, h4⟩
   by_cases e : i = y
   ·rw [e]; exact h
   ·exact h3 i k1 (by omega)
  ·rw [if_neg (fun k => h (by simpa using k.2))] at hb
   exact ⟨y + 1, by omega, iJ hb, fun i _ _ => by omega, .inr (by simpa using h)⟩
end Lv
namespace Lv
open Go Go.Proofs
variable [BaseTab]
def letter (c : UInt8) : Bool := decide (97 ≤ c) && decide (c ≤ 122)
def oG (c : UInt8) : Bool := letter c || c == 95 || (decide (48 ≤ c) && decide (c ≤ 57))
def oH : List UInt8 → Bool
 | [] => false
 | c :: r => decide (r.length < 16) && (letter c && r.all oG)
theorem nall (l : List UInt8) : (l.any fun c => !oG c) = !l.all oG := by induction l <;> simp_all [List.any_cons, List.all_cons]
theorem Iu (s : List UInt8) (hs : s.length < 4611686018427387904) : rM s = some (oH s) := by
 unfold rM
 cases s with
 | nil => rfl
 | cons c r =>
  have hlen : (c :: r).length = r.length + 1 := rfl
  refine bo (a := decide (r.length ≥ 16)) ?_ ?_
  ·rw [show ((c :: r) == ([] : List UInt8)) = false from rfl, cond_false, hlen]; congr 1; exact Pt (by omega)
  by_cases h16 : r.length ≥ 16
  ·rw [av h16]; simp only [oH]; rw [decide_eq_false (by omega)]; rfl
  rw [aD h16]
  have e1 : oH (c :: r) = (letter c && r.all oG) := by simp only [oH]; rw [decide_eq_true (by omega)]; rfl
  rw [e1]
  refine Lm (w := if (letter c && r.all oG) = true then .inl () else .inr false) (nmB fun B hB => ?_) ?_
  rotate_left
  ·cases (letter c && r.all oG) <;> rfl
  have step : ∀ (i : Nat) (x : UInt8), i < (c :: r).length → (c :: r)[i]? = some x → B (i : Int) = some (if (if i = 0 then !letter x else !oG x) = true then .inr (.inr false) else .inl ((i + 1 : Nat) : Int)) := by
   intro i x hi hx
   rw [hB]
   show (bif _ then _ else _) = _
   rw [av (by omega), nZ, hx, ah, show ((i : Int) == 0) = decide (i = 0) by rw [Bool.eq_iff_iff]; simp, bN (by omega)]
   generalize ((i + 1 : Nat) : Int) = k
   by_cases h0 : i = 0
   ·simp only [h0, decide_true, if_true]
    clear hx
    refine bo (a := letter x) ?_ ?_
    ·revert x; exact u8F (by decide +kernel)
    ·cases letter x <;> rfl
   ·simp only [h0, decide_false, if_false]
    clear hx
    refine bo (a := letter x) ?_ (bo (a := !oG x) ?_ ?_)
    ·revert x; exact u8F (by decide +kernel)
    ·revert x; exact u8F (by decide +kernel)
    ·cases oG x <;> rfl
  have s0 := step 0 c (by omega) rfl
  rw [show (0 : Int) = ((0 : Nat) : Int) from rfl]
  cases hc : letter c with
  | false => rw [hc] at s0; exact iJ s0
  | true =>
   rw [hc] at s0
   rw [lM (y' := ((0 + 1 : Nat) : Int)) s0]
   refine (WC r (fun c => !oG c) (.inr false) (.inl ()) (fun i => ((i + 1 : Nat) : Int)) (fun i hi => ?_) ?_ rfl).trans ?_
   ·rw [step (i + 1) r[i] (by omega) (by simp [hi])]
    simp
   ·rw [hB]
    show (bif _ then _ else _) = _
    rw [aD (by omega)]
   ·rw [nall]; cases r.all oG <;> rfl
theorem uM (s : List UInt8) (hs : s.length < 4611686018427387904) : mV s = some (oH s) := by
 unfold mV
 cases s with
 | nil => rfl
 | cons c r =>
  have hlen : (c :: r).length = r.length + 1 := rfl
  have e1 : oH (c :: r) = (decide (r.length < 16) && (letter c && r.all oG)) := rfl
  rw [e1]
  refine bo (a := !(decide (r.length < 16) && letter c)) ?_ ?_
  ·rw [aD (by omega), show bF (c :: r) 0 = some c from rfl]
   by_cases h16 : r.length < 16
   ·rw [aD (by omega), decide_eq_true h16]
    simp only [ah, Bool.true_and]
    clear e1 hlen hs
    revert c; exact u8F (by decide +kernel)
   ·rw [av (by omega), decide_eq_false h16]; rfl
  by_cases h16 : r.length < 16
  rotate_left
  ·rw [decide_eq_false h16]; rfl
  rw [decide_eq_true h16, Bool.true_and, Bool.true_and]
  cases hc : letter c with
  | false => rfl
  | true =>
   rw [Bool.not_true, cond_false, Bool.true_and]
   refine Lm (w := if r.all oG = true then .inl () else .inr false) (nmB fun B hB => ?_) ?_
   rotate_left
   ·cases r.all oG <;> rfl
   refine (WC r (fun c => !oG c) (.inr false) (.inl ()) (fun i => ((i + 1 : Nat) : Int)) (fun i hi => ?_) ?_ rfl).trans ?_
   ·rw [hB]
    show (bif _ then _ else _) = _
    rw [av (by omega), nZ, show (c :: r)[i + 1]? = some r[i] by simp [hi], bN (by omega)]
    generalize ((i + 1 + 1 : Nat) : Int) = k
    generalize r[i] = x
    simp only [ah]
    refine bo (a := !oG x) ?_ ?_
    ·revert x; exact u8F (by decide +kernel)
    ·cases oG x <;> rfl
   ·rw [hB]
    show (bif _ then _ else _) = _
    rw [aD (by omega)]
   ·rw [nall]; cases r.all oG <;> rfl
def uU (c : ApiColumn) (v : ApiValue) : Int :=
 if val v = false then 8 else if v.Kind = 0 then (if c.xL = true then 0 else 8) else if v.Kind ≠ c.Kind then 8 else if (v.Kind = 4 ∨ v.Kind = 5) ∧ (v.S.length : Int) > c.Max then 7 else 0
theorem Qp (k : Int) : kI k = some (decide (k = 4 ∨ k = 5)) := by
 unfold kI
 by_cases h : k = 4
 ·subst h; rfl
 ·rw [show (k == 4) = false by simpa using h]
  simp only [cond_false, ah, h, false_or]
  congr 1
theorem pI (c : ApiColumn) (v : ApiValue) (h : v.S.length < 4611686018427387904) : kJ c v = some (uU c v) := by
 unfold kJ uU
 rw [xY v h, ah]
 cases hv : val v with
 | false => rfl
 | true =>
  simp only [Bool.not_true, cond_false, Bool.true_eq_false, if_false]
  by_cases h0 : v.Kind = 0
  ·rw [show (v.Kind == 0) = true by simpa using h0, if_pos h0]
   cases c.xL <;> rfl
  rw [show (v.Kind == 0) = false by simpa using h0, if_neg h0, cond_false]
  by_cases hk : v.Kind = c.Kind
  rotate_left
  ·rw [show (v.Kind != c.Kind) = true by simpa using hk, if_pos hk]; rfl
  rw [show (v.Kind != c.Kind) = false by simpa using hk, if_neg (by simpa using hk), cond_false, Qp, ah]
  by_cases hl : v.Kind = 4 ∨ v.Kind = 5
  ·rw [av hl, ah]
   by_cases hm : (v.S.length : Int) > c.Max
   ·rw [if_pos ⟨hl, hm⟩, av hm]
   ·rw [if_neg (fun h => hm h.2), aD hm]
  ·rw [aD hl, ah, if_neg (fun h => hl h.1)]; rfl
theorem uO (c : ApiColumn) (v : ApiValue) (h : v.S.length < 4611686018427387904) : mW c v = some (uU c v) := by
 unfold mW uU
 rw [Gt v h, ah]
 cases hv : val v with
 | false => rfl
 | true =>
  simp only [Bool.not_true, cond_false, Bool.true_eq_false, if_false]
  by_cases h0 : v.Kind = 0
  ·rw [show (v.Kind == 0) = true by simpa using h0, if_pos h0, show (v.Kind != 0) = false by simpa using h0, h0]
   cases c.xL <;> rfl
  rw [show (v.Kind == 0) = false by simpa using h0, if_neg h0, show (v.Kind != 0) = true by simpa using h0]
  simp only [cond_false, cond_true, ah]
  by_cases hk : v.Kind = c.Kind
  rotate_left
  ·rw [show (v.Kind != c.Kind) = true by simpa using hk, if_pos hk]; rfl
  rw [show (v.Kind != c.Kind) = false by simpa using hk, if_neg (by simpa using hk), cond_false]
  refine bo (a := decide ((v.Kind = 4 ∨ v.Kind = 5) ∧ (v.S.length : Int) > c.Max)) ?_ ?_
  ·by_cases h4 : v.Kind = 4
   ·rw [show (v.Kind == 4) = true by simpa using h4]; simp [h4]
   ·rw [show (v.Kind == 4) = false by simpa using h4]
    by_cases h5 : v.Kind = 5
    ·rw [show (v.Kind == 5) = true by simpa using h5]; simp [h5]
    ·rw [show (v.Kind == 5) = false by simpa using h5]; simp [h4, h5]
  ·by_cases q : (v.Kind = 4 ∨ v.Kind = 5) ∧ (v.S.length : Int) > c.Max
   ·rw [av q, if_pos q]
   ·rw [aD q, if_neg q]
def nI (c : ApiColumn) : Int :=
 if oH c.Name = false then 1 else if c.Kind < 1 ∨ c.Kind > 5 then 8 else if (if c.Kind = 4 ∨ c.Kind = 5 then c.Max < 1 ∨ c.Max > 64 else c.Max ≠ 0) then 7 else uU c c.Default
theorem EP (c : ApiColumn) (h : c.Name.length < 4611686018427387904) (h2 : c.Default.S.length < 4611686018427387904) : nK c = some (nI c) := by
 unfold nK nI
 rw [Iu _ h, ah]
 cases oH c.Name with
 | false => rfl
 | true =>
  simp only [Bool.not_true, cond_false, Bool.true_eq_false, if_false]
  refine bo (a := decide (c.Kind < 1 ∨ c.Kind > 5)) ?_ ?_
  ·by_cases k1 : c.Kind < 1
   ·rw [av k1, decide_eq_true (Or.inl k1)]
   ·rw [aD k1]; congr 1; exact Pt (by omega)
  by_cases hk : c.Kind < 1 ∨ c.Kind > 5
  ·rw [av hk, if_pos hk]
  rw [aD hk, if_neg hk]
  simp only [Qp, ah]
  refine bo (a := decide (if c.Kind = 4 ∨ c.Kind = 5 then c.Max < 1 ∨ c.Max > 64 else c.Max ≠ 0)) ?_ ?_
  ·by_cases hl : c.Kind = 4 ∨ c.Kind = 5
   ·simp only [hl, decide_true, cond_true, if_true, Bool.not_true, cond_false]
    by_cases m1 : c.Max < 1
    ·rw [av m1]; simp [m1]
    ·rw [aD m1]
     by_cases m2 : c.Max > 64
     ·rw [av m2]; simp [m2]
     ·rw [aD m2]; simp [m1, m2]
   ·simp only [hl, decide_false, cond_false, if_false, Bool.not_false, cond_true]
    congr 1
    by_cases m : c.Max = 0
    ·simp [m]
    ·simp [m]
  by_cases q : (if c.Kind = 4 ∨ c.Kind = 5 then c.Max < 1 ∨ c.Max > 64 else c.Max ≠ 0)
  ·rw [av q, if_pos q]
  ·rw [aD q, if_neg q, pI _ _ h2, ah]
theorem xB (c : ApiColumn) (h : c.Name.length < 4611686018427387904) (h2 : c.Default.S.length < 4611686018427387904) : lD c = some (nI c) := by
 unfold lD nI
 rw [uM _ h, ah]
 cases oH c.Name with
 | false => rfl
 | true =>
  simp only [Bool.not_true, cond_false, Bool.true_eq_false, if_false]
  refine bo (a := decide (c.Kind < 1 ∨ c.Kind > 5)) ?_ ?_
  ·by_cases k1 : c.Kind < 1
   ·rw [av k1, decide_eq_true (Or.inl k1)]
   ·rw [aD k1]; congr 1; exact Pt (by omega)
  by_cases hk : c.Kind < 1 ∨ c.Kind > 5
  ·rw [av hk, if_pos hk]
  rw [aD hk, if_neg hk]
  refine bo (a := decide (if c.Kind = 4 ∨ c.Kind = 5 then c.Max < 1 ∨ c.Max > 64 else c.Max ≠ 0)) ?_ ?_
  ·by_cases hl : c.Kind = 4 ∨ c.Kind = 5
   ·rw [aD (by omega), av (by omega)]
    simp only [hl, if_true]
    by_cases m1 : c.Max < 1
    ·rw [av m1]; simp [m1]
    ·rw [aD m1]; simp [m1]
   ·rw [av (by omega)]
    simp only [hl, if_false]
    by_cases m : c.Max = 0
    ·rw [show (c.Max != 0) = false by simpa using m, cond_false, aD (by omega)]; simp [m]
    ·rw [show (c.Max != 0) = true by simpa using m]; simp [m]
  by_cases q : (if c.Kind = 4 ∨ c.Kind = 5 then c.Max < 1 ∨ c.Max > 64 else c.Max ≠ 0)
  ·rw [av q, if_pos q]
  ·rw [aD q, if_neg q, uO _ _ h2, ah]
def OkC (c : ApiColumn) : Prop := c.Name.length < 4611686018427387904 ∧ c.Default.S.length < 4611686018427387904
def uW (l : List ApiColumn) : Prop := l.length < 4611686018427387904 ∧ ∀ c ∈ l, OkC c
def xS (l : List ApiValue) : Prop := l.length < 4611686018427387904 ∧ ∀ v ∈ l, v.S.length < 4611686018427387904
def oo (l : List ApiColumn) : Bool := decide (1 ≤ l.length ∧ l.length ≤ 24) && l.all fun c => nI c == 0
def zI (p : ApiColumn × ApiValue) : Option Int := if uU p.1 p.2 = 0 then none else some (uU p.1 p.2)
def dz (bf : List ApiColumn) (l : List ApiValue) : Int := if oo bf = false ∨ l.length ≠ bf.length then 1 else ((bf.zip l).findSome? zI).getD 0
theorem aiy (l : List ApiColumn) : (l.any fun c => nI c != 0) = !(l.all fun c => nI c == 0) := by
 induction l with
 | nil => rfl
 | cons x r ih => rw [List.any_cons, List.all_cons, ih]; cases h : (nI x == 0) <;> simp [bne, h]
theorem yw (l : List ApiColumn) (h : uW l) : nA l = some (oo l) := by
 unfold nA
 have hl := h.1
 refine bo (a := oo l) ?_ rfl
 by_cases h1 : l.length ≥ 1
 rotate_left
 ·rw [aD (by omega), oo, decide_eq_false (by omega)]; rfl
 rw [av (by omega)]
 by_cases h2 : l.length ≤ 24
 rotate_left
 ·rw [aD (by omega), oo, decide_eq_false (by omega)]; rfl
 rw [av (by omega)]
 refine bo (a := l.any fun c => nI c != 0) ?_ ?_
 ·unfold dw dF
  refine bo (lqX l (fun c => nI c != 0) (fun i hi => ?_) ?_) (by rw [BZ])
  ·show (bif _ then _ else _) = _
   rw [av (by omega), bM hi, ah, pJ, EP _ (h.2 _ (List.getElem_mem hi)).1 (h.2 _ (List.getElem_mem hi)).2, ah, ah, bN (by omega)]
   cases nI l[i] != 0 <;> rfl
  ·show (bif _ then _ else _) = _
   rw [aD (by omega)]
 ·rw [aiy, oo, decide_eq_true ⟨h1, h2⟩, Bool.not_not]; rfl
theorem vL (l : List ApiColumn) (h : uW l) : jY l = some (oo l) := by
 unfold jY
 have hl := h.1
 refine bo (a := !decide (1 ≤ l.length ∧ l.length ≤ 24)) ?_ ?_
 ·by_cases h1 : l.length ≥ 1
  ·rw [aD (by omega)]; congr 1; rw [← decide_not]; exact Pt (by omega)
  ·rw [av (by omega)]; congr 1; rw [decide_eq_false (by omega)]; rfl
 by_cases h12 : 1 ≤ l.length ∧ l.length ≤ 24
 rotate_left
 ·rw [decide_eq_false h12, oo, decide_eq_false h12]; rfl
 rw [decide_eq_true h12, oo, decide_eq_true h12, Bool.not_true, cond_false, Bool.true_and]
 refine Lm (WC l (fun c => nI c != 0) (.inr false) (.inl ()) (fun i => (i : Int)) (fun i hi => ?_) ?_ rfl) ?_
 ·show (bif _ then _ else _) = _
  rw [av (by omega), bM hi, ah, xB _ (h.2 _ (List.getElem_mem hi)).1 (h.2 _ (List.getElem_mem hi)).2, ah, bN (by omega)]
  cases nI l[i] != 0 <;> rfl
 ·show (bif _ then _ else _) = _
  rw [aD (by omega)]
 ·rw [aiy]; cases (l.all fun c => nI c == 0) <;> rfl
theorem adf {α β : Type} {a : List α} {b : List β} (h : b.length = a.length) : (a.zip b).length = a.length := by simp [h]
theorem Qv (l : List (ApiColumn × ApiValue)) : l.findSome? (fun p => (zI p).map fun x => (.inr x : Unit ⊕ Int)) = (l.findSome? zI).map fun x => (.inr x : Unit ⊕ Int) := by
 induction l with
 | nil => rfl
 | cons x r ih => rw [List.findSome?_cons, List.findSome?_cons]; cases zI x <;> simp [ih]
theorem Er (bf : List ApiColumn) (l : List ApiValue) (h : uW bf) (hv : xS l) : vF bf l = some (dz bf l) := by
 unfold vF dz
 have hl := hv.1
 refine bo (a := decide (oo bf = false ∨ l.length ≠ bf.length)) ?_ ?_
 ·rw [yw _ h, ah]
  cases oo bf with
  | false => simp
  | true => rw [Bool.not_true, cond_false, nat_ne]; simp [bne, Bool.beq_eq_decide_eq]
 by_cases q : oo bf = false ∨ l.length ≠ bf.length
 ·rw [av q, if_pos q]
 rw [aD q, if_neg q]
 have e : l.length = bf.length := by rw [not_or] at q; simpa using q.2
 have z := adf (a := bf) (b := l) e
 refine Lm (lq2 (bf.zip l) (fun p => (zI p).map fun x => (.inr x : Unit ⊕ Int)) (.inl ()) (fun i => (i : Int)) (fun i hi => ?_) ?_ rfl) ?_
 ·show (bif _ then _ else _) = _
  rw [av (by omega), bM (by omega), ah, bM (by omega), ah, pI _ _ (hv.2 _ (List.getElem_mem _)), ah, bN (by omega), List.getElem_zip]
  unfold zI
  by_cases k : uU bf[i] l[i] = 0
  ·simp [k]
  ·rw [if_neg k, show (uU bf[i] l[i] != 0) = true by simpa using k]; rfl
 ·show (bif _ then _ else _) = _
  rw [aD (by omega)]
 ·rw [Qv]
  cases (bf.zip l).findSome? zI <;> rfl
theorem IB (bf : List ApiColumn) (l : List ApiValue) (h : uW bf) (hv : xS l) : rT bf l = some (dz bf l) := by
 unfold rT dz
 have hl := hv.1
 refine bo (a := decide (oo bf = false ∨ l.length ≠ bf.length)) ?_ ?_
 ·rw [vL _ h, ah]
  cases oo bf with
  | false => simp
  | true => rw [Bool.not_true, cond_false, nat_ne]; simp [bne, Bool.beq_eq_decide_eq]
 by_cases q : oo bf = false ∨ l.length ≠ bf.length
 ·rw [av q, if_pos q]
 rw [aD q, if_neg q]
 have e : l.length = bf.length := by rw [not_or] at q; simpa using q.2
 have z := adf (a := bf) (b := l) e
 refine Lm (lq2 (bf.zip l) (fun p => (zI p).map fun x => (.inr x : Unit ⊕ Int)) (.inl ()) (fun i => (i : Int)) (fun i hi => ?_) ?_ rfl) ?_
 ·show (bif _ then _ else _) = _
  rw [av (by omega), bM (by omega), ah, bM (by omega), ah, uO _ _ (hv.2 _ (List.getElem_mem _)), ah, bN (by omega), List.getElem_zip]
  unfold zI
  by_cases k : uU bf[i] l[i] = 0
  ·simp [k]
  ·rw [if_neg k, show (uU bf[i] l[i] != 0) = true by simpa using k]; rfl
 ·show (bif _ then _ else _) = _
  rw [aD (by omega)]
 ·rw [Qv]
  cases (bf.zip l).findSome? zI <;> rfl
theorem Xd (x : UInt8) : (255 : UInt8) - x = ~~~ x := by
 rw [← UInt8.toNat_inj]
 have := x.toNat_lt
 rw [UInt8.toNat_sub, UInt8.toNat_not]
 show (256 - x.toNat + 255) % 256 = _
 simp
 omega
theorem al1 : bH 1 1 = [1] := by decide
theorem adg : bH 0 1 = [0] := by decide
theorem aao : bH 0 2 = [0, 0] := by decide
theorem b8 (x : UInt8) : bH x.toUInt64 1 = [x] := by
 unfold bH
 simp [bH]
theorem anF : bH 255 1 = [255] := by decide
theorem Gq (v : ApiValue) (d : Bool) (h : v.S.length ≤ 1048576) : nU v d = some (turn d (enc v)) := by
  have hl := zn v.S
  have hb := HV v
  have hlen : (enc v).length ≤ 4194304 := by unfold enc; simp; omega
  unfold nU
  have h1 : (bif (v.Kind == (0 : Int)) then
      Option.bind (iB (0 : UInt64) (1 : Int)) fun Xv =>
      some Xv
    else
      Option.bind (iB (1 : UInt64) (1 : Int)) fun alS =>
      some alS) = some [if v.Kind = 0 then 0 else 1] := by
    have e0 := gY 0 1 [] (by omega) (by simp)
    have e1 := gY 1 1 [] (by omega) (by simp)
    by_cases k : v.Kind = 0
    · rw [k, if_pos rfl]
      simp only [BEq.rfl, cond_true, y7]
      rw [show bn 0 1 [] = _ from e0, adg]; rfl
    · rw [if_neg k, beq_eq_false_iff_ne.2 k, cond_false, y7, show bn 1 1 [] = _ from e1, al1]; rfl
  rw [h1, ah]
  -- the middle
  have key : ∀ (m : Option (List UInt8)) (f : List UInt8 → Option (List UInt8)), m = some (enc v) → f (enc v) = some (turn d (enc v)) → Option.bind m f = some (turn d (enc v)) := by
    intro m f hm hf; subst hm; exact hf
  refine key _ _ ?_ ?_
  · by_cases k1 : v.Kind = 1
    · rw [k1, BEq.rfl, cond_true]
      rw [show bn (v.N ^^^ 9223372036854775808) 8 _ = _ from gY _ 8 _ (by omega) (by simp)]
      unfold enc body
      rw [k1]
      rfl
    by_cases k2 : v.Kind = 2
    · rw [k2, show ((2 : Int) == 1) = false from rfl, cond_false, BEq.rfl, cond_true]
      rw [show bn v.N 8 _ = _ from gY _ 8 _ (by omega) (by simp)]
      unfold enc body
      rw [k2]
      rfl
    by_cases k3 : v.Kind = 3
    · rw [k3, show ((3 : Int) == 1) = false from rfl, show ((3 : Int) == 2) = false from rfl, cond_false, cond_false, BEq.rfl, cond_true]
      rw [show bn v.N 1 _ = _ from gY _ 1 _ (by omega) (by simp)]
      unfold enc body
      rw [k3]
      rfl
    rw [beq_eq_false_iff_ne.2 k1, beq_eq_false_iff_ne.2 k2, beq_eq_false_iff_ne.2 k3, cond_false, cond_false, cond_false]
    by_cases k45 : v.Kind = 4 ∨ v.Kind = 5
    · have c : (bif v.Kind == 4 then some (v.Kind == 4) else some (v.Kind == 5)) = some true := by rcases k45 with k | k <;> rw [k] <;> rfl
      have k0 : ¬ v.Kind = 0 := by omega
      rw [c, ah, cond_true, if_neg k0]
      have q := vO (B := (fun (WL, adz) =>
                  bif (decide (WL < (v.S.length : Int))) then
                    Option.bind (α := (List UInt8))
                      (Option.bind (bF v.S WL) fun ajI =>
                      Option.bind (bn (ajI.toUInt64) (1 : Int) adz) fun aeU =>
                      Option.bind (bF v.S WL) fun ajH =>
                      bif (ajH == (0 : UInt8)) then
                        Option.bind (bn (255 : UInt64) (1 : Int) aeU) fun alR =>
                        some alR
                      else
                        some aeU)
                      fun ajb =>
                    some (Sum.inl ((bD (WL + (1 : Int))), ajb))
                  else
                    some (Sum.inr adz))) (fun i => ((i : Int), [1] ++ esc (v.S.take i))) v.S.length (w := [1] ++ esc v.S) ?_ ?_
      · rw [show (loop _ ((0 : Int), [(1 : UInt8)])) = _ from q, ah, ah]
        rw [show bn 0 2 _ = _ from gY 0 2 _ (by omega) (by simp; omega), aao]
        unfold enc body
        rcases k45 with k | k <;> simp [k]
      · intro i hi
        have es := zn (v.S.take i)
        have tl : (v.S.take i).length ≤ v.S.length := by simp; omega
        have he : esc (v.S.take (i + 1)) = esc (v.S.take i) ++ (if v.S[i] = 0 then [0, 255] else [v.S[i]]) := by
          rw [List.take_succ_eq_append_getElem hi]
          generalize v.S.take i = l
          induction l with
          | nil => unfold esc; simp only [List.nil_append]; split <;> simp_all [esc]
          | cons x l ih =>
            rw [List.cons_append]
            unfold esc
            split <;> simp [ih]
        show (bif _ then _ else _) = _
        rw [av (by omega), bM hi, ah]
        rw [show bn (v.S[i].toUInt64) 1 _ = _ from gY _ 1 _ (by omega) (by simp; omega), ah, ah, b8, he]
        by_cases hz : v.S[i] = 0
        · rw [hz, BEq.rfl, cond_true, if_pos rfl]
          rw [show bn 255 1 _ = _ from gY 255 1 _ (by omega) (by simp; omega), ah, ah, anF, bN (by omega)]
          simp
        · rw [beq_eq_false_iff_ne.2 hz, cond_false, if_neg hz, ah, bN (by omega)]
          simp
      · show (bif _ then _ else _) = _
        rw [aD (by omega), List.take_length]
    · have c : (bif v.Kind == 4 then some (v.Kind == 4) else some (v.Kind == 5)) = some false := by
        rw [beq_eq_false_iff_ne.2 (show ¬ v.Kind = 4 by omega), beq_eq_false_iff_ne.2 (show ¬ v.Kind = 5 by omega)]; rfl
      rw [c, ah, cond_false]
      unfold enc body
      simp only [k1, k2, k3, k45, if_false]
  · generalize enc v = b at hlen
    refine KA (w := turn d b) (nmB fun B hB => ?_) rfl
    cases d with
    | false =>
      refine iJ ?_
      rw [hB]
      show Option.bind (bif _ then _ else _) _ = _
      cases decide ((0 : Int) < (b.length : Int)) <;> rfl
    | true =>
      refine Ey (fun i => ((i : Int), mapped (fun x => ~~~ x) b i)) b.length (fun i hi => ?_) ?_ (by rw [Ew]; rfl)
      · have hm := GN (fun x => ~~~ x) b i
        have hg : bF (mapped (fun x => ~~~ x) b i) (i : Int) = some (b[i]'hi) := by rw [nZ, GQ _ _ hi]
        rw [hB]
        show Option.bind (bif _ then _ else _) _ = _
        rw [av (by omega), ah, cond_true]
        show Option.bind (bF (mapped (fun x => ~~~ x) b i) (i : Int)) _ = _
        rw [hg, ah, ah, Xd, bN (by omega), Int.toNat_natCast]
        exact congrArg (fun x => some (Sum.inl (_, x))) (GL (fun x => ~~~ x) _ hi)
      · rw [hB]
        have hm := GN (fun x => ~~~ x) b b.length
        show Option.bind (bif _ then _ else _) _ = _
        rw [aD (by omega)]
        show some (Sum.inr (mapped (fun x => ~~~ x) b b.length)) = _
        rw [GR]
        rfl
theorem IC (l : List ApiValue) (ds : List Bool) (he : l.length = ds.length) (hl : l.length ≤ 1048576) (hv : l.any bad = false) : nD l ds = some (vV l ds) := by
 unfold nD
 refine KA (w := vV l ds) (Ey (fun i => (vV (l.take i) (ds.take i), (i : Int))) l.length (fun i hi => ?_) ?_ rfl) rfl
 ·have h1 := wS (l.take i) (ds.take i) (Nw _ _ _ hv)
  have hb : val l[i] = true := by rw [List.any_eq_false] at hv; have := hv _ (List.getElem_mem hi); unfold bad at this; simpa using this
  have h2 := DL (v := l[i]) hb
  have h3 := CK hb
  rw [List.length_take, Nat.min_eq_left (Nat.le_of_lt hi)] at h1
  show (bif _ then _ else _) = _
  rw [av (by omega), bM hi, ah, bM (by omega), ah, Gq _ _ (by omega), ah, av (by rw [bV, Bp]; omega), bN (by omega), DN l ds i hi (by omega)]
 ·show (bif _ then _ else _) = _
  rw [aD (by omega), List.take_length, he, List.take_length]
def fP (v : ApiValue) : List UInt8 :=
 if v.Kind = 0 then [1] else 0 :: (if v.Kind = 1 ∨ v.Kind = 2 then bH v.N 8 else if v.Kind = 3 then bH v.N 1 else if v.Kind = 4 ∨ v.Kind = 5 then bH (jS v.S.length) 2 ++ v.S else [])
def dV (l : List ApiValue) : List UInt8 := bH (jS l.length) 1 ++ (l.map fP).flatten
theorem UQ {v : ApiValue} (h : v.S.length ≤ 64) : (fP v).length ≤ 67 := by
 unfold fP
 repeat' split
 all_goals simp [bQ] <;> omega
theorem yS : ∀ {l : List ApiValue}, (∀ v ∈ l, v.S.length ≤ 64) → ((l.map fP).flatten).length ≤ 67 * l.length
 | [], _ => by simp
 | v :: l, h => by
  have h1 := UQ (h v (by simp))
  have h2 := yS (l := l) (fun v hv => h v (by simp [hv]))
  simp only [List.map_cons, List.flatten_cons, List.length_append, List.length_cons]
  omega
theorem Xg (n : Nat) (h : n < 65536) : [((dM (yc (n : Int)) 8).toUInt8), ((yc (n : Int)).toUInt8)] = bH (jS (n : Int)) 2 := by
 have e : (yc (n : Int)).toNat = (jS (n : Int)).toNat / 2 ^ 0 % 65536 := by
  unfold yc jS
  simp
  omega
 rw [F5 (jS (n : Int)) 0 _ e, F4 (jS (n : Int)) 0 _ e]
 rfl
theorem NQ (s b : List UInt8) (h : s.length ≤ 65535) (hb : b.length ≤ 1048576) : mF s b = some (true, b ++ (bH (jS s.length) 2 ++ s)) := by
 unfold mF
 rw [ah, aD (by omega), AZ _ _ (by omega), ah, av (by rw [bV]; simp; omega), Xg _ (by omega), List.append_assoc]
theorem II (s b : List UInt8) (h : s.length ≤ 65535) (hb : b.length ≤ 1048576) : kN s b = some (true, b ++ (bH (jS s.length) 2 ++ s)) := by
 unfold kN
 rw [aD (by omega), show bn (jS s.length) 2 b = _ from gY _ 2 _ (by omega) (by omega), ah, av (by rw [bV]; simp [bQ]; omega), List.append_assoc]
theorem k12 (v : ApiValue) : (bif v.Kind == 1 then some (v.Kind == 1) else some (v.Kind == 2)) = some (decide (v.Kind = 1 ∨ v.Kind = 2)) := by
 by_cases k : v.Kind = 1
 ·rw [k]; rfl
 ·rw [beq_eq_false_iff_ne.2 k, cond_false]; congr 1; simp [k, Bool.beq_eq_decide_eq]
theorem k45 (v : ApiValue) : (bif v.Kind == 4 then some (v.Kind == 4) else some (v.Kind == 5)) = some (decide (v.Kind = 4 ∨ v.Kind = 5)) := by
 by_cases k : v.Kind = 4
 ·rw [k]; rfl
 ·rw [beq_eq_false_iff_ne.2 k, cond_false]; congr 1; simp [k, Bool.beq_eq_decide_eq]
theorem UW (n : UInt64) : bH n 1 = [n.toUInt8] := by
 rw [afp]; rfl
theorem OB (v : ApiValue) (b : List UInt8) (h : v.S.length ≤ 64) (hb : b.length ≤ 1000000) : Bz v b = some (b ++ fP v) := by
 unfold Bz
 refine bo (a := b ++ [if v.Kind = 0 then 1 else 0]) ?_ ?_
 ·unfold mJ
  by_cases k : v.Kind = 0
  ·rw [show (v.Kind == 0) = true by simpa using k, cond_true, yH _ _ (by simp; omega), if_pos k]; rfl
  ·rw [show (v.Kind == 0) = false by simpa using k, cond_false, yH _ _ (by simp; omega), if_neg k]; rfl
 rw [k12, ah]
 by_cases k1 : v.Kind = 1 ∨ v.Kind = 2
 ·rw [av k1, AY _ _ (by simp; omega), ah, DW]
  unfold fP
  rw [if_neg (show ¬ v.Kind = 0 by omega), if_neg (show ¬ v.Kind = 0 by omega), if_pos k1]
  simp
 rw [aD k1]
 by_cases k3 : v.Kind = 3
 ·rw [show (v.Kind == 3) = true by simpa using k3, cond_true]
  unfold kP
  rw [yH _ _ (by simp; omega), ah, ah]
  unfold fP
  rw [if_neg (show ¬ v.Kind = 0 by omega), if_neg (show ¬ v.Kind = 0 by omega), if_neg k1, if_pos k3, UW]
  simp
 rw [show (v.Kind == 3) = false by simpa using k3, cond_false, k45, ah]
 by_cases k4 : v.Kind = 4 ∨ v.Kind = 5
 ·rw [av k4, NQ _ _ (by omega) (by simp; omega), ah]
  unfold fP
  rw [if_neg (show ¬ v.Kind = 0 by omega), if_neg (show ¬ v.Kind = 0 by omega), if_neg k1, if_neg k3, if_pos k4]
  simp
 ·rw [aD k4]
  unfold fP
  rw [if_neg k1, if_neg k3, if_neg k4]
  split <;> rfl
theorem Ki (v : ApiValue) (b : List UInt8) (h : v.S.length ≤ 64) (hb : b.length ≤ 1000000) : vJ v b = some (b ++ fP v) := by
 unfold vJ
 refine bo (a := b ++ [if v.Kind = 0 then 1 else 0]) ?_ ?_
 ·unfold nV
  by_cases k : v.Kind = 0
  ·rw [show (v.Kind == 0) = true by simpa using k, cond_true, av (by rw [bV]; simp; omega), if_pos k]
  ·rw [show (v.Kind == 0) = false by simpa using k, cond_false, av (by rw [bV]; simp; omega), if_neg k]
 rw [k12, ah]
 by_cases k1 : v.Kind = 1 ∨ v.Kind = 2
 ·rw [av k1, show bn v.N 8 _ = _ from gY _ 8 _ (by omega) (by simp; omega), ah]
  unfold fP
  rw [if_neg (show ¬ v.Kind = 0 by omega), if_neg (show ¬ v.Kind = 0 by omega), if_pos k1]
  simp
 rw [aD k1]
 by_cases k3 : v.Kind = 3
 ·rw [show (v.Kind == 3) = true by simpa using k3, cond_true, show bn v.N 1 _ = _ from gY _ 1 _ (by omega) (by simp; omega), ah]
  unfold fP
  rw [if_neg (show ¬ v.Kind = 0 by omega), if_neg (show ¬ v.Kind = 0 by omega), if_neg k1, if_pos k3]
  simp
 rw [show (v.Kind == 3) = false by simpa using k3, cond_false, k45, ah]
 by_cases k4 : v.Kind = 4 ∨ v.Kind = 5
 ·rw [av k4, II _ _ (by omega) (by simp; omega), ah]
  unfold fP
  rw [if_neg (show ¬ v.Kind = 0 by omega), if_neg (show ¬ v.Kind = 0 by omega), if_neg k1, if_neg k3, if_pos k4]
  simp
 ·rw [aD k4]
  unfold fP
  rw [if_neg k1, if_neg k3, if_neg k4]
  split <;> rfl
theorem Jj (l : List ApiValue) (b : List UInt8) (i : Nat) (hi : i < l.length) : b ++ ((l.take (i + 1)).map fP).flatten = (b ++ ((l.take i).map fP).flatten) ++ fP l[i] := by
 rw [List.take_succ_eq_append_getElem hi, List.map_append, List.flatten_append]
 simp
theorem F9 {l : List ApiValue} (h : ∀ v ∈ l, v.S.length ≤ 64) (i : Nat) : ∀ v ∈ l.take i, v.S.length ≤ 64 := fun v hv => h v (List.mem_of_mem_take hv)
theorem uH (bf : List ApiColumn) (l : List ApiValue) (h : uW bf) (hv : xS l) (hs : dz bf l = 0 → ∀ v ∈ l, v.S.length ≤ 64) (h24 : dz bf l = 0 → l.length ≤ 24) :
  mP bf l = some (if dz bf l ≠ 0 then ([], dz bf l) else if (dV l).length > 512 then ([], 7) else (dV l, 0)) := by
 unfold mP
 rw [Er bf l h hv, ah]
 by_cases q : dz bf l = 0
 rotate_left
 ·rw [show (dz bf l != 0) = true by simpa using q, cond_true, if_pos q]
 rw [show (dz bf l != 0) = false by simpa using q, cond_false, if_neg (by simpa using q)]
 have hs := hs q
 have h24 := h24 q
 have e1 : [Ei (l.length : Int)] = bH (jS l.length) 1 := by
  rw [UW]; congr 1
  unfold Ei jS
  apply UInt8.toNat_inj.1
  simp
  omega
 refine bo (a := ()) ?_ ?_
 ·unfold pK lG
  rw [av (by rw [bV]; simp)]; rfl
 rw [e1]
 refine KA (w := dV l) (Ey (fun i => ((i : Int), bH (jS l.length) 1 ++ ((l.take i).map fP).flatten)) l.length (fun i hi => ?_) ?_ (by simp)) ?_
 ·have f := yS (F9 hs i)
  have tl : (l.take i).length ≤ 24 := by simp; omega
  show (bif _ then _ else _) = _
  rw [av (by omega), bM hi, ah, OB _ _ (hs _ (List.getElem_mem hi)) (by rw [List.length_append, bQ]; omega), ah, bN (by omega), Jj l _ i hi]
 ·show (bif _ then _ else _) = _
  rw [aD (by omega), List.take_length]
  rfl
 ·have f := yS hs
  refine bo (a := ()) ?_ ?_
  ·unfold gP
   rw [av (by rw [bV]; unfold dV; rw [List.length_append, bQ]; omega)]
  ·by_cases z : (dV l).length > 512
   ·rw [av (by omega), if_pos z]
   ·rw [aD (by omega), if_neg z]
theorem yB (l : List ApiValue) (hs : ∀ v ∈ l, v.S.length ≤ 64) (h24 : l.length ≤ 24) : nC l = some (dV l) := by
 unfold nC
 rw [y7, show bn (jS l.length) 1 [] = _ from gY _ 1 _ (by omega) (by simp), ah, List.nil_append]
 refine KA (w := dV l) (Ey (fun i => ((i : Int), bH (jS l.length) 1 ++ ((l.take i).map fP).flatten)) l.length (fun i hi => ?_) ?_ (by simp)) rfl
 ·have f := yS (F9 hs i)
  have tl : (l.take i).length ≤ 24 := by simp; omega
  show (bif _ then _ else _) = _
  rw [av (by omega), bM hi, ah, Ki _ _ (hs _ (List.getElem_mem hi)) (by rw [List.length_append, bQ]; omega), ah, bN (by omega), Jj l _ i hi]
 ·show (bif _ then _ else _) = _
  rw [aD (by omega), List.take_length]
  rfl
theorem eqV (v w : ApiValue) : eG v w = decide (v = w) := by
 cases v; cases w
 simp only [eG, ApiValue.mk.injEq]
 rw [Bool.eq_iff_iff]
 simp
theorem EB {α : Type} [DecidableEq α] (a b : List α) (eq : α → α → Bool) (heq : ∀ x y, eq x y = true ↔ x = y) (hl : a.length = b.length) {B : Int → Option (Int ⊕ (Unit ⊕ Bool))}
  (h : ∀ i (h1 : i < a.length) (h2 : i < b.length), B (i : Int) = some (if eq a[i] b[i] = true then .inl ((i + 1 : Nat) : Int) else .inr (.inr false))) (he : B (a.length : Int) = some (.inr (.inl ()))) :
  eH (Option.bind (loop B 0) (Sum.elim (fun e => some (Sum.inl e)) (fun e => some (Sum.inr e)))) (fun _ => some true) (fun e => some e) = some (decide (a = b)) := by
 have hd : (∀ i (h1 : i < a.length) (h2 : i < b.length), a[i] = b[i]) ↔ a = b := ⟨fun h => List.ext_getElem hl fun i h1 h2 => h i h1 h2, fun h => by subst h; intros; rfl⟩
 have z : (a.zip b).length = a.length := by simp [hl]
 refine Lm (WC (a.zip b) (fun p => !eq p.1 p.2) (.inr false) (.inl ()) (fun i => (i : Int)) (fun i hi => ?_) ?_ rfl) ?_
 ·rw [h i (by omega) (by omega), List.getElem_zip]
  cases eq a[i] b[i] <;> rfl
 ·rw [z]; exact he
 ·by_cases q : (a.zip b).any (fun p => !eq p.1 p.2) = true
  ·rw [if_pos q]
   have : ¬ (∀ i (h1 : i < a.length) (h2 : i < b.length), a[i] = b[i]) := by
    intro k
    rw [List.any_eq_true] at q
    obtain ⟨p, hp, hq⟩ := q
    obtain ⟨i, hi, rfl⟩ := List.mem_iff_getElem.1 hp
    rw [List.getElem_zip] at hq
    have := (heq _ _).2 (k i (by omega) (by omega))
    simp [this] at hq
   rw [decide_eq_false (fun e => this (hd.2 e))]; rfl
  ·rw [if_neg q]
   have : ∀ i (h1 : i < a.length) (h2 : i < b.length), a[i] = b[i] := by
    intro i h1 h2
    rw [List.any_eq_true] at q
    refine (heq _ _).1 ?_
    cases hq : eq a[i] b[i] with
    | true => rfl
    | false =>
     exfalso
     refine q ⟨(a[i], b[i]), ?_, by simp [hq]⟩
     exact List.mem_iff_getElem.2 ⟨i, by omega, by rw [List.getElem_zip]⟩
   rw [decide_eq_true (hd.1 this)]; rfl
theorem Bu (a b : List ApiValue) (h : a.length < 4611686018427387904) : dG a b = some (decide (a = b)) := by
 unfold dG
 rw [nat_ne]
 by_cases hl : a.length = b.length
 rotate_left
 ·rw [show (a.length != b.length) = true by simpa using hl, cond_true, decide_eq_false (fun e => hl (by rw [e]))]
 rw [show (a.length != b.length) = false by simpa using hl, cond_false]
 refine (EB a b eG (fun x y => by rw [eqV]; simp) hl (fun i h1 h2 => ?_) ?_)
 ·show (bif _ then _ else _) = _
  rw [av (by omega), bM h1, ah, bM h2, ah, bN (by omega)]
  cases eG a[i] b[i] <;> rfl
 ·show (bif _ then _ else _) = _
  rw [aD (by omega)]
theorem IK (a b : List ApiValue) (h : a.length < 4611686018427387904) : rW a b = some (decide (a = b)) := by
 unfold rW
 rw [nat_ne]
 by_cases hl : a.length = b.length
 rotate_left
 ·rw [show (a.length != b.length) = true by simpa using hl, cond_true, decide_eq_false (fun e => hl (by rw [e]))]
 rw [show (a.length != b.length) = false by simpa using hl, cond_false]
 refine (EB a b eG (fun x y => by rw [eqV]; simp) hl (fun i h1 h2 => ?_) ?_)
 ·show (bif _ then _ else _) = _
  rw [av (by omega), bM h1, ah, bM h2, ah, bN (by omega)]
  cases eG a[i] b[i] <;> rfl
 ·show (bif _ then _ else _) = _
  rw [aD (by omega)]
theorem qx {α W : Type} {f : Nat → α → Option W} : ∀ {l : List α} {i : Nat}, eF f i l = none ↔ ∀ j (h : j < l.length), f (i + j) (l[j]'h) = none
 | [], i => by simp [eF]
 | x :: r, i => by
  rw [eF]
  cases hf : f i x with
  | some w =>
   simp only [reduceCtorEq, false_iff]
   intro h
   have := h 0 (by simp)
   simp [hf] at this
  | none =>
   simp only
   rw [qx (l := r) (i := i + 1)]
   constructor
   ·intro h j hj
    cases j with
    | zero => simpa using hf
    | succ j => have := h j (by simpa using hj); simpa [Nat.add_assoc, Nat.add_comm 1 j] using this
   ·intro h j hj
    have := h (j + 1) (by simpa using hj)
    simpa [Nat.add_assoc, Nat.add_comm 1 j] using this
def OkX (x : ApiIndex) : Prop := x.Name.length < 4611686018427387904 ∧ x.Parts.length < 4611686018427387904 ∧ x.Extra.length < 4611686018427387904
structure OkT (t : ApiTable) : Prop where
 name : t.Name.length < 4611686018427387904
 bf : uW t.bq
 XC : t.bB.length < 4611686018427387904
 idxs : t.aY.length < 4611686018427387904
 idx : ∀ x ∈ t.aY, OkX x
def oV (l : List Int) (x : Int) : Bool := l.any fun y => y == x
theorem lu (l : List Int) (x : Int) (h : l.length < 4611686018427387904) : jX l x = some (oV l x) := by
 unfold jX
 refine Lm (WC l (fun y => y == x) (.inr true) (.inl ()) (fun i => (i : Int)) (fun i hi => ?_) ?_ rfl) ?_
 ·show (bif _ then _ else _) = _
  rw [av (by omega), bM hi, ah, bN (by omega)]
  cases l[i] == x <;> rfl
 ·show (bif _ then _ else _) = _
  rw [aD (by omega)]
 ·unfold oV; cases (l.any fun y => y == x) <;> rfl
def XE (n : Int) (l : List Int) (i : Nat) (c : Int) : Option Unit := if c < 0 ∨ c ≥ n ∨ oV (l.take i) c = true then some () else none
def dZ (n : Int) (l : List Int) : Bool := (eF (XE n l) 0 l).isNone
theorem qH (n : Int) (l : List Int) (h : l.length < 4611686018427387904) : jH n l = some (dZ n l) := by
 unfold jH
 refine Lm (lq5 l (fun i c => (XE n l i c).map fun _ => (.inr false : Unit ⊕ Bool)) (.inl ()) (fun i => (i : Int)) (fun i hi => ?_) ?_ rfl) ?_
 ·show (bif _ then _ else _) = _
  rw [av (by omega), bM hi, bN (by omega)]
  simp only [ah]
  refine bo (a := decide (l[i] < 0 ∨ l[i] ≥ n ∨ oV (l.take i) l[i] = true)) ?_ ?_
  ·by_cases h1 : l[i] < 0
   ·rw [av h1]; simp [h1]
   rw [aD h1]
   by_cases h2 : l[i] ≥ n
   ·rw [av h2]; simp [h2]
   rw [aD h2, av (by omega), Int.toNat_natCast, lu _ _ (by simp; omega), ah]
   simp [h1, h2]
  ·unfold XE
   by_cases q : l[i] < 0 ∨ l[i] ≥ n ∨ oV (l.take i) l[i] = true
   ·rw [av q, if_pos q]; rfl
   ·rw [aD q, if_neg q]; rfl
 ·show (bif _ then _ else _) = _
  rw [aD (by omega)]
 ·unfold dZ
  have key : ∀ (r : List Int) (i : Nat), eF (fun i c => (XE n l i c).map fun _ => (.inr false : Unit ⊕ Bool)) i r = (eF (XE n l) i r).map fun _ => .inr false := by
   intro r
   induction r with
   | nil => intro i; rfl
   | cons x r ih => intro i; rw [eF, eF]; cases XE n l i x <;> simp [ih]
  rw [key]
  cases eF (XE n l) 0 l <;> rfl
theorem oQ {n : Int} {l : List Int} (h : dZ n l = true) : ∀ c ∈ l, 0 ≤ c ∧ c < n := by
 unfold dZ at h
 rw [Option.isNone_iff_eq_none, qx] at h
 intro c hc
 obtain ⟨i, hi, rfl⟩ := List.mem_iff_getElem.1 hc
 have := h i hi
 unfold XE at this
 split at this
 ·cases this
 ·rename_i q; rw [not_or, not_or] at q; omega
theorem zX {n : Int} {l : List Int} (h : dZ n l = true) : l.Nodup := by
 unfold dZ at h
 rw [Option.isNone_iff_eq_none, qx] at h
 show List.Pairwise (· ≠ ·) l
 rw [List.pairwise_iff_getElem]
 intro i j hi hj hij e
 have := h j hj
 unfold XE at this
 split at this
 ·cases this
 ·rename_i q
  rw [not_or, not_or] at q
  refine q.2.2 ?_
  unfold oV
  rw [List.any_eq_true]
  refine ⟨l[i], ?_, by simp [e]⟩
  rw [Nat.zero_add]
  exact List.mem_iff_getElem.2 ⟨i, by simp; omega, by simp⟩
theorem uT {α β : Type} (f : α → β) (l : List α) {i : Nat} (hi : i < l.length) : (l.take (i + 1)).map f = (l.take i).map f ++ [f l[i]] := by
 rw [List.take_succ_eq_append_getElem hi, List.map_append]; rfl
def CO (l : List Int) : List ApiPart := l.map fun c => ⟨c, false⟩
theorem Et (l : List Int) (h : l.length ≤ 1048576) : vI l = some (CO l) := by
 unfold vI
 refine KA (w := CO l) (Ey (fun i => (CO (l.take i), (i : Int))) l.length (fun i hi => ?_) ?_ rfl) rfl
 ·show (bif _ then _ else _) = _
  rw [av (by omega), bM hi, ah, av (by rw [bV]; simp [CO]; omega), bN (by omega), show CO (l.take (i + 1)) = _ from uT _ l hi]
  rfl
 ·show (bif _ then _ else _) = _
  rw [aD (by omega), List.take_length]
theorem J6 (l : List Int) (h : l.length ≤ 1048576) : vD l = some (CO l) := by
 unfold vD
 refine KA (w := CO l) (Ey (fun i => (CO (l.take i), (i : Int))) l.length (fun i hi => ?_) ?_ rfl) rfl
 ·show (bif _ then _ else _) = _
  rw [av (by omega), bM hi, ah, av (by rw [bV]; simp [CO]; omega), bN (by omega), show CO (l.take (i + 1)) = _ from uT _ l hi]
  rfl
 ·show (bif _ then _ else _) = _
  rw [aD (by omega), List.take_length]
def iA (l : List ApiPart) : List Int := l.map (·.Col)
theorem uJ (l : List ApiPart) (h : l.length ≤ 1048576) : mU l = some (iA l) := by
 unfold mU
 refine KA (w := iA l) (Ey (fun i => (iA (l.take i), (i : Int))) l.length (fun i hi => ?_) ?_ rfl) rfl
 ·show (bif _ then _ else _) = _
  rw [av (by omega), bM hi, ah, av (by rw [bV]; simp [iA]; omega), bN (by omega), show iA (l.take (i + 1)) = _ from uT _ l hi]
  rfl
 ·show (bif _ then _ else _) = _
  rw [aD (by omega), List.take_length]
def lU (c : ApiColumn) (each : Int) : Int := if c.Kind = 1 ∨ c.Kind = 2 then 9 else if c.Kind = 3 then 2 else 3 + each * c.Max
theorem Qz {c : ApiColumn} (h : nI c = 0) : oH c.Name = true ∧ 1 ≤ c.Kind ∧ c.Kind ≤ 5 ∧ (if c.Kind = 4 ∨ c.Kind = 5 then 1 ≤ c.Max ∧ c.Max ≤ 64 else c.Max = 0) ∧ uU c c.Default = 0 := by
 unfold nI at h
 by_cases h1 : oH c.Name = false
 ·rw [if_pos h1] at h; cases h
 rw [if_neg h1] at h
 by_cases h2 : c.Kind < 1 ∨ c.Kind > 5
 ·rw [if_pos h2] at h; cases h
 rw [if_neg h2] at h
 by_cases h3 : (if c.Kind = 4 ∨ c.Kind = 5 then c.Max < 1 ∨ c.Max > 64 else c.Max ≠ 0)
 ·rw [if_pos h3] at h; cases h
 rw [if_neg h3] at h
 refine ⟨by simpa using h1, by omega, by omega, ?_, h⟩
 by_cases k : c.Kind = 4 ∨ c.Kind = 5
 ·rw [if_pos k] at h3 ⊢; omega
 ·rw [if_neg k] at h3 ⊢; omega
theorem Hy {c : ApiColumn} (h : nI c = 0) : 0 ≤ c.Max ∧ c.Max ≤ 64 := by
 have := (Qz h).2.2.2.1
 split at this <;> omega
theorem zT (c : ApiColumn) (each : Int) (hc : 0 ≤ c.Max ∧ c.Max ≤ 64) (he : each = 1 ∨ each = 2) : oL c each = some (lU c each) := by
 unfold oL lU
 refine bo (a := decide (c.Kind = 1 ∨ c.Kind = 2)) ?_ ?_
 ·by_cases k : c.Kind = 1
  ·rw [k]; rfl
  ·rw [beq_eq_false_iff_ne.2 k, cond_false]; congr 1; simp [k, Bool.beq_eq_decide_eq]
 by_cases k : c.Kind = 1 ∨ c.Kind = 2
 ·rw [av k, if_pos k]
 rw [aD k, if_neg k]
 by_cases k3 : c.Kind = 3
 ·rw [show (c.Kind == 3) = true by simpa using k3, cond_true, if_pos k3]
 rw [show (c.Kind == 3) = false by simpa using k3, cond_false, if_neg k3]
 have hm : 0 ≤ each * c.Max ∧ each * c.Max ≤ 128 := by rcases he with rfl | rfl <;> omega
 generalize each * c.Max = m at hm ⊢
 rw [dA (n := m) (by omega) (by omega), dA (by omega) (by omega)]
theorem xW {c : ApiColumn} {each : Int} (hc : 0 ≤ c.Max ∧ c.Max ≤ 64) (he : each = 1 ∨ each = 2) : 0 ≤ lU c each ∧ lU c each ≤ 131 := by
 unfold lU
 have hm : 0 ≤ each * c.Max ∧ each * c.Max ≤ 128 := by rcases he with rfl | rfl <;> omega
 repeat' split
 all_goals omega
theorem CU {α : Type} (f : α → Int) : ∀ {l : List α}, (∀ x ∈ l, 0 ≤ f x ∧ f x ≤ 131) → 0 ≤ (l.map f).sum ∧ (l.map f).sum ≤ 131 * l.length
 | [], _ => by simp
 | x :: l, h => by
  have h1 := h x (by simp)
  have h2 := CU f (l := l) (fun y hy => h y (by simp [hy]))
  simp only [List.map_cons, List.sum_cons, List.length_cons]
  omega
theorem Mc (l : List Int) (i : Nat) (hi : i < l.length) : (l.take (i + 1)).sum = (l.take i).sum + l[i] := by
 rw [List.take_succ_eq_append_getElem hi, List.sum_append]
 simp only [List.sum_cons, List.sum_nil, Int.add_zero]
def iw (l : List ApiColumn) : Int := 1 + (l.map fun c => lU c 1).sum
theorem EZ (l : List ApiColumn) (h : l.length ≤ 24) (hc : ∀ c ∈ l, 0 ≤ c.Max ∧ c.Max ≤ 64) : nS l = some (iw l) := by
 unfold nS
 refine KA (w := iw l) (Ey (fun i => (iw (l.take i), (i : Int))) l.length (fun i hi => ?_) ?_ rfl) rfl
 ·have b := CU (fun c => lU c 1) (l := l.take i) (fun c h => xW (hc c (List.mem_of_mem_take h)) (.inl rfl))
  have w := xW (each := 1) (hc _ (List.getElem_mem hi)) (.inl rfl)
  have tl : (l.take i).length ≤ 24 := by simp; omega
  show (bif _ then _ else _) = _
  rw [av (by omega), bM hi, ah, zT _ _ (hc _ (List.getElem_mem hi)) (.inl rfl), ah, bN (by omega)]
  have e : iw (l.take (i + 1)) = iw (l.take i) + lU l[i] 1 := by
   unfold iw
   rw [List.map_take, List.map_take, Mc _ _ (by simpa using hi)]; simp; omega
  rw [e, dA (by unfold iw; omega) (by unfold iw; omega)]
 ·show (bif _ then _ else _) = _
  rw [aD (by omega), List.take_length]
def qU (bf : List ApiColumn) (i : Int) : ApiColumn := (bf[i.toNat]?).getD default
theorem Hz {bf : List ApiColumn} {i : Int} (h : 0 ≤ i ∧ i < bf.length) : bF bf i = some (qU bf i) := by
 unfold bF qU
 rw [if_pos h.1]
 have hl : i.toNat < bf.length := by omega
 rw [List.getElem?_eq_getElem hl]; rfl
theorem rF {bf : List ApiColumn} {i : Int} (h : 0 ≤ i ∧ i < bf.length) : qU bf i ∈ bf := by
 unfold qU
 have hl : i.toNat < bf.length := by omega
 rw [List.getElem?_eq_getElem hl]; exact List.getElem_mem hl
def gB (bf : List ApiColumn) (l : List ApiPart) : Int := (l.map fun p => lU (qU bf p.Col) 2).sum
theorem xw (bf : List ApiColumn) (l : List ApiPart) (h : l.length ≤ 1048576) (hp : ∀ p ∈ l, 0 ≤ p.Col ∧ p.Col < bf.length) (hc : ∀ c ∈ bf, 0 ≤ c.Max ∧ c.Max ≤ 64) : kY bf l = some (gB bf l) := by
 unfold kY
 refine KA (w := gB bf l) (Ey (fun i => (gB bf (l.take i), (i : Int))) l.length (fun i hi => ?_) ?_ rfl) rfl
 ·have b := CU (fun p : ApiPart => lU (qU bf p.Col) 2) (l := l.take i) (fun p h => xW (hc _ (rF (hp p (List.mem_of_mem_take h)))) (.inr rfl))
  have hq := hp _ (List.getElem_mem hi)
  have w := xW (each := 2) (hc _ (rF hq)) (.inr rfl)
  have tl : (l.take i).length ≤ 1048576 := by simp; omega
  show (bif _ then _ else _) = _
  rw [av (by omega), bM hi, ah, Hz hq, ah, zT _ _ (hc _ (rF hq)) (.inr rfl), ah, bN (by omega)]
  have e : gB bf (l.take (i + 1)) = gB bf (l.take i) + lU (qU bf l[i].Col) 2 := by
   unfold gB
   rw [List.map_take, List.map_take, Mc _ _ (by simpa using hi)]; simp
  rw [e, dA (by unfold gB; omega) (by unfold gB; omega)]
 ·show (bif _ then _ else _) = _
  rw [aD (by omega), List.take_length]
def qO (t : ApiTable) (x : ApiIndex) : Int :=
 if x.Parts.length < 1 ∨ x.Parts.length > 4 ∨ dZ t.bq.length (iA x.Parts) = false ∨ dZ t.bq.length x.Extra = false then 1
 else if (x.Extra.any fun c => oV (iA x.Parts) c || oV t.bB c) = true then 1
 else if gB t.bq x.Parts > 128 then 7 else 0
theorem BL {n : Int} {l : List ApiPart} (h : dZ n (iA l) = true) : ∀ p ∈ l, 0 ≤ p.Col ∧ p.Col < n := fun p hp => oQ h p.Col (List.mem_map.2 ⟨p, hp, rfl⟩)
theorem Gj (t : ApiTable) (x : ApiIndex) (hc : ∀ c ∈ t.bq, 0 ≤ c.Max ∧ c.Max ≤ 64) (hx : OkX x) (hp : t.bB.length < 4611686018427387904) : qd t x = some (qO t x) := by
 unfold qd qO
 obtain ⟨o1, o2, o3⟩ := hx
 refine bo (a := decide (x.Parts.length < 1 ∨ x.Parts.length > 4 ∨ dZ t.bq.length (iA x.Parts) = false ∨ dZ t.bq.length x.Extra = false)) ?_ ?_
 ·by_cases h1 : x.Parts.length < 1
  ·rw [av (by omega), decide_eq_true (.inl h1)]
  rw [aD (by omega)]
  by_cases h2 : x.Parts.length > 4
  ·rw [av (by omega), decide_eq_true (.inr (.inl h2))]
  rw [aD (by omega), uJ _ (by omega), ah, qH _ _ (by simp [iA]; omega), ah]
  cases p1 : dZ t.bq.length (iA x.Parts) with
  | false => simp
  | true =>
   rw [Bool.not_true, cond_false, qH _ _ o3, ah]
   cases p2 : dZ t.bq.length x.Extra <;> simp [h1, h2]
 by_cases q : x.Parts.length < 1 ∨ x.Parts.length > 4 ∨ dZ t.bq.length (iA x.Parts) = false ∨ dZ t.bq.length x.Extra = false
 ·rw [av q, if_pos q]
 rw [aD q, if_neg q]
 simp only [not_or, Bool.not_eq_false] at q
 refine Lm (WC x.Extra (fun c => oV (iA x.Parts) c || oV t.bB c) (.inr 1) (.inl ()) (fun i => (i : Int)) (fun i hi => ?_) ?_ rfl) ?_
 ·show (bif _ then _ else _) = _
  rw [av (by omega), bM hi, bN (by omega), uJ _ (by omega)]
  simp only [ah]
  rw [lu _ _ (by simp [iA]; omega), ah, lu _ _ hp]
  cases oV (iA x.Parts) x.Extra[i] <;> cases oV t.bB x.Extra[i] <;> rfl
 ·show (bif _ then _ else _) = _
  rw [aD (by omega)]
 ·cases (x.Extra.any fun c => oV (iA x.Parts) c || oV t.bB c) with
  | true => rfl
  | false =>
   simp only [Bool.false_eq_true, if_false, Sum.elim_inl]
   rw [xw _ _ (by omega) (BL q.2.2.1) hc, ah]
   by_cases k : gB t.bq x.Parts > 128
   ·rw [av k, if_pos k]
   ·rw [aD k, if_neg k]
def colE (l : List ApiColumn) (i : Nat) (c : ApiColumn) : Option Int := if nI c ≠ 0 then some (nI c) else if ((l.take i).any fun d => d.Name == c.Name) = true then some 6 else none
def KI (t : ApiTable) (i : Nat) (x : ApiIndex) : Option Int :=
 if oH x.Name = false then some 1 else if ((t.aY.take i).any fun y => y.Name == x.Name) = true then some 6 else if qO t x ≠ 0 then some (qO t x) else none
def Px (t : ApiTable) : Int :=
 if oH t.Name = false then 1 else if t.bq.length < 1 ∨ t.bq.length > 24 then 7 else match eF (colE t.bq) 0 t.bq with
 | some e => e
 | none => if t.bB.length < 1 ∨ t.bB.length > 4 ∨ dZ t.bq.length t.bB = false then 1
  else if (t.bB.any fun c => (qU t.bq c).xL) = true then 1
  else if iw t.bq > 512 ∨ gB t.bq (CO t.bB) > 128 ∨ t.aY.length > 6 then 7
  else match eF (KI t) 0 t.aY with
   | some e => e
   | none => 0
theorem Jf {n : Int} {l : List Int} (h : dZ n l = true) : ∀ p ∈ CO l, 0 ≤ p.Col ∧ p.Col < n := by
 intro p hp
 obtain ⟨c, hc, rfl⟩ := List.mem_map.1 hp
 exact oQ h c hc
theorem AB {α W V : Type} (f : Nat → α → Option W) (g : W → V) : ∀ (l : List α) (i : Nat), eF (fun i x => (f i x).map g) i l = (eF f i l).map g
 | [], i => rfl
 | x :: r, i => by rw [eF, eF]; cases f i x <;> simp [AB f g r]
theorem Cn {l : List ApiColumn} (h : eF (colE l) 0 l = none) : ∀ c ∈ l, nI c = 0 := by
 rw [qx] at h
 intro c hc
 obtain ⟨i, hi, rfl⟩ := List.mem_iff_getElem.1 hc
 have := h i hi
 unfold colE at this
 by_cases q : nI l[i] = 0
 ·exact q
 ·rw [if_pos q] at this; cases this
theorem Gm (t : ApiTable) (h : OkT t) : qg t = some (Px t) := by
  unfold qg Px
  rw [uM _ h.name, ah]
  cases oH t.Name with
  | false => rfl
  | true =>
  rw [Bool.not_true, cond_false, if_neg (by simp)]
  refine bo (a := decide (t.bq.length < 1 ∨ t.bq.length > 24)) ?_ ?_
  · by_cases k : t.bq.length < 1
    · rw [av (by omega)]; simp [k]
    · rw [aD (by omega)]; congr 1; exact Pt (by omega)
  by_cases q : t.bq.length < 1 ∨ t.bq.length > 24
  · rw [av q, if_pos q]
  rw [aD q, if_neg q]
  refine Lm (lq5 t.bq (fun i c => (colE t.bq i c).map fun e => (.inr e : Unit ⊕ Int)) (.inl ()) (fun i => (i : Int)) (fun i hi => ?_) ?_ rfl) ?_
  · have hm := List.getElem_mem hi
    show (bif _ then _ else _) = _
    rw [av (by omega), bM hi, bN (by omega)]
    unfold colE
    refine (?_ : eH _ _ _ = _)
    simp only [ah]
    rw [xB _ (h.bf.2 _ hm).1 (h.bf.2 _ hm).2, ah]
    by_cases k : nI t.bq[i] = 0
    rotate_left
    · rw [show (nI t.bq[i] != 0) = true by simpa using k, cond_true, QD, if_pos k]; rfl
    rw [show (nI t.bq[i] != 0) = false by simpa using k, cond_false, if_neg (by simpa using k)]
    have tl : (t.bq.take i).length = i := by simp; omega
    have inner := WC (y0 := (0 : Int)) (B := (fun aav : Int =>
                      bif (decide (aav < (i : Int))) then
                        Option.bind (bF t.bq aav) fun ajJ =>
                        bif (ajJ.Name == t.bq[i].Name) then
                          some (Sum.inr (Sum.inr (6 : Int)))
                        else
                          some (Sum.inl (bD (aav + (1 : Int))))
                      else
                        some (Sum.inr (Sum.inl ())))) (t.bq.take i) (fun d => d.Name == t.bq[i].Name) (.inr 6) (.inl ()) (fun j => (j : Int)) (fun j hj => by
          show (bif _ then _ else _) = _
          rw [av (by omega), bM (by omega), ah, bN (by omega), List.getElem_take]
          cases t.bq[j].Name == t.bq[i].Name <;> rfl) (by
          show (bif _ then _ else _) = _
          rw [aD (by omega)]) rfl
    cases ha : ((t.bq.take i).any fun d => d.Name == t.bq[i].Name) with
    | true =>
      rw [ha] at inner
      rw [inner]; rfl
    | false =>
      rw [ha] at inner
      rw [inner]; rfl
  · show (bif _ then _ else _) = _
    rw [aD (by omega)]
  rw [AB]
  cases hc : eF (colE t.bq) 0 t.bq with
  | some e => rfl
  | none =>
  have amP := Cn hc
  have hmax : ∀ c ∈ t.bq, 0 ≤ c.Max ∧ c.Max ≤ 64 := fun c hm => Hy (amP c hm)
  simp only [Option.map_none, Option.getD_none, Sum.elim_inl]
  refine bo (a := decide (t.bB.length < 1 ∨ t.bB.length > 4 ∨ dZ t.bq.length t.bB = false)) ?_ ?_
  · by_cases k : t.bB.length < 1
    · rw [av (by omega)]; simp [k]
    rw [aD (by omega)]
    by_cases k2 : t.bB.length > 4
    · rw [av (by omega)]; simp [k2]
    rw [aD (by omega), qH _ _ h.XC, ah]
    cases dZ t.bq.length t.bB <;> simp [k, k2]
  by_cases q2 : t.bB.length < 1 ∨ t.bB.length > 4 ∨ dZ t.bq.length t.bB = false
  · rw [av q2, if_pos q2]
  rw [aD q2, if_neg q2]
  simp only [not_or, Bool.not_eq_false] at q2
  refine Lm (WC t.bB (fun c => (qU t.bq c).xL) (.inr 1) (.inl ()) (fun i => (i : Int)) (fun i hi => ?_) ?_ rfl) ?_
  · show (bif _ then _ else _) = _
    rw [av (by omega), bM hi, ah, Hz (oQ q2.2.2 _ (List.getElem_mem hi)), ah, bN (by omega)]
    cases (qU t.bq t.bB[i]).xL <;> rfl
  · show (bif _ then _ else _) = _
    rw [aD (by omega)]
  cases (t.bB.any fun c => (qU t.bq c).xL) with
  | true => rfl
  | false =>
  simp only [Bool.false_eq_true, if_false, Sum.elim_inl]
  refine bo (a := decide (iw t.bq > 512 ∨ gB t.bq (CO t.bB) > 128 ∨ t.aY.length > 6)) ?_ ?_
  · rw [EZ _ (by omega) hmax, ah]
    by_cases k : iw t.bq > 512
    · rw [av k]; simp [k]
    rw [aD k, Et _ (by omega), ah, xw _ _ (by simp [CO]; omega) (Jf q2.2.2) hmax, ah]
    by_cases k2 : gB t.bq (CO t.bB) > 128
    · rw [av k2]; simp [k2]
    rw [aD k2]; congr 1; simp only [k, k2, false_or]; exact Pt (by omega)
  by_cases q3 : iw t.bq > 512 ∨ gB t.bq (CO t.bB) > 128 ∨ t.aY.length > 6
  · rw [av q3, if_pos q3]
  rw [aD q3, if_neg q3]
  refine Lm (lq5 t.aY (fun i x => (KI t i x).map fun e => (.inr e : Unit ⊕ Int)) (.inl ()) (fun i => (i : Int)) (fun i hi => ?_) ?_ rfl) ?_
  · have hm := List.getElem_mem hi
    show (bif _ then _ else _) = _
    rw [av (by omega), bM hi, bN (by omega)]
    unfold KI
    refine (?_ : eH _ _ _ = _)
    simp only [ah]
    rw [uM _ (h.idx _ hm).1, ah]
    cases hn : oH t.aY[i].Name with
    | false => rfl
    | true =>
    rw [Bool.not_true, cond_false, if_neg (by simp)]
    have tl : (t.aY.take i).length = i := by simp; omega
    have inner := WC (y0 := (0 : Int)) (B := (fun aat : Int =>
                                    bif (decide (aat < (i : Int))) then
                                      Option.bind (bF t.aY aat) fun ajF =>
                                      bif (ajF.Name == t.aY[i].Name) then
                                        some (Sum.inr (Sum.inr (6 : Int)))
                                      else
                                        some (Sum.inl (bD (aat + (1 : Int))))
                                    else
                                      some (Sum.inr (Sum.inl ())))) (t.aY.take i) (fun d => d.Name == t.aY[i].Name) (.inr 6) (.inl ()) (fun j => (j : Int)) (fun j hj => by
          show (bif _ then _ else _) = _
          rw [av (by omega), bM (by omega), ah, bN (by omega), List.getElem_take]
          cases t.aY[j].Name == t.aY[i].Name <;> rfl) (by
          show (bif _ then _ else _) = _
          rw [aD (by omega)]) rfl
    rw [inner]
    cases ha : ((t.aY.take i).any fun d => d.Name == t.aY[i].Name) with
    | true => rfl
    | false =>
      simp only [Bool.false_eq_true, if_false]
      rw [Gj t _ hmax (h.idx _ hm) h.XC]
      by_cases k : qO t t.aY[i] = 0
      · rw [k]; rfl
      · rw [if_pos k]
        refine beE (x := qO t t.aY[i]) ?_ rfl
        refine beY (y := ()) rfl ?_
        rw [ah, show (qO t t.aY[i] != 0) = true by simpa using k]; rfl
  · show (bif _ then _ else _) = _
    rw [aD (by omega)]
  rw [AB]
  cases eF (KI t) 0 t.aY <;> rfl
structure Right (t : ApiTable) : Prop where
 len : 1 ≤ t.bq.length ∧ t.bq.length ≤ 24
 col : ∀ c ∈ t.bq, nI c = 0
 pri : 1 ≤ t.bB.length ∧ t.bB.length ≤ 4
 XD : dZ t.bq.length t.bB = true
 row : iw t.bq ≤ 512
 key : gB t.bq (CO t.bB) ≤ 128
 ixs : t.aY.length ≤ 6
 idx : ∀ x ∈ t.aY, qO t x = 0
theorem Right.of {t : ApiTable} (h : Px t = 0) : Right t := by
 unfold Px at h
 by_cases h1 : oH t.Name = false
 ·rw [if_pos h1] at h; cases h
 rw [if_neg h1] at h
 by_cases h2 : t.bq.length < 1 ∨ t.bq.length > 24
 ·rw [if_pos h2] at h; cases h
 rw [if_neg h2] at h
 cases h3 : eF (colE t.bq) 0 t.bq with
 | some e =>
  rw [h3] at h
  exfalso
  have : ∀ (l : List ApiColumn) (i : Nat) (e : Int), eF (colE t.bq) i l = some e → e ≠ 0 := by
   intro l
   induction l with
   | nil => intro i e h; cases h
   | cons x r ih =>
    intro i e h
    rw [eF] at h
    cases hx : colE t.bq i x with
    | none => rw [hx] at h; exact ih _ _ h
    | some e' =>
     rw [hx] at h
     cases h
     unfold colE at hx
     by_cases q : nI x = 0
     ·rw [if_neg (by simpa using q)] at hx
      by_cases q2 : ((t.bq.take i).any fun d => d.Name == x.Name) = true
      ·rw [if_pos q2] at hx; cases hx; decide
      ·rw [if_neg q2] at hx; cases hx
     ·rw [if_pos q] at hx; cases hx; exact q
  exact this _ _ _ h3 h
 | none =>
 rw [h3] at h
 simp only at h
 by_cases h4 : t.bB.length < 1 ∨ t.bB.length > 4 ∨ dZ t.bq.length t.bB = false
 ·rw [if_pos h4] at h; cases h
 rw [if_neg h4] at h
 by_cases h5 : (t.bB.any fun c => (qU t.bq c).xL) = true
 ·rw [if_pos h5] at h; cases h
 rw [if_neg h5] at h
 by_cases h6 : iw t.bq > 512 ∨ gB t.bq (CO t.bB) > 128 ∨ t.aY.length > 6
 ·rw [if_pos h6] at h; cases h
 rw [if_neg h6] at h
 simp only [not_or, Bool.not_eq_false] at h2 h4 h6
 refine ⟨by omega, Cn h3, by omega, h4.2.2, by omega, by omega, by omega, fun x hx => ?_⟩
 obtain ⟨i, hi, rfl⟩ := List.mem_iff_getElem.1 hx
 cases h7 : eF (KI t) 0 t.aY with
 | none =>
  rw [qx] at h7
  have := h7 i hi
  unfold KI at this
  by_cases q : oH t.aY[i].Name = false
  ·rw [if_pos q] at this; cases this
  rw [if_neg q] at this
  by_cases q2 : ((t.aY.take (0 + i)).any fun y => y.Name == t.aY[i].Name) = true
  ·rw [if_pos q2] at this; cases this
  rw [if_neg q2] at this
  by_cases q3 : qO t t.aY[i] = 0
  ·exact q3
  ·rw [if_pos q3] at this; cases this
 | some e =>
  rw [h7] at h
  exfalso
  have : ∀ (l : List ApiIndex) (i : Nat) (e : Int), eF (KI t) i l = some e → e ≠ 0 := by
   intro l
   induction l with
   | nil => intro i e h; cases h
   | cons x r ih =>
    intro i e h
    rw [eF] at h
    cases hx : KI t i x with
    | none => rw [hx] at h; exact ih _ _ h
    | some e' =>
     rw [hx] at h
     cases h
     unfold KI at hx
     by_cases q : oH x.Name = false
     ·rw [if_pos q] at hx; cases hx; decide
     rw [if_neg q] at hx
     by_cases q2 : ((t.aY.take i).any fun y => y.Name == x.Name) = true
     ·rw [if_pos q2] at hx; cases hx; decide
     rw [if_neg q2] at hx
     by_cases q3 : qO t x = 0
     ·rw [if_neg (by simpa using q3)] at hx; cases hx
     ·rw [if_pos q3] at hx; cases hx; exact q3
  exact this _ _ _ h7 h
structure y5 (t : ApiTable) (x : ApiIndex) : Prop where
 par : 1 ≤ x.Parts.length ∧ x.Parts.length ≤ 4
 XD : dZ t.bq.length (iA x.Parts) = true
 ext : dZ t.bq.length x.Extra = true
 key : gB t.bq x.Parts ≤ 128
theorem y5.of {t : ApiTable} {x : ApiIndex} (h : qO t x = 0) : y5 t x := by
 unfold qO at h
 by_cases h1 : x.Parts.length < 1 ∨ x.Parts.length > 4 ∨ dZ t.bq.length (iA x.Parts) = false ∨ dZ t.bq.length x.Extra = false
 ·rw [if_pos h1] at h; cases h
 rw [if_neg h1] at h
 by_cases h2 : (x.Extra.any fun c => oV (iA x.Parts) c || oV t.bB c) = true
 ·rw [if_pos h2] at h; cases h
 rw [if_neg h2] at h
 by_cases h3 : gB t.bq x.Parts > 128
 ·rw [if_pos h3] at h; cases h
 simp only [not_or, Bool.not_eq_false] at h1
 exact ⟨by omega, h1.2.2.1, h1.2.2.2, by omega⟩
theorem UY : ∀ (n : Nat) (l : List Nat), l.Nodup → (∀ x ∈ l, x < n) → l.length ≤ n
 | 0, [], _, _ => by simp
 | 0, x :: l, _, h => absurd (h x (by simp)) (by omega)
 | n + 1, l, hd, h => by
  have h1 := UY n (l.erase n) (hd.erase n) (fun x hx => by
   have := (List.Nodup.mem_erase_iff hd).1 hx
   have := h x this.2
   omega)
  have := List.length_erase (a := n) (l := l)
  split at this <;> omega
theorem Rx {n : Nat} {l : List Int} (h : dZ n l = true) : l.length ≤ n := by
 have h1 := oQ h
 have h2 := zX h
 have h3 : (l.map Int.toNat).Nodup := by
  show List.Pairwise (· ≠ ·) _
  rw [List.pairwise_map]
  refine List.Pairwise.imp_of_mem ?_ h2
  intro a b ha hb hab e
  have := h1 a ha; have := h1 b hb
  omega
 have h4 : ∀ x ∈ l.map Int.toNat, x < n := by
  intro x hx
  obtain ⟨c, hc, rfl⟩ := List.mem_map.1 hx
  have := h1 c hc; omega
 have := UY n _ h3 h4
 simpa using this
theorem wQ {c : ApiColumn} {v : ApiValue} (h : uU c v = 0) : val v = true ∧ (v.Kind = 0 ∨ v.Kind = c.Kind) ∧ ((v.Kind = 4 ∨ v.Kind = 5) → (v.S.length : Int) ≤ c.Max) := by
 unfold uU at h
 by_cases h1 : val v = false
 ·rw [if_pos h1] at h; cases h
 rw [if_neg h1] at h
 have hv : val v = true := by simpa using h1
 by_cases h2 : v.Kind = 0
 ·exact ⟨hv, .inl h2, fun k => by omega⟩
 rw [if_neg h2] at h
 by_cases h3 : v.Kind ≠ c.Kind
 ·rw [if_pos h3] at h; cases h
 rw [if_neg h3] at h
 by_cases h4 : (v.Kind = 4 ∨ v.Kind = 5) ∧ (v.S.length : Int) > c.Max
 ·rw [if_pos h4] at h; cases h
 exact ⟨hv, .inr (by simpa using h3), fun k => by
  rcases Int.lt_or_le c.Max v.S.length with q | q
  ·exact absurd ⟨k, q⟩ h4
  ·exact q⟩
theorem JO {v : ApiValue} (h : val v = true) : 0 ≤ v.Kind ∧ v.Kind ≤ 5 := by
 unfold val at h
 simp only [Bool.or_eq_true, Bool.and_eq_true, beq_iff_eq, decide_eq_true_eq] at h
 omega
structure Fit (bf : List ApiColumn) (l : List ApiValue) : Prop where
 rc : oo bf = true
 len : l.length = bf.length
 fit : ∀ i (h1 : i < bf.length) (h2 : i < l.length), uU bf[i] l[i] = 0
theorem Fit.of {bf : List ApiColumn} {l : List ApiValue} (h : dz bf l = 0) : Fit bf l := by
 unfold dz at h
 by_cases q : oo bf = false ∨ l.length ≠ bf.length
 ·rw [if_pos q] at h; cases h
 rw [if_neg q] at h
 simp only [not_or, Bool.not_eq_false, ne_eq, Decidable.not_not] at q
 refine ⟨q.1, q.2, fun i h1 h2 => ?_⟩
 have hn : (bf.zip l).findSome? zI = none := by
  cases hf : (bf.zip l).findSome? zI with
  | none => rfl
  | some e =>
   rw [hf] at h
   exfalso
   obtain ⟨p, _, hp⟩ := List.exists_of_findSome?_eq_some hf
   unfold zI at hp
   by_cases k : uU p.1 p.2 = 0
   ·rw [if_pos k] at hp; cases hp
   ·rw [if_neg k] at hp; cases hp; exact k h
 rw [List.findSome?_eq_none_iff] at hn
 have := hn (bf[i], l[i]) (List.mem_iff_getElem.2 ⟨i, by simp; omega, by rw [List.getElem_zip]⟩)
 unfold zI at this
 by_cases k : uU bf[i] l[i] = 0
 ·exact k
 ·rw [if_neg k] at this; cases this
theorem Fit.to {bf : List ApiColumn} {l : List ApiValue} (h : Fit bf l) : dz bf l = 0 := by
 unfold dz
 rw [if_neg (by rw [h.rc, h.len]; simp)]
 have hn : (bf.zip l).findSome? zI = none := by
  rw [List.findSome?_eq_none_iff]
  intro p hp
  obtain ⟨i, hi, rfl⟩ := List.mem_iff_getElem.1 hp
  have hi' : i < bf.length ∧ i < l.length := by have := hi; simp at this; omega
  rw [List.getElem_zip]
  unfold zI
  rw [if_pos (h.fit i hi'.1 hi'.2)]
 rw [hn]; rfl
theorem Fit.num {bf : List ApiColumn} {l : List ApiValue} (h : Fit bf l) : 1 ≤ bf.length ∧ bf.length ≤ 24 ∧ ∀ c ∈ bf, nI c = 0 := by
 have := h.rc
 unfold oo at this
 simp only [Bool.and_eq_true, decide_eq_true_eq, List.all_eq_true, beq_iff_eq] at this
 exact ⟨this.1.1, this.1.2, this.2⟩
theorem Fit.val {bf : List ApiColumn} {l : List ApiValue} (h : Fit bf l) : ∀ v ∈ l, val v = true := by
 intro v hv
 obtain ⟨i, hi, rfl⟩ := List.mem_iff_getElem.1 hv
 exact (wQ (h.fit i (by rw [← h.len]; exact hi) hi)).1
theorem Fit.short {bf : List ApiColumn} {l : List ApiValue} (h : Fit bf l) : ∀ v ∈ l, v.S.length ≤ 64 := fun v hv => CK (h.val v hv)
def Af (l : List ApiValue) (i : Int) : ApiValue := (l[i.toNat]?).getD default
theorem xZ {l : List ApiValue} {i : Int} (h : 0 ≤ i ∧ i < l.length) : bF l i = some (Af l i) := by
 unfold bF Af
 rw [if_pos h.1]
 have hl : i.toNat < l.length := by omega
 rw [List.getElem?_eq_getElem hl]; rfl
theorem JQ {l : List ApiValue} {i : Int} (h : 0 ≤ i ∧ i < l.length) : Af l i ∈ l := by
 unfold Af
 have hl : i.toNat < l.length := by omega
 rw [List.getElem?_eq_getElem hl]; exact List.getElem_mem hl
theorem Fit.at {bf : List ApiColumn} {l : List ApiValue} (h : Fit bf l) {i : Int} (hi : 0 ≤ i ∧ i < bf.length) : uU (qU bf i) (Af l i) = 0 := by
 unfold qU Af
 have h1 : i.toNat < bf.length := by omega
 have h2 : i.toNat < l.length := by rw [h.len]; exact h1
 rw [List.getElem?_eq_getElem h1, List.getElem?_eq_getElem h2]
 exact h.fit _ h1 h2
def nX (l : List ApiValue) (ps : List ApiPart) : List ApiValue := ps.map fun p => Af l p.Col
def sP (ps : List ApiPart) : List Bool := ps.map (·.Down)
def vN (l : List ApiValue) (ps : List ApiPart) : Bool := ps.any fun p => (Af l p.Col).Kind == 0
def wL (l : List ApiValue) (ps : List ApiPart) : List UInt8 := vV (nX l ps) (sP ps)
theorem Nf {c : ApiColumn} {v : ApiValue} (hc : nI c = 0) (h : uU c v = 0) : ((enc v).length : Int) ≤ lU c 2 ∧ ((fP v).length : Int) ≤ lU c 1 := by
 obtain ⟨h1, h2, h3⟩ := wQ h
 obtain ⟨_, k1, k2, km, _⟩ := Qz hc
 have he := zn v.S
 have hk := JO h1
 have hm0 := Hy hc
 rcases h2 with h0 | hkc
 ·have e1 : enc v = [0] := by unfold enc body; simp [h0]
  have e2 : fP v = [1] := by unfold fP; simp [h0]
  rw [e1, e2]
  unfold lU
  simp only [List.length_cons, List.length_nil]
  by_cases q : c.Kind = 1 ∨ c.Kind = 2
  ·rw [if_pos q, if_pos q]; omega
  rw [if_neg q, if_neg q]
  by_cases q3 : c.Kind = 3
  ·rw [if_pos q3, if_pos q3]; omega
  ·rw [if_neg q3, if_neg q3]; omega
 ·have wide : ∀ each, lU c each = if v.Kind = 1 ∨ v.Kind = 2 then 9 else if v.Kind = 3 then 2 else 3 + each * c.Max := by intro each; unfold lU; rw [hkc]
  rw [wide, wide]
  by_cases q1 : v.Kind = 1
  ·simp [enc, body, fP, q1, bQ]
  by_cases q2 : v.Kind = 2
  ·simp [enc, body, fP, q2, bQ]
  by_cases q3 : v.Kind = 3
  ·simp [enc, body, fP, q3, bQ]
  have q4 : v.Kind = 4 ∨ v.Kind = 5 := by omega
  have hm := h3 q4
  have e1 : enc v = 1 :: (esc v.S ++ [0, 0]) := by unfold enc body; rcases q4 with k | k <;> simp [k]
  have e2 : fP v = 0 :: (bH (jS v.S.length) 2 ++ v.S) := by unfold fP; rcases q4 with k | k <;> simp [k]
  rw [e1, e2, if_neg (show ¬ (v.Kind = 1 ∨ v.Kind = 2) by omega), if_neg q3, if_neg (show ¬ (v.Kind = 1 ∨ v.Kind = 2) by omega), if_neg q3]
  simp only [List.length_cons, List.length_append, bQ, List.length_nil]
  omega
theorem sw {bf : List ApiColumn} {l : List ApiValue} (h : Fit bf l) : ∀ {ps : List ApiPart}, (∀ p ∈ ps, 0 ≤ p.Col ∧ p.Col < bf.length) → ((wL l ps).length : Int) ≤ gB bf ps
 | [], _ => by simp [wL, nX, sP, vV, gB]
 | p :: ps, hp => by
  have h1 := sw h (ps := ps) (fun q hq => hp q (by simp [hq]))
  have hq := hp p (by simp)
  have h2 := (Nf (h.num.2.2 _ (rF hq)) (h.at hq)).1
  unfold wL nX sP gB at h1 ⊢
  simp only [List.map_cons, vV, List.sum_cons, List.length_append, Bp]
  omega
theorem nobad {bf : List ApiColumn} {l : List ApiValue} (h : Fit bf l) {ps : List ApiPart} (hp : ∀ p ∈ ps, 0 ≤ p.Col ∧ p.Col < bf.length) : (nX l ps).any bad = false := by
 rw [List.any_eq_false]
 intro v hv
 obtain ⟨p, hm, rfl⟩ := List.mem_map.1 hv
 have := h.val _ (JQ (l := l) (by have := hp p hm; rw [h.len]; exact this))
 simp [bad, this]
theorem GD (l : List ApiValue) (ps : List ApiPart) (i : Nat) (hi : i < ps.length) : vN l (ps.take (i + 1)) = (vN l (ps.take i) || (Af l ps[i].Col).Kind == 0) := by
 unfold vN
 rw [List.take_succ_eq_append_getElem hi, List.any_append]; simp
theorem w9 (t : ApiTable) (ps : List ApiPart) (l : List ApiValue) (hc : uW t.bq) (hv : xS l) (hn : ps.length ≤ 1048576) (hp : ∀ p ∈ ps, 0 ≤ p.Col ∧ p.Col < t.bq.length) (hk : gB t.bq ps ≤ 256) :
  kW t ps l = some (if dz t.bq l ≠ 0 then ([], false, dz t.bq l) else (wL l ps, vN l ps, 0)) := by
 unfold kW
 rw [Er _ _ hc hv, ah]
 by_cases q : dz t.bq l = 0
 rotate_left
 ·rw [show (dz t.bq l != 0) = true by simpa using q, cond_true, if_pos q]
 rw [show (dz t.bq l != 0) = false by simpa using q, cond_false, if_neg (by simpa using q)]
 have hf := Fit.of q
 refine KA (w := (nX l ps, sP ps, vN l ps)) (Ey (fun i => (nX l (ps.take i), sP (ps.take i), vN l (ps.take i), (i : Int))) ps.length (fun i hi => ?_) ?_ rfl) ?_
 ·have hq := hp _ (List.getElem_mem hi)
  have hq' : 0 ≤ ps[i].Col ∧ ps[i].Col < l.length := by rw [hf.len]; exact hq
  show (bif _ then _ else _) = _
  rw [av (by omega), bM hi, ah, xZ hq', ah, av (by rw [bV]; simp [nX]; omega), av (by rw [bV]; simp [sP]; omega), bN (by omega), GD l ps i hi,
   show nX l (ps.take (i + 1)) = _ from uT _ ps hi, show sP (ps.take (i + 1)) = _ from uT _ ps hi]
  cases vN l (ps.take i) <;> rfl
 ·show (bif _ then _ else _) = _
  rw [aD (by omega), List.take_length]
 ·have hb := nobad hf hp
  have hl := sw hf hp
  have sm : Sm (nX l ps) := ⟨by simp [nX]; omega, fun v hv => by
   obtain ⟨p, hm, rfl⟩ := List.mem_map.1 hv
   have := hf.short _ (JQ (l := l) (by have := hp p hm; rw [hf.len]; exact this))
   omega⟩
  show Option.bind (oU (nX l ps) (sP ps)) _ = _
  rw [I5 _ _ sm]
  unfold encS
  rw [if_pos (by simp [nX, sP]), hb, if_neg (by simp), if_neg (by unfold wL at hl; omega)]
  rfl
theorem nO (t : ApiTable) (l : List ApiValue) (hc : uW t.bq) (hv : xS l) (r : Right t) : gM t l = some (if dz t.bq l ≠ 0 then ([], dz t.bq l) else (wL l (CO t.bB), 0)) := by
 unfold gM
 rw [J6 _ (by have := r.pri; omega), ah, w9 t _ l hc hv (by have := r.pri; simp [CO]; omega) (Jf r.XD) (by have := r.key; omega), ah]
 by_cases q : dz t.bq l = 0
 ·rw [if_neg (by simpa using q), if_neg (by simpa using q)]
 ·rw [if_pos q, if_pos q]
theorem qE (t : ApiTable) (x : ApiIndex) (l : List ApiValue) (hc : uW t.bq) (hv : xS l) (r : y5 t x) : iq t x l = some (if dz t.bq l ≠ 0 then ([], false, dz t.bq l) else (wL l x.Parts, vN l x.Parts, 0)) := by
 unfold iq
 rw [w9 t _ l hc hv (by have := r.par; omega) (BL r.XD) (by have := r.key; omega), ah]
def Hq (l : List ApiValue) (cs : List Int) : List ApiValue := cs.map (Af l)
def extC (bf : List ApiColumn) (cs : List Int) : List ApiColumn := cs.map (qU bf)
theorem CZ (t : ApiTable) (x : ApiIndex) (h : x.Extra.length ≤ 1048576) (hp : ∀ c ∈ x.Extra, 0 ≤ c ∧ c < t.bq.length) : mD t x = some (extC t.bq x.Extra) := by
 unfold mD
 refine KA (w := extC t.bq x.Extra) (Ey (fun i => (extC t.bq (x.Extra.take i), (i : Int))) x.Extra.length (fun i hi => ?_) ?_ rfl) rfl
 ·show (bif _ then _ else _) = _
  rw [av (by omega), bM hi, ah, Hz (hp _ (List.getElem_mem hi)), ah, av (by rw [bV]; simp [extC]; omega), bN (by omega), show extC t.bq (x.Extra.take (i + 1)) = _ from uT _ _ hi]
  rfl
 ·show (bif _ then _ else _) = _
  rw [aD (by omega), List.take_length]
theorem X7 {bf : List ApiColumn} {l : List ApiValue} (h : Fit bf l) {cs : List Int} (hp : ∀ c ∈ cs, 0 ≤ c ∧ c < bf.length) (h1 : 1 ≤ cs.length) (h24 : cs.length ≤ 24) : Fit (extC bf cs) (Hq l cs) := by
 refine ⟨?_, by simp [Hq, extC], fun i k1 k2 => ?_⟩
 ·unfold oo
  rw [decide_eq_true (by simp [extC]; omega), Bool.true_and, List.all_eq_true]
  intro c hc
  obtain ⟨j, hj, rfl⟩ := List.mem_map.1 hc
  simpa using h.num.2.2 _ (rF (hp j hj))
 ·simp only [extC, Hq, List.getElem_map]
  exact h.at (hp _ (List.getElem_mem _))
theorem Uk (f : Nat → Int) (hf : ∀ i, 0 ≤ f i) : ∀ (n : Nat) (l : List Nat), l.Nodup → (∀ x ∈ l, x < n) → (l.map f).sum ≤ ((List.range n).map f).sum
 | 0, [], _, _ => by simp
 | 0, x :: l, _, h => absurd (h x (by simp)) (by omega)
 | n + 1, l, hd, h => by
  have h1 := Uk f hf n (l.erase n) (hd.erase n) (fun x hx => by
   have := (List.Nodup.mem_erase_iff hd).1 hx
   have := h x this.2
   omega)
  have e : (l.map f).sum ≤ ((l.erase n).map f).sum + f n := by
   clear h1 h hd
   induction l with
   | nil => have := hf n; simp; omega
   | cons x r ih =>
    rw [List.erase_cons]
    by_cases q : x = n
    ·subst q; simp; omega
    ·rw [if_neg (by simpa using q)]
     simp only [List.map_cons, List.sum_cons]
     omega
  rw [List.range_succ, List.map_append, List.sum_append]
  simp only [List.map_cons, List.map_nil, List.sum_cons, List.sum_nil]
  omega
theorem vG {bf : List ApiColumn} {l : List ApiValue} (h : Fit bf l) : ((dV l).length : Int) ≤ iw bf := by
 have key : ∀ (cs : List ApiColumn) (vs : List ApiValue), cs.length = vs.length → (∀ i (h1 : i < cs.length) (h2 : i < vs.length), nI cs[i] = 0 ∧ uU cs[i] vs[i] = 0) → (((vs.map fP).flatten.length : Nat) : Int) ≤ (cs.map fun c => lU c 1).sum := by
  intro cs
  induction cs with
  | nil => intro vs hl _; cases vs <;> simp at hl ⊢
  | cons c cs ih =>
   intro vs hl hh
   cases vs with
   | nil => simp at hl
   | cons v vs =>
    have h0 := hh 0 (by simp) (by simp)
    have h1 := ih vs (by simpa using hl) (fun i k1 k2 => by have := hh (i + 1) (by simpa using k1) (by simpa using k2); simpa using this)
    have h2 := (Nf h0.1 h0.2).2
    simp only [List.getElem_cons_zero] at h2
    simp only [List.map_cons, List.flatten_cons, List.sum_cons, List.length_append]
    omega
 have := key bf l h.len.symm (fun i k1 k2 => ⟨h.num.2.2 _ (List.getElem_mem _), h.fit i k1 k2⟩)
 unfold dV iw
 rw [List.length_append, bQ]
 omega
theorem Pk {bf : List ApiColumn} (hc : ∀ c ∈ bf, nI c = 0) {cs : List Int} (h : dZ bf.length cs = true) : iw (extC bf cs) ≤ iw bf := by
 have h1 := oQ h
 have h2 := zX h
 have h3 : (cs.map Int.toNat).Nodup := by
  show List.Pairwise (· ≠ ·) _
  rw [List.pairwise_map]
  refine List.Pairwise.imp_of_mem ?_ h2
  intro a b ha hb hab e
  have := h1 a ha; have := h1 b hb
  omega
 have h4 : ∀ x ∈ cs.map Int.toNat, x < bf.length := by
  intro x hx
  obtain ⟨c, hc, rfl⟩ := List.mem_map.1 hx
  have := h1 c hc; omega
 have h5 := Uk (fun i => if h : i < bf.length then lU bf[i] 1 else 0) (fun i => by
  split
  ·rename_i hi; exact (xW (Hy (hc _ (List.getElem_mem hi))) (.inl rfl)).1
  ·exact Int.le_refl 0) bf.length _ h3 h4
 unfold iw
 have e1 : (cs.map Int.toNat).map (fun i => if h : i < bf.length then lU bf[i] 1 else 0) = (extC bf cs).map fun c => lU c 1 := by
  unfold extC
  rw [List.map_map, List.map_map]
  refine List.map_congr_left fun c hm => ?_
  have := h1 c hm
  have hl : c.toNat < bf.length := by omega
  simp only [Function.comp, hl, dite_true, qU, List.getElem?_eq_getElem hl]
  rfl
 have e2 : (List.range bf.length).map (fun i => if h : i < bf.length then lU bf[i] 1 else 0) = bf.map fun c => lU c 1 := by
  apply List.ext_getElem
  ·simp
  ·intro i k1 k2
   have hi : i < bf.length := by simpa using k1
   simp [hi]
 rw [e1, e2] at h5
 omega
def RD (t : ApiTable) (x : ApiIndex) (l : List ApiValue) : dN := ⟨wL l x.Parts ++ wL l (CO t.bB), if x.Extra = [] then [] else dV (Hq l x.Extra)⟩
theorem abw {bf : List ApiColumn} (h : uW bf) {cs : List Int} (hp : ∀ c ∈ cs, 0 ≤ c ∧ c < bf.length) (h24 : cs.length ≤ 24) : uW (extC bf cs) := ⟨by simp [extC]; omega, fun c hc => by
 obtain ⟨j, hj, rfl⟩ := List.mem_map.1 hc
 exact h.2 _ (rF (hp j hj))⟩
theorem XG {l : List ApiValue} (h : xS l) {cs : List Int} (hp : ∀ c ∈ cs, 0 ≤ c ∧ c < l.length) (h24 : cs.length ≤ 24) : xS (Hq l cs) := ⟨by simp [Hq]; omega, fun c hc => by
 obtain ⟨j, hj, rfl⟩ := List.mem_map.1 hc
 exact h.2 _ (JQ (hp j hj))⟩
theorem xq (t : ApiTable) (x : ApiIndex) (l : List ApiValue) (hc : uW t.bq) (hv : xS l) (r : Right t) (rx : y5 t x) : kX t x l = some (if dz t.bq l ≠ 0 then (dz t.bq l, ⟨[], []⟩) else (0, RD t x l)) := by
 unfold kX
 rw [qE t x l hc hv rx]
 by_cases q : dz t.bq l = 0
 rotate_left
 ·rw [if_pos q, if_pos q, ah]
  show (bif (dz t.bq l != 0) then _ else _) = _
  rw [show (dz t.bq l != 0) = true by simpa using q, cond_true]
 rw [if_neg (by simpa using q), if_neg (by simpa using q), ah]
 show (bif ((0 : Int) != 0) then _ else Option.bind (gM t l) _) = _
 rw [show ((0 : Int) != 0) = false from rfl, cond_false, nO t l hc hv r, if_neg (by simpa using q), ah]
 have hf := Fit.of q
 have l1 := sw hf (BL rx.XD)
 have l2 := sw hf (Jf r.XD)
 have k1 := rx.key
 have k2 := r.key
 show (bif decide ((wL l x.Parts).length + (wL l (CO t.bB)).length ≤ 9223372036854775807) then _ else _) = _
 rw [av (by omega)]
 have e24 := Rx rx.ext
 have hlen := r.len
 have hin := oQ rx.ext
 have hin' : ∀ c ∈ x.Extra, 0 ≤ c ∧ c < l.length := fun c h => by rw [hf.len]; exact hin c h
 refine bo (a := (0, RD t x l)) ?_ rfl
 by_cases he : x.Extra = []
 ·rw [aD (by rw [he]; simp)]
  unfold RD
  rw [if_pos he]
 have hpos : 1 ≤ x.Extra.length := by
  cases hx : x.Extra with
  | nil => exact absurd hx he
  | cons a b => simp
 rw [av (by omega)]
 refine KA (w := Hq l x.Extra) (Ey (fun i => (Hq l (x.Extra.take i), (i : Int))) x.Extra.length (fun i hi => ?_) ?_ rfl) ?_
 ·show (bif _ then _ else _) = _
  rw [av (by omega), bM hi, ah, xZ (hin' _ (List.getElem_mem hi)), ah, av (by rw [bV]; simp [Hq]; omega), bN (by omega), show Hq l (x.Extra.take (i + 1)) = _ from uT _ _ hi]
  rfl
 ·show (bif _ then _ else _) = _
  rw [aD (by omega), List.take_length]
 ·have ef := X7 hf hin hpos (by omega)
  have eq := ef.to
  have er := vG ef
  have em := Pk r.col rx.ext
  have rr := r.row
  rw [CZ t x (by omega) hin, ah, uH _ _ (abw hc hin (by omega)) (XG hv hin' (by omega)) (fun _ => ef.short) (fun _ => by simp [Hq]; omega), if_neg (by simpa using eq), if_neg (by omega), ah]
  unfold RD
  rw [if_neg he]
theorem Gh (bf : List ApiColumn) (ps : List ApiPart) (l : List ApiValue) (hf : Fit bf l) (hn : ps.length ≤ 1048576) (hp : ∀ p ∈ ps, 0 ≤ p.Col ∧ p.Col < bf.length) : qc ps l = some (wL l ps, vN l ps) := by
 unfold qc
 refine KA (w := (nX l ps, sP ps, vN l ps)) (Ey (fun i => (nX l (ps.take i), sP (ps.take i), vN l (ps.take i), (i : Int))) ps.length (fun i hi => ?_) ?_ rfl) ?_
 ·have hq := hp _ (List.getElem_mem hi)
  have hq' : 0 ≤ ps[i].Col ∧ ps[i].Col < l.length := by rw [hf.len]; exact hq
  show (bif _ then _ else _) = _
  rw [av (by omega), bM hi, ah, xZ hq', ah, av (by rw [bV]; simp [nX]; omega), ah, av (by rw [bV]; simp [sP]; omega), bN (by omega), GD l ps i hi,
   show nX l (ps.take (i + 1)) = _ from uT _ ps hi, show sP (ps.take (i + 1)) = _ from uT _ ps hi]
  cases vN l (ps.take i) <;> rfl
 ·show (bif _ then _ else _) = _
  rw [aD (by omega), List.take_length]
 ·have hb := nobad hf hp
  show Option.bind (nD (nX l ps) (sP ps)) _ = _
  rw [IC _ _ (by simp [nX, sP]) (by simp [nX]; omega) hb]
  rfl
theorem Db (t : ApiTable) (l : List ApiValue) (hf : Fit t.bq l) (r : Right t) : jW t l = some (wL l (CO t.bB)) := by
 unfold jW
 rw [Et _ (by have := r.pri; omega), ah, Gh t.bq _ l hf (by have := r.pri; simp [CO]; omega) (Jf r.XD), ah]
def ptS (k : List UInt8) : aU := ⟨k, k ++ [0], false⟩
def rZ (tree : Int) (k : List UInt8) : ay := ⟨tree, ptS k, true⟩
def Kw (kind : Int) (k v : List UInt8) : bL := bL.mk 0 kind k 0 v 0 0
def XF (tree : Int) (m : bL) : au := ⟨1, tree, m⟩
def Xb (s : List UInt8) : aU := match nu s with
 | some a => ⟨s, a, false⟩
 | none => ⟨s, [], true⟩
abbrev SF : Type := List au × List ay × List aX
def gT (t : ApiTable) (x : ApiIndex) (l : List ApiValue) : dN := if l = [] then ⟨[], []⟩ else RD t x l
def og (x : ApiIndex) (l : List ApiValue) : List UInt8 := if l = [] then [] else wL l x.Parts
def MB (x : ApiIndex) (l : List ApiValue) : Bool := if l = [] then false else vN l x.Parts
def Av (t : ApiTable) (x : ApiIndex) (old now : List ApiValue) : SF :=
 if gT t x old = gT t x now then ([], [], []) else
 let del := decide (old ≠ []) && ((gT t x old).Key != (gT t x now).Key)
 let o1 := if del = true then [XF x.Tree (Kw 2 (gT t x old).Key [])] else []
 let l1 := if del = true ∧ x.Ready = true then [rZ x.Tree (gT t x old).Key] else []
 if now = [] then (o1, l1, []) else
 let o2 := o1 ++ [XF x.Tree (Kw 1 (gT t x now).Key (gT t x now).Val)]
 let l2 := if x.Ready = true then l1 ++ [rZ x.Tree (gT t x now).Key] else l1
 if x.Ready = true ∧ x.Unique = true ∧ MB x now = false ∧ ¬ (old ≠ [] ∧ og x old = og x now) then (o2, l2 ++ [⟨x.Tree, Xb (og x now), false⟩], [⟨x.Tree, Xb (og x now)⟩]) else (o2, l2, [])
def PO (a b : SF) : SF := (a.1 ++ b.1, a.2.1 ++ b.2.1, a.2.2 ++ b.2.2)
def Side (t : ApiTable) (l : List ApiValue) : Prop := xS l ∧ (l ≠ [] → dz t.bq l = 0)
theorem emp {α : Type} (l : List α) : decide ((l.length : Int) > 0) = decide (l ≠ []) := by
 refine Pt ?_
 cases l <;> simp
theorem Wo (s : List UInt8) (h : s.length < 4611686018427387904) : vP s = some (Xb s) := by
 unfold vP Xb
 rw [Wt s h, ah]
 cases nu s <;> rfl
theorem Dw {t : ApiTable} {x : ApiIndex} {l : List ApiValue} (hf : Fit t.bq l) (r : Right t) (rx : y5 t x) : (wL l x.Parts).length ≤ 128 ∧ (wL l (CO t.bB)).length ≤ 128 ∧ (RD t x l).Key.length ≤ 256 := by
 have l1 := sw hf (BL rx.XD)
 have l2 := sw hf (Jf r.XD)
 have k1 := rx.key
 have k2 := r.key
 refine ⟨by omega, by omega, ?_⟩
 show (wL l x.Parts ++ wL l (CO t.bB)).length ≤ 256
 rw [List.length_append]; omega
theorem Cy (k : List UInt8) (h : k.length ≤ 140737488351232) : o7 k = some () := by
 unfold o7
 rw [av (by simp; omega)]
theorem GZ (m : bL) (x : ApiIndex) (p2 : List au) (p3 : List ay) (p4 : List aX) (hm : m.Key.length ≤ 1048576) (h2 : p2.length ≤ 1000) (h3 : p3.length ≤ 1000) :
  gI m x p2 p3 p4 = some (if x.Ready = true then p3 ++ [rZ x.Tree m.Key] else p3) := by
 unfold gI
 refine bo (a := ()) ?_ ?_
 ·unfold pR
  rw [av (by rw [bV]; simp; omega)]
 cases x.Ready with
 | false => rfl
 | true =>
  rw [cond_true]
  refine bo (a := ()) ?_ rfl
  unfold om
  rw [Cy _ (by omega), ah, av (by rw [bV]; simp; omega)]
theorem acE (a b : dN) : o8 a b = decide (a = b) := by
 cases a; cases b
 simp only [o8, dN.mk.injEq]
 rw [Bool.eq_iff_iff]
 simp
theorem RA (t : ApiTable) (x : ApiIndex) (old now : List ApiValue) (pa pb : List UInt8) (p4 : List au) (p5 : List ay) (p6 : List aX) (hc : uW t.bq) (r : Right t) (rx : y5 t x) (ho : Side t old) (hn : Side t now)
  (h4 : p4.length ≤ 900) (h5 : p5.length ≤ 900) (h6 : p6.length ≤ 900) :
  iD t x ⟨old, pa⟩ ⟨now, pb⟩ p4 p5 p6 = some (PO (p4, p5, p6) (Av t x old now)) := by
 unfold iD
 have side : ∀ l, Side t l → l ≠ [] → Fit t.bq l := fun l h k => Fit.of (h.2 k)
 refine bo (a := (og x old, gT t x old)) ?_ ?_
 ·show Option.bind (some ()) _ = _
  rw [ah, emp]
  by_cases k : old = []
  ·subst k; rfl
  ·rw [av k, xq t x old hc ho.1 r rx, if_neg (by simpa using ho.2 k), ah]
   show Option.bind (iq t x old) _ = _
   rw [qE t x old hc ho.1 rx, if_neg (by simpa using ho.2 k), ah]
   simp [og, gT, k]
 show Option.bind _ _ = _
 refine bo (a := (og x now, MB x now, gT t x now)) ?_ ?_
 ·show Option.bind (some ()) _ = _
  rw [ah, emp]
  by_cases k : now = []
  ·subst k; rfl
  ·rw [av k, xq t x now hc hn.1 r rx, if_neg (by simpa using hn.2 k), ah]
   show Option.bind (iq t x now) _ = _
   rw [qE t x now hc hn.1 rx, if_neg (by simpa using hn.2 k), ah]
   simp [og, gT, MB, k]
 show (bif (o8 (gT t x old) (gT t x now)) then _ else _) = _
 have ka : (gT t x old).Key.length ≤ 256 := by
  unfold gT
  by_cases k : old = []
  ·rw [if_pos k]; simp
  ·rw [if_neg k]; exact (Dw (side old ho k) r rx).2.2
 have kz : (gT t x now).Key.length ≤ 256 := by
  unfold gT
  by_cases k : now = []
  ·rw [if_pos k]; simp
  ·rw [if_neg k]; exact (Dw (side now hn k) r rx).2.2
 have kf : (og x now).length ≤ 128 := by
  unfold og
  by_cases k : now = []
  ·rw [if_pos k]; simp
  ·rw [if_neg k]; exact (Dw (side now hn k) r rx).1
 rw [acE]
 unfold Av
 by_cases q : gT t x old = gT t x now
 ·rw [av q, if_pos q]; simp [PO]
 rw [aD q, if_neg q]
 generalize hd : (decide (old ≠ []) && ((gT t x old).Key != (gT t x now).Key)) = del
 refine bo (a := (p4 ++ (if del = true then [XF x.Tree (Kw 2 (gT t x old).Key [])] else []), p5 ++ (if del = true ∧ x.Ready = true then [rZ x.Tree (gT t x old).Key] else []))) ?_ ?_
 ·refine bo (a := del) ?_ ?_
  ·show Option.bind (some ()) _ = _
   rw [ah, emp, ← hd]
   by_cases k : old = []
   ·subst k; rfl
   ·rw [av k, decide_eq_true k, Bool.true_and]
  cases del with
  | false => simp
  | true =>
   rw [cond_true, GZ _ _ _ _ _ (by show (gT t x old).Key.length ≤ _; omega) (by omega) (by omega), ah]
   cases x.Ready <;> simp [XF, Kw, rZ]
 show Option.bind (some ()) _ = _
 rw [ah]
 show (bif (!(decide ((now.length : Int) > 0))) then _ else _) = _
 rw [emp]
 by_cases k : now = []
 ·rw [decide_eq_false (by simpa using k), Bool.not_false, cond_true]
  simp only [k, if_true, PO, List.append_nil]
 rw [decide_eq_true k, Bool.not_true, cond_false]
 simp only [k, if_false]
 have l4 : (p4 ++ (if del = true then [XF x.Tree (Kw 2 (gT t x old).Key [])] else [])).length ≤ 910 := by rw [List.length_append]; split <;> simp <;> omega
 have l5 : (p5 ++ (if del = true ∧ x.Ready = true then [rZ x.Tree (gT t x old).Key] else [])).length ≤ 910 := by rw [List.length_append]; split <;> simp <;> omega
 rw [GZ _ _ _ _ _ (by show (gT t x now).Key.length ≤ _; omega) (by omega) (by omega), ah]
 generalize hu : decide (x.Ready = true ∧ x.Unique = true ∧ MB x now = false ∧ ¬ (old ≠ [] ∧ og x old = og x now)) = u
 have l2 : (if x.Ready = true then (p5 ++ (if del = true ∧ x.Ready = true then [rZ x.Tree (gT t x old).Key] else [])) ++ [rZ x.Tree (gT t x now).Key] else (p5 ++ (if del = true ∧ x.Ready = true then [rZ x.Tree (gT t x old).Key] else []))) = p5 ++ (if x.Ready = true then (if del = true ∧ x.Ready = true then [rZ x.Tree (gT t x old).Key] else []) ++ [rZ x.Tree (gT t x now).Key] else (if del = true ∧ x.Ready = true then [rZ x.Tree (gT t x old).Key] else [])) := by
  split <;> simp
 refine bo (a := u) ?_ ?_
 ·rw [← hu]
  cases x.Ready with
  | false => simp
  | true =>
   cases x.Unique with
   | false => simp
   | true =>
    cases MB x now with
    | true => simp
    | false =>
     simp only [cond_true, Bool.not_false, true_and]
     show Option.bind (some ()) _ = _
     rw [ah, emp]
     by_cases k2 : old = []
     ·rw [aD (by simpa using k2)]; simp [k2]
     ·rw [av k2]
      congr 1
      by_cases k3 : og x old = og x now
      ·simp [k3, k2]
      ·simp [k3, k2]
 have l5' : (if x.Ready = true then (p5 ++ (if del = true ∧ x.Ready = true then [rZ x.Tree (gT t x old).Key] else [])) ++ [rZ x.Tree (gT t x now).Key] else (p5 ++ (if del = true ∧ x.Ready = true then [rZ x.Tree (gT t x old).Key] else []))).length ≤ 920 := by
  split
  ·rw [List.length_append]; simp only [List.length_cons, List.length_nil]; omega
  ·omega
 cases u with
 | false =>
  rw [cond_false, if_neg (of_decide_eq_false hu)]
  simp only [PO, List.append_nil, l2]
  rw [List.append_assoc]
  rfl
 | true =>
  rw [cond_true, if_pos (of_decide_eq_true hu)]
  rw [Wo _ (by omega), ah, av (by rw [bV]; simp only [List.length_cons, List.length_nil]; omega), av (by rw [bV]; simp only [List.length_cons, List.length_nil]; omega)]
  simp only [PO]
  rw [l2, List.append_assoc p4, List.append_assoc p5]
  rfl
def jq (t : ApiTable) (l : List ApiValue) : List UInt8 := wL l (CO t.bB)
def Qr (x : ApiIndex) (b : FanBuilt) (p : List UInt8) : Bool := x.Ready || (b.Any && (Qo p b.Key || p == b.Key))
def tL (t : ApiTable) (old now : List ApiValue) (p : List UInt8) (w : SF) (q : ApiIndex × FanBuilt) : SF := if Qr q.1 q.2 p = true then PO w (Av t q.1 old now) else w
def Mh (t : ApiTable) (now : List ApiValue) (p : List UInt8) : au := if now = [] then XF t.Tree (Kw 2 p []) else XF t.Tree (Kw 1 p (dV now))
def YV (t : ApiTable) (b : List FanBuilt) (old now : List ApiValue) (p : List UInt8) : SF := (t.aY.zip b).foldl (tL t old now p) ([Mh t now p], [rZ t.Tree p], [])
def Ms (t : ApiTable) (old now : List ApiValue) : List UInt8 := if now = [] then jq t old else jq t now
def Ni (t : ApiTable) (b : List FanBuilt) (old now : List ApiValue) : Int × SF :=
 if b.length ≠ t.aY.length ∨ (old = [] ∧ now = []) then (1, [], [], [])
 else if old ≠ [] ∧ dz t.bq old ≠ 0 then (dz t.bq old, [], [], [])
 else if now ≠ [] ∧ dz t.bq now ≠ 0 then (dz t.bq now, [], [], [])
 else if now ≠ [] ∧ old ≠ [] ∧ jq t old ≠ jq t now then (1, [], [], [])
 else if old = now then (0, [], [rZ t.Tree (Ms t old now)], [])
 else (0, YV t b old now (Ms t old now))
theorem XO (t : ApiTable) (x : ApiIndex) (old now : List ApiValue) : (Av t x old now).1.length ≤ 2 ∧ (Av t x old now).2.1.length ≤ 3 ∧ (Av t x old now).2.2.length ≤ 1 := by
 unfold Av
 by_cases q : gT t x old = gT t x now
 ·rw [if_pos q]; simp
 rw [if_neg q]
 simp only
 have h1 : ∀ (b : Bool), (if b = true then [XF x.Tree (Kw 2 (gT t x old).Key [])] else []).length ≤ 1 := by intro b; cases b <;> simp
 have h2 : ∀ (b : Bool), (if b = true ∧ x.Ready = true then [rZ x.Tree (gT t x old).Key] else []).length ≤ 1 := by intro b; split <;> simp
 by_cases k : now = []
 ·rw [if_pos k]; exact ⟨Nat.le_trans (h1 _) (by omega), Nat.le_trans (h2 _) (by omega), by simp⟩
 rw [if_neg k]
 have h1 := h1 (decide (old ≠ []) && ((gT t x old).Key != (gT t x now).Key))
 have h2 := h2 (decide (old ≠ []) && ((gT t x old).Key != (gT t x now).Key))
 generalize (if (decide (old ≠ []) && ((gT t x old).Key != (gT t x now).Key)) = true then [XF x.Tree (Kw 2 (gT t x old).Key [])] else []) = a at h1
 generalize (if (decide (old ≠ []) && ((gT t x old).Key != (gT t x now).Key)) = true ∧ x.Ready = true then [rZ x.Tree (gT t x old).Key] else []) = b at h2
 split <;> split <;> simp only [List.length_append, List.length_cons, List.length_nil] <;> omega
theorem RB {α β : Type} (f : β → α → β) (a : β) (l : List α) (i : Nat) (hi : i < l.length) : (l.take (i + 1)).foldl f a = f ((l.take i).foldl f a) l[i] := by
 rw [List.take_succ_eq_append_getElem hi, List.foldl_append]; rfl
theorem Me (t : ApiTable) (old now : List ApiValue) (p : List UInt8) : ∀ (l : List (ApiIndex × FanBuilt)) (w : SF), (l.foldl (tL t old now p) w).1.length ≤ w.1.length + 2 * l.length ∧ (l.foldl (tL t old now p) w).2.1.length ≤ w.2.1.length + 3 * l.length ∧ (l.foldl (tL t old now p) w).2.2.length ≤ w.2.2.length + l.length
 | [], w => by simp
 | q :: l, w => by
  have h := Me t old now p l (tL t old now p w q)
  have k := XO t q.1 old now
  have s : (tL t old now p w q).1.length ≤ w.1.length + 2 ∧ (tL t old now p w q).2.1.length ≤ w.2.1.length + 3 ∧ (tL t old now p w q).2.2.length ≤ w.2.2.length + 1 := by
   unfold tL
   split
   ·simp only [PO, List.length_append]; omega
   ·omega
  rw [List.foldl_cons]
  simp only [List.length_cons]
  omega
theorem Qk (t : ApiTable) (l : List ApiValue) (hc : uW t.bq) (hv : xS l) (r : Right t) : sJ t l = some (if l = [] then (0, ⟨[], []⟩) else if dz t.bq l ≠ 0 then (dz t.bq l, ⟨l, []⟩) else (0, ⟨l, jq t l⟩)) := by
 unfold sJ
 by_cases k : l = []
 ·subst k; rfl
 rw [if_neg k, show ((l.length : Int) == 0) = false by rw [KE]; simpa using k, cond_false, nO t l hc hv r, ah]
 by_cases q : dz t.bq l = 0
 ·rw [if_neg (by simpa using q), if_neg (by simpa using q)]; rfl
 ·rw [if_pos q, if_pos q]
theorem abA {a b : Nat} : ((a : Int) != (b : Int)) = decide (a ≠ b) := by rw [nat_ne]; simp [bne, Bool.beq_eq_decide_eq]
theorem wE {t : ApiTable} {l : List ApiValue} (hf : Fit t.bq l) (r : Right t) : (jq t l).length ≤ 128 := by
 have l2 := sw hf (Jf r.XD)
 have k2 := r.key
 unfold jq; omega
theorem VG (t : ApiTable) (b : List FanBuilt) (old now : List ApiValue) (p pa pb : List UInt8) (w : SF) (hc : uW t.bq) (r : Right t) (hb : b.length = t.aY.length) (ho : Side t old) (hn : Side t now)
  (h4 : w.1.length ≤ 1) (h5 : w.2.1.length ≤ 1) (h6 : w.2.2.length ≤ 1) {B : Int × SF → Option ((Int × SF) ⊕ SF)}
  (hB : ∀ (i : Nat) (hi : i < t.aY.length) (v : SF), B ((i : Int), v) = Option.bind (Option.bind (α := Bool) (bif (t.aY[i]'hi).Ready then some true else Option.bind (bF b (i : Int)) fun ajK => bif ajK.Any then Option.bind (bF b (i : Int)) fun aeg => some (Qo p aeg.Key || p == aeg.Key) else some false) fun ajd =>
   bif ajd then Option.bind (iD t (t.aY[i]'hi) ⟨old, pa⟩ ⟨now, pb⟩ v.1 v.2.1 v.2.2) fun x => some (x.1, x.2.1, x.2.2) else some (v.1, v.2.1, v.2.2)) fun x => some (Sum.inl (((i + 1 : Nat) : Int), x.1, x.2.1, x.2.2)))
  (he : ∀ v, B ((t.aY.length : Int), v) = some (.inr v)) : loop B ((0 : Int), w) = some ((t.aY.zip b).foldl (tL t old now p) w) := by
 have z : (t.aY.zip b).length = t.aY.length := by simp [hb]
 have l6 := r.ixs
 refine Ey (fun i => ((i : Int), ((t.aY.zip b).take i).foldl (tL t old now p) w)) t.aY.length (fun i hi => ?_) ?_ rfl
 ·rw [hB i hi, RB _ _ _ _ (by omega)]
  generalize hw : ((t.aY.zip b).take i).foldl (tL t old now p) w = v
  have sl := Me t old now p ((t.aY.zip b).take i) w
  rw [hw] at sl
  have tl : ((t.aY.zip b).take i).length ≤ 6 := by rw [List.length_take]; omega
  refine bo (a := tL t old now p v (t.aY.zip b)[i]) ?_ rfl
  rw [List.getElem_zip]
  refine bo (a := Qr t.aY[i] b[i] p) ?_ ?_
  ·unfold Qr
   cases (t.aY[i]).Ready with
   | true => rfl
   | false =>
    rw [cond_false, bM (by omega), ah]
    cases b[i].Any <;> rfl
  ·unfold tL
   cases hk : Qr t.aY[i] b[i] p with
   | false => simp
   | true =>
    simp only [if_true, cond_true]
    rw [RA t _ old now pa pb v.1 v.2.1 v.2.2 hc r (y5.of (r.idx _ (List.getElem_mem hi))) ho hn (by omega) (by omega) (by omega), ah]
 ·rw [he, List.take_of_length_le (by omega)]
theorem I7 (t : ApiTable) (b : List FanBuilt) (old now : List ApiValue) (hc : uW t.bq) (r : Right t) (ho : xS old) (hn : xS now) : sM t b old now = some (Ni t b old now) := by
 unfold sM Ni
 refine bo (a := decide (b.length ≠ t.aY.length ∨ (old = [] ∧ now = []))) ?_ ?_
 ·rw [abA]
  by_cases k : b.length = t.aY.length
  ·rw [aD (by simpa using k), KE, KE]
   simp only [k, ne_eq, not_true_eq_false, false_or]
   cases old <;> cases now <;> simp
  ·rw [av k]; simp [k]
 by_cases q : b.length ≠ t.aY.length ∨ (old = [] ∧ now = [])
 ·rw [av q, if_pos q]
 rw [aD q, if_neg q]
 rw [Qk t old hc ho r, ah]
 by_cases q1 : old ≠ [] ∧ dz t.bq old ≠ 0
 ·rw [if_pos q1, if_neg q1.1, if_pos q1.2]
  show (bif (dz t.bq old != 0) then _ else _) = _
  rw [show (dz t.bq old != 0) = true by simpa using q1.2, cond_true]
 rw [if_neg q1]
 have so : Side t old := ⟨ho, fun k => by
  rcases Int.lt_trichotomy (dz t.bq old) 0 with h | h | h
  ·exact absurd ⟨k, by omega⟩ q1
  ·exact h
  ·exact absurd ⟨k, by omega⟩ q1⟩
 obtain ⟨pa, hpa⟩ : ∃ pa, (if old = [] then (0, (⟨[], []⟩ : iY)) else if dz t.bq old ≠ 0 then (dz t.bq old, ⟨old, []⟩) else (0, ⟨old, jq t old⟩)) = (0, ⟨old, pa⟩) ∧ (old ≠ [] → pa = jq t old) ∧ (old = [] → pa = []) := by
  by_cases k : old = []
  ·exact ⟨[], by simp [k], fun h => absurd k h, fun _ => rfl⟩
  ·exact ⟨jq t old, by simp [k, so.2 k], fun _ => rfl, fun h => absurd h k⟩
 rw [hpa.1]
 show (bif ((0 : Int) != 0) then _ else Option.bind (sJ t now) _) = _
 rw [show ((0 : Int) != 0) = false from rfl, cond_false, Qk t now hc hn r, ah]
 by_cases q2 : now ≠ [] ∧ dz t.bq now ≠ 0
 ·rw [if_pos q2, if_neg q2.1, if_pos q2.2]
  show (bif (dz t.bq now != 0) then _ else _) = _
  rw [show (dz t.bq now != 0) = true by simpa using q2.2, cond_true]
 rw [if_neg q2]
 have sn : Side t now := ⟨hn, fun k => by
  rcases Int.lt_trichotomy (dz t.bq now) 0 with h | h | h
  ·exact absurd ⟨k, by omega⟩ q2
  ·exact h
  ·exact absurd ⟨k, by omega⟩ q2⟩
 obtain ⟨pb, hpb⟩ : ∃ pb, (if now = [] then (0, (⟨[], []⟩ : iY)) else if dz t.bq now ≠ 0 then (dz t.bq now, ⟨now, []⟩) else (0, ⟨now, jq t now⟩)) = (0, ⟨now, pb⟩) ∧ (now ≠ [] → pb = jq t now) ∧ (now = [] → pb = []) := by
  by_cases k : now = []
  ·exact ⟨[], by simp [k], fun h => absurd k h, fun _ => rfl⟩
  ·exact ⟨jq t now, by simp [k, sn.2 k], fun _ => rfl, fun h => absurd h k⟩
 rw [hpb.1]
 show (bif ((0 : Int) != 0) then _ else _) = _
 rw [show ((0 : Int) != 0) = false from rfl, cond_false]
 by_cases q3 : now ≠ [] ∧ old ≠ [] ∧ jq t old ≠ jq t now
 ·rw [if_pos q3]
  refine beE (x := (1, [], [], [])) ?_ rfl
  show Option.bind (some ()) _ = _
  rw [ah]
  show (bif (!(decide ((now.length : Int) > 0))) then _ else _) = _
  rw [emp, decide_eq_true q3.1, Bool.not_true, cond_false]
  refine bo (a := true) ?_ rfl
  show Option.bind (some ()) _ = _
  rw [ah]
  show (bif (decide ((old.length : Int) > 0)) then _ else _) = _
  rw [emp, av q3.2.1]
  show some (pa != pb) = _
  rw [hpa.2.1 q3.2.1, hpb.2.1 q3.1]
  congr 1
  simpa using q3.2.2
 rw [if_neg q3]
 have hpr : ∀ (hx : old ≠ [] ∨ now ≠ []), (Ms t old now).length ≤ 128 := by
  intro hx
  unfold Ms
  by_cases k : now = []
  ·rw [if_pos k]; exact wE (Fit.of (so.2 (by simpa [k] using hx))) r
  ·rw [if_neg k]; exact wE (Fit.of (sn.2 k)) r
 have hx : old ≠ [] ∨ now ≠ [] := by
  rw [not_or] at q
  by_cases k : old = []
  ·exact .inr fun k2 => q.2 ⟨k, k2⟩
  ·exact .inl k
 have hpr := hpr hx
 refine beY (y := Ms t old now) ?_ ?_
 ·show Option.bind (some ()) _ = _
  rw [ah]
  show (bif (!(decide ((now.length : Int) > 0))) then some (Sum.inl pa) else _) = _
  rw [emp]
  by_cases k : now = []
  ·have ho' : old ≠ [] := by simpa [k] using hx
   rw [decide_eq_false (by simpa using k), Bool.not_false, cond_true, hpa.2.1 ho', Ms, if_pos k]
  ·rw [decide_eq_true k, Bool.not_true, cond_false]
   refine bo (a := false) ?_ ?_
   ·show Option.bind (some ()) _ = _
    rw [ah]
    show (bif (decide ((old.length : Int) > 0)) then some (pa != pb) else _) = _
    rw [emp]
    by_cases k2 : old = []
    ·rw [aD (by simpa using k2)]
    ·rw [av k2, hpa.2.1 k2, hpb.2.1 k]
     congr 1
     have : jq t old = jq t now := Decidable.byContradiction fun h => q3 ⟨k, k2, h⟩
     simpa using this
   ·rw [cond_false]
    show some (Sum.inl pb) = _
    rw [hpb.2.1 k, Ms, if_neg k]
 generalize Ms t old now = p at hpr ⊢
 refine bo (a := ()) ?_ ?_
 ·unfold lQ
  rw [Cy _ (by omega), ah, av (by rw [bV]; simp only [List.length_cons, List.length_nil]; omega)]
 rw [Bu _ _ ho.1, ah]
 by_cases q4 : old = now
 ·rw [av q4, if_pos q4]; rfl
 rw [aD q4, if_neg q4]
 refine beY (y := [Mh t now p]) ?_ ?_
 ·show Option.bind (some ()) _ = _
  rw [ah]
  show (bif (decide ((now.length : Int) > 0)) then _ else _) = _
  rw [emp]
  by_cases k : now = []
  ·rw [aD (by simpa using k)]
   refine bo (a := ()) ?_ ?_
   ·unfold jE
    rw [av (by rw [bV]; simp only [List.length_cons, List.length_nil]; omega)]
   ·rw [Mh, if_pos k]; rfl
  ·rw [av k]
   have hf := Fit.of (sn.2 k)
   have e1 := vG hf
   have e2 := r.row
   rw [uH _ _ hc hn (fun _ => hf.short) (fun _ => by have := hf.num; rw [hf.len]; omega), if_neg (by simpa using sn.2 k), if_neg (by omega), ah]
   show (bif ((0 : Int) != 0) then _ else _) = _
   rw [show ((0 : Int) != 0) = false from rfl, cond_false]
   refine bo (a := ()) ?_ ?_
   ·unfold jE
    rw [av (by rw [bV]; simp only [List.length_cons, List.length_nil]; omega)]
   ·rw [Mh, if_neg k]; rfl
 rw [not_or] at q
 refine KA (w := YV t b old now p) (VG t b old now p pa pb ([Mh t now p], [rZ t.Tree p], []) hc r (by simpa using q.1) so sn (by simp) (by simp) (by simp) (fun i hi v => ?_) (fun v => ?_)) rfl
 ·have li := r.ixs
  show (bif _ then _ else _) = _
  rw [av (by omega), bM hi, bN (by omega)]
  rfl
 ·show (bif _ then _ else _) = _
  rw [aD (by omega)]
def toR (o : au) : aM := ⟨o.Kind, o.Tree, o.zw⟩
def toP (p : aX) : gW := ⟨p.Tree, p.Span⟩
theorem SH (k : List UInt8) (h : k.length ≤ 140737488351232) : qb k = some () := by
 unfold qb
 rw [av (by simp; omega)]
theorem amU {α : Type} [DecidableEq α] (a b : List α) (eq : α → α → Bool) (heq : ∀ x y, eq x y = decide (x = y)) (hl : a.length = b.length) {B : Int → Option (Int ⊕ (Unit ⊕ Bool))}
  (h : ∀ i (h1 : i < a.length) (h2 : i < b.length), B (i : Int) = some (if eq a[i] b[i] = true then .inl ((i + 1 : Nat) : Int) else .inr (.inr false))) (he : B (a.length : Int) = some (.inr (.inl ()))) :
  loop B 0 = some (if a = b then .inl () else .inr false) := by
 have z : (a.zip b).length = a.length := by simp [hl]
 refine (WC (a.zip b) (fun p => !eq p.1 p.2) (.inr false) (.inl ()) (fun i => (i : Int)) (fun i hi => ?_) ?_ rfl).trans ?_
 ·rw [h i (by omega) (by omega), List.getElem_zip]
  cases eq a[i] b[i] <;> rfl
 ·rw [z]; exact he
 ·have key : ((a.zip b).any fun p => !eq p.1 p.2) = !decide (a = b) := by
   by_cases q : a = b
   ·subst q
    rw [decide_eq_true rfl, Bool.not_true, List.any_eq_false]
    intro p hp
    obtain ⟨i, hi, rfl⟩ := List.mem_iff_getElem.1 hp
    rw [List.getElem_zip, heq]; simp
   ·rw [decide_eq_false q, Bool.not_false, List.any_eq_true]
    have : ∃ i, ∃ h1 : i < a.length, ∃ h2 : i < b.length, a[i] ≠ b[i] := Decidable.byContradiction fun hn => q (List.ext_getElem hl fun i h1 h2 => Decidable.byContradiction fun hne => hn ⟨i, h1, h2, hne⟩)
    obtain ⟨i, h1, h2, hne⟩ := this
    refine ⟨(a[i], b[i]), List.mem_iff_getElem.2 ⟨i, by omega, by rw [List.getElem_zip]⟩, ?_⟩
    rw [heq, decide_eq_false hne]; rfl
  rw [key]
  by_cases q : a = b <;> simp [q]
theorem acF (a b : ay) : nE a b = decide (a = b) := by
 cases a; cases b
 simp only [nE, ay.mk.injEq]
 rw [Bool.eq_iff_iff]
 rename_i s1 p1 o1 s2 p2 o2
 cases p1; cases p2
 simp [lS]
theorem Kk (a b : List ay) (h : a.length < 4611686018427387904) : rC a b = some (decide (a = b)) := by
 unfold rC
 rw [nat_ne]
 by_cases hl : a.length = b.length
 rotate_left
 ·rw [show (a.length != b.length) = true by simpa using hl, cond_true, decide_eq_false (fun e => hl (by rw [e]))]
 rw [show (a.length != b.length) = false by simpa using hl, cond_false]
 refine Lm (amU a b nE acF hl (fun i h1 h2 => ?_) ?_) (by by_cases q : a = b <;> simp [q])
 ·show (bif _ then _ else _) = _
  rw [av (by omega), bM h1, ah, bM h2, ah, bN (by omega)]
  cases nE a[i] b[i] <;> rfl
 ·show (bif _ then _ else _) = _
  rw [aD (by omega)]
theorem Pm (a : bL) : sN a a = true := by simp [sN]
theorem Nc (a : aU) : lS a a = true := by simp [lS]
theorem same_eq (o : List au) (l : List ay) (p : List aX) (h1 : o.length ≤ 1000) (h2 : l.length ≤ 1000) (h3 : p.length ≤ 1000) : su ⟨o, l, p⟩ ⟨o.map toR, l, p.map toP⟩ = some true := by
 unfold su
 refine bo (a := false) ?_ ?_
 ·show (bif ((o.length : Int) != ((o.map toR).length : Int)) then _ else Option.bind (rC l l) _) = _
  rw [nat_ne, List.length_map, show (o.length != o.length) = false by simp, cond_false, Kk _ _ (by omega), ah, decide_eq_true rfl]
  show some ((p.length : Int) != ((p.map toP).length : Int)) = _
  rw [nat_ne, List.length_map]; simp
 rw [cond_false]
 refine Lm (w := .inl ()) (Ey (fun i => (i : Int)) o.length (fun i hi => ?_) ?_ rfl) ?_
 ·have hg : bF (o.map toR) (i : Int) = some (toR o[i]) := by rw [nZ]; simp [hi]
  show (bif (decide ((i : Int) < (o.length : Int))) then Option.bind (Option.bind (bF o (i : Int)) fun v => Option.bind (bF (o.map toR) (i : Int)) _) _ else _) = _
  rw [av (by omega), bM hi, hg, bN (by omega)]
  refine bo (a := false) ?_ rfl
  simp only [ah]
  rw [show (o[i].Kind != (toR o[i]).Kind) = false by simp [toR], cond_false, show (o[i].Tree != (toR o[i]).Tree) = false by simp [toR], cond_false]
  show some (!sN o[i].zw o[i].zw) = _
  rw [Pm]; rfl
 ·show (bif (decide ((o.length : Int) < (o.length : Int))) then _ else _) = _
  rw [aD (by omega)]
 rw [Sum.elim_inl]
 refine Lm (w := .inl ()) (Ey (fun i => (i : Int)) p.length (fun i hi => ?_) ?_ rfl) rfl
 ·have hg : bF (p.map toP) (i : Int) = some (toP p[i]) := by rw [nZ]; simp [hi]
  show (bif (decide ((i : Int) < (p.length : Int))) then Option.bind (Option.bind (bF p (i : Int)) fun v => Option.bind (bF (p.map toP) (i : Int)) _) _ else _) = _
  rw [av (by omega), bM hi, hg, bN (by omega)]
  refine bo (a := false) ?_ rfl
  simp only [ah]
  rw [show (p[i].Tree != (toP p[i]).Tree) = false by simp [toP], cond_false]
  show some (!lS p[i].Span p[i].Span) = _
  rw [Nc]; rfl
 ·show (bif (decide ((p.length : Int) < (p.length : Int))) then _ else _) = _
  rw [aD (by omega)]
def tA : ApiTable := (ApiTable.mk ([97] : List UInt8) [(ApiColumn.mk ([105, 100] : List UInt8) (1 : Int) (0 : Int) false (ApiValue.mk (1 : Int) (0 : UInt64) ([] : List UInt8))), (ApiColumn.mk ([110] : List UInt8) (1 : Int) (0 : Int) false (ApiValue.mk (1 : Int) (0 : UInt64) ([] : List UInt8)))] [(0 : Int)] [(ApiIndex.mk ([120] : List UInt8) [(ApiPart.mk (1 : Int) false)] ([] : List Int) true true (3 : Int))] (2 : Int))
theorem Uj : Right tA := Right.of (by decide +kernel)
theorem Wh : qp = some true := by
 unfold qp
 rw [av (by decide)]
 have hc : uW tA.bq := ⟨by decide, by
  intro c hc
  simp only [tA, List.mem_cons, List.not_mem_nil, or_false] at hc
  rcases hc with rfl | rfl <;> exact ⟨by decide, by decide⟩⟩
 have hv : xS [(ApiValue.mk (1 : Int) (1 : UInt64) ([] : List UInt8)), (ApiValue.mk (1 : Int) (2 : UInt64) ([] : List UInt8))] := ⟨by decide, by
  intro c hc
  simp only [List.mem_cons, List.not_mem_nil, or_false] at hc
  rcases hc with rfl | rfl <;> decide⟩
 have e := I7 tA (List.replicate (1 : Int).toNat (FanBuilt.mk ([] : List UInt8) false)) [] _ hc Uj ⟨by decide, by simp⟩ hv
 refine bo e ?_
 have key : (Ni tA (List.replicate (1 : Int).toNat (FanBuilt.mk ([] : List UInt8) false)) [] [(ApiValue.mk (1 : Int) (1 : UInt64) ([] : List UInt8)), (ApiValue.mk (1 : Int) (2 : UInt64) ([] : List UInt8))]).1 = 0 ∧ (Ni tA (List.replicate (1 : Int).toNat (FanBuilt.mk ([] : List UInt8) false)) [] [(ApiValue.mk (1 : Int) (1 : UInt64) ([] : List UInt8)), (ApiValue.mk (1 : Int) (2 : UInt64) ([] : List UInt8))]).2.1.length = 2 ∧
  (Ni tA (List.replicate (1 : Int).toNat (FanBuilt.mk ([] : List UInt8) false)) [] [(ApiValue.mk (1 : Int) (1 : UInt64) ([] : List UInt8)), (ApiValue.mk (1 : Int) (2 : UInt64) ([] : List UInt8))]).2.2.1.length = 3 ∧ (Ni tA (List.replicate (1 : Int).toNat (FanBuilt.mk ([] : List UInt8) false)) [] [(ApiValue.mk (1 : Int) (1 : UInt64) ([] : List UInt8)), (ApiValue.mk (1 : Int) (2 : UInt64) ([] : List UInt8))]).2.2.2.length = 1 ∧
  ((Ni tA (List.replicate (1 : Int).toNat (FanBuilt.mk ([] : List UInt8) false)) [] [(ApiValue.mk (1 : Int) (1 : UInt64) ([] : List UInt8)), (ApiValue.mk (1 : Int) (2 : UInt64) ([] : List UInt8))]).2.1[1]?).map (·.Tree) = some 3 := by decide +kernel
 generalize Ni tA (List.replicate (1 : Int).toNat (FanBuilt.mk ([] : List UInt8) false)) [] [(ApiValue.mk (1 : Int) (1 : UInt64) ([] : List UInt8)), (ApiValue.mk (1 : Int) (2 : UInt64) ([] : List UInt8))] = w at key
 obtain ⟨a, o, l, p⟩ := w
 obtain ⟨h1, h2, h3, h4, h5⟩ := key
 simp only at h1 h2 h3 h4 h5
 show Option.bind (bif (a == 0) then bif ((o.length : Int) == 2) then bif ((l.length : Int) == 3) then bif ((p.length : Int) == 1) then _ else _ else _ else _ else _) _ = _
 rw [h1, h2, h3, h4]
 show Option.bind (Option.bind (bF o 1) _) _ = _
 rw [show bF o 1 = o[1]? from by simp [bF]]
 cases ho : o[1]? with
 | none => rw [ho] at h5; cases h5
 | some v =>
  rw [ho] at h5
  simp only [Option.map_some, Option.some.injEq] at h5
  rw [ah, h5, show ((3 : Int) == 3) = true from rfl, cond_true, Cy _ (by decide)]
  rfl
end Lv
namespace Lv
open Go Go.Proofs
variable [BaseTab]
variable [BaseTab]
end Lv
namespace Lv
open Go Go.Proofs
variable [BaseTab]
def num (l : List UInt8) : UInt64 := l.foldl (fun y b => lV y 8 ||| b.toUInt64) 0
theorem Mx (l : List UInt8) (b : UInt8) : num (l ++ [b]) = lV (num l) 8 ||| b.toUInt64 := by simp [num]
theorem Uo (y : UInt64) (b : UInt8) : lV y 8 + b.toUInt64 = lV y 8 ||| b.toUInt64 := by
 unfold lV
 rw [← UInt64.toNat_inj]
 have hb := b.toNat_lt
 have hy := y.toNat_lt
 rw [UInt64.toNat_add, UInt64.toNat_or, UInt64.toNat_ofNat']
 have e : y.toNat * 2 ^ 8 % 2 ^ 64 = (y.toNat % 2 ^ 56) <<< 8 := by rw [Nat.shiftLeft_eq]; omega
 rw [e, ← Nat.shiftLeft_add_eq_or_of_lt (by simpa using hb), Nat.shiftLeft_eq, UInt8.toNat_toUInt64, Nat.mod_eq_of_lt]
 omega
theorem BR (b : UInt8) : num [b] = b.toUInt64 := by
 show lV 0 8 ||| b.toUInt64 = _
 rw [show lV 0 8 = 0 from rfl]; simp
theorem BS {R : Type} (p : List UInt8) (off n : Nat) (hn : off + n ≤ p.length) (hp : p.length < 4611686018427387904) (w : UInt64 → R) :
    loop (Y := UInt64 × Int) (W := R) (fun (y80, Wz) =>
        bif (decide (Wz < (n : Int))) then
          Option.bind (qY p off n Wz) fun v89 =>
          some (Sum.inl (((lV y80 8) ||| (v89.toUInt64)), (bD (Wz + (1 : Int)))))
        else
          some (Sum.inr (w y80))) ((0 : UInt64), (0 : Int)) = some (w (num ((p.drop off).take n))) := by
  refine vO (B := (fun (y80, Wz) =>
        bif (decide (Wz < (n : Int))) then
          Option.bind (qY p off n Wz) fun v89 =>
          some (Sum.inl (((lV y80 8) ||| (v89.toUInt64)), (bD (Wz + (1 : Int)))))
        else
          some (Sum.inr (w y80)))) (fun i => (num ((p.drop off).take i), (i : Int))) n ?_ ?_
  · intro i hi
    show (bif _ then _ else _) = _
    have hlt : off + i < p.length := by omega
    have hg : qY p off n (i : Int) = some (p[off + i]'hlt) := by
      unfold qY
      rw [if_pos (by omega), Int.toNat_natCast, List.getElem?_eq_getElem hlt]
    rw [av (by omega), hg, ah, bN (by omega), ← Mx]
    congr 3
    rw [List.take_succ_eq_append_getElem (by simp; omega), List.getElem_drop]
  · show (bif _ then _ else _) = _
    rw [aD (by omega)]
theorem Mv (p : List UInt8) (k off len : Nat) (b : Bool) (hp : p.length < 4611686018427387904) (h : off + len ≤ p.length) (hk : k < 100) :
  dL k p off len b = some (if b = true ∨ len < k then (0, off, len, true) else (num ((p.drop off).take k), off + k, len - k, false)) := by
 unfold dL
 by_cases hb : b = true ∨ len < k
 ·have ht : fG (k : Int) p off len b = some (0, 0, off, len, true) := by
   unfold fG
   cases b with
   | true => rfl
   | false =>
    have : len < k := by simpa using hb
    rw [cond_false, ah, av (by omega)]; rfl
  rw [if_pos hb, ht, ah]
  have q := BS p 0 0 (by omega) hp (fun y => (y, off, len, true))
  show (Option.bind (Option.bind (loop _ ((0 : UInt64), (0 : Int))) _) _) = _
  rw [show (loop _ ((0 : UInt64), (0 : Int))) = _ from q]
  rfl
 ·have hbf : b = false := by cases b <;> simp_all
  subst hbf
  have hlk : ¬ len < k := by simpa using hb
  have ht : fG (k : Int) p off len false = some (off, k, off + k, len - k, false) := by
   unfold fG
   rw [cond_false, ah, aD (show ¬ ((len : Int) < (k : Int)) by omega), av (by omega), av (by omega), Int.toNat_natCast]
  rw [if_neg hb, ht, ah]
  have q := BS p off k (by omega) hp (fun y => (y, off + k, len - k, false))
  show (Option.bind (Option.bind (loop _ ((0 : UInt64), (0 : Int))) _) _) = _
  rw [show (loop _ ((0 : UInt64), (0 : Int))) = _ from q]
  rfl
theorem number_eq (p : List UInt8) (hp : p.length < 4611686018427387904) : kQ (1 : Int) p false = some (if p.length < 1 then (0, 0, p.length, true) else (num (p.take 1), 1, p.length - 1, false)) := by
 unfold kQ
 by_cases hb : p.length < 1
 ·have ht : jK (1 : Int) p false = some (0, 0, p.length, true) := by
   unfold jK
   rw [cond_false, ah, av (by omega)]; rfl
  rw [if_pos hb, ht, ah]
  have q := BS p 0 0 (by omega) hp (fun y => (y, 0, p.length, true))
  show (Option.bind (Option.bind (loop _ ((0 : UInt64), (0 : Int))) _) _) = _
  rw [show (loop _ ((0 : UInt64), (0 : Int))) = _ from q]
  rfl
 ·have ht : jK (1 : Int) p false = some (1, 1, p.length - 1, false) := by
   unfold jK
   rw [cond_false, ah, aD (show ¬ ((p.length : Int) < 1) by omega), av (by omega), av (by omega)]; rfl
  rw [if_neg hb, ht, ah]
  have q := BS p 0 1 (by omega) hp (fun y => (y, 1, p.length - 1, false))
  show (Option.bind (Option.bind (loop _ ((0 : UInt64), (0 : Int))) _) _) = _
  rw [show (loop _ ((0 : UInt64), (0 : Int))) = _ from q]
  rfl
theorem SK (k : Nat) (p : List UInt8) (pos : Nat) (b : Bool) (hp : p.length < 1073741824) (h : pos ≤ p.length) (hk : k < 100) :
  eU k p pos b = some (if b = true ∨ p.length - pos < k then (0, (pos : Int), true) else (num ((p.drop pos).take k), ((pos + k : Nat) : Int), false)) := by
 unfold eU
 cases b with
 | true => rfl
 | false =>
  rw [cond_false, show fV p pos false = some () from rfl, ah, ah, dA (n := (p.length : Int) - pos) (by omega) (by omega)]
  by_cases hl : p.length - pos < k
  ·rw [if_pos (.inr hl), av (by omega)]
  ·rw [if_neg (by simpa using hl), aD (by omega)]
   have q := vO (B := (fun (y63, WK) =>
     bif (decide (WK < (k : Int))) then
      Option.bind (bF p (bD ((pos : Int) + WK))) fun v72 =>
      some (Sum.inl (((lV y63 8) + (v72.toUInt64)), (bD (WK + (1 : Int)))))
     else
      some (Sum.inr y63))) (fun i => (num ((p.drop pos).take i), (i : Int))) k (w := num ((p.drop pos).take k)) ?_ ?_
   ·rw [show (loop _ ((0 : UInt64), (0 : Int))) = _ from q, ah, ah, dA (n := (pos : Int) + k) (by omega) (by omega)]
    rfl
   ·intro i hi
    show (bif _ then _ else _) = _
    have hlt : pos + i < p.length := by omega
    rw [av (by omega), dA (n := (pos : Int) + i) (by omega) (by omega), show (pos : Int) + (i : Int) = ((pos + i : Nat) : Int) by omega, bM hlt, ah, bN (by omega), Uo, ← Mx]
    congr 3
    rw [List.take_succ_eq_append_getElem (by simp; omega), List.getElem_drop]
   ·show (bif _ then _ else _) = _
    rw [aD (by omega)]
theorem Kv (l : List UInt8) : ∀ y : UInt64, (l.foldl (fun y b => lV y 8 ||| b.toUInt64) y).toNat = (y.toNat * 256 ^ l.length + l.foldl (fun a b => a * 256 + b.toNat) 0) % 18446744073709551616 := by
 have fold : ∀ (l : List UInt8) (a : Nat), l.foldl (fun a b => a * 256 + b.toNat) a = a * 256 ^ l.length + l.foldl (fun a b => a * 256 + b.toNat) 0 := by
  intro l
  induction l with
  | nil => intro a; simp
  | cons b l ih =>
   intro a
   rw [List.foldl_cons, List.foldl_cons, ih, ih (0 * 256 + b.toNat), List.length_cons, Nat.pow_succ]
   rw [Nat.add_mul, Nat.zero_mul, Nat.zero_add, Nat.mul_assoc, Nat.mul_comm 256 (256 ^ l.length), Nat.add_assoc]
 induction l with
 | nil =>
  intro y
  have := y.toNat_lt
  simp
 | cons b l ih =>
  intro y
  rw [List.foldl_cons, ih, List.foldl_cons, fold l (0 * 256 + b.toNat), ← Uo]
  have h : (lV y 8 + b.toUInt64).toNat = (y.toNat * 256 + b.toNat) % 18446744073709551616 := by
   unfold lV
   rw [UInt64.toNat_add, UInt64.toNat_ofNat', UInt8.toNat_toUInt64]
   omega
  rw [h, List.length_cons, Nat.pow_succ, Nat.zero_mul, Nat.zero_add]
  rw [← Nat.add_assoc, Nat.add_mod, Nat.mul_mod, Nat.mod_mod, ← Nat.mul_mod, ← Nat.add_mod]
  congr 2
  rw [Nat.add_mul, Nat.mul_assoc, Nat.mul_comm 256 (256 ^ l.length)]
theorem MH (n : UInt64) : ∀ k, (bH n k).foldl (fun a b => a * 256 + b.toNat) 0 = n.toNat % 256 ^ k := by
 have fold : ∀ (l : List UInt8) (a : Nat), l.foldl (fun a b => a * 256 + b.toNat) a = a * 256 ^ l.length + l.foldl (fun a b => a * 256 + b.toNat) 0 := by
  intro l
  induction l with
  | nil => intro a; simp
  | cons b l ih =>
   intro a
   rw [List.foldl_cons, List.foldl_cons, ih, ih (0 * 256 + b.toNat), List.length_cons, Nat.pow_succ]
   rw [Nat.add_mul, Nat.zero_mul, Nat.zero_add, Nat.mul_assoc, Nat.mul_comm 256 (256 ^ l.length), Nat.add_assoc]
 intro k
 induction k with
 | zero => simp [bH, Nat.mod_one]
 | succ k ih =>
  rw [bH, List.foldl_cons, fold, bQ, ih, Nat.zero_mul, Nat.zero_add, UInt8.toNat_ofNat']
  have e : (2 : Nat) ^ (8 * k) = 256 ^ k := by rw [Nat.pow_mul]
  have e2 : n.toNat % 256 ^ (k + 1) = n.toNat % 256 ^ k + 256 ^ k * (n.toNat / 256 ^ k % 256) := by rw [Nat.pow_succ, Nat.mod_mul]
  rw [e2, e, show (2 : Nat) ^ 8 = 256 from rfl, Nat.mul_comm, Nat.add_comm]
theorem GA (n : UInt64) : num (bH n 8) = n := by
 have := n.toNat_lt
 rw [← UInt64.toNat_inj]
 unfold num
 rw [Kv, MH]
 have e : (0 : UInt64).toNat = 0 := rfl
 rw [e]
 omega
theorem LQ {v : ApiValue} (h : val v = true) (k : v.Kind = 0) : v = ⟨0, 0, []⟩ := by
 unfold val at h
 obtain ⟨K, N, S⟩ := v
 simp only at k
 subst k
 simp only [Bool.or_eq_true, Bool.and_eq_true, beq_iff_eq, decide_eq_true_eq] at h
 have : N = 0 ∧ S = [] := by
  rcases h with (((⟨_, h⟩ | ⟨h, _⟩) | ⟨h, _⟩) | ⟨h, _⟩) | ⟨h, _⟩
  ·exact h
  ·omega
  ·omega
  ·omega
  ·omega
 rw [this.1, this.2]
theorem Bg {v : ApiValue} (h : val v = true) (k : v.Kind = 1 ∨ v.Kind = 2 ∨ v.Kind = 3) : v.S = [] ∧ (v.Kind = 3 → v.N.toNat < 2) := by
 unfold val at h
 simp only [Bool.or_eq_true, Bool.and_eq_true, beq_iff_eq, decide_eq_true_eq, UInt64.lt_iff_toNat_lt] at h
 have e : (2 : UInt64).toNat = 2 := rfl
 rw [e] at h
 rcases h with (((⟨h, _⟩ | ⟨h, h2⟩) | ⟨h, h1, h2⟩) | ⟨h, _⟩) | ⟨h, _⟩
 ·omega
 ·exact ⟨h2, fun _ => by omega⟩
 ·exact ⟨h2, fun _ => h1⟩
 ·omega
 ·omega
theorem Qc {v : ApiValue} (h : val v = true) (k : v.Kind = 4 ∨ v.Kind = 5) : v.N = 0 := by
 unfold val at h
 simp only [Bool.or_eq_true, Bool.and_eq_true, beq_iff_eq, decide_eq_true_eq] at h
 rcases h with (((⟨h, _⟩ | ⟨h, _⟩) | ⟨h, _⟩) | ⟨h, h2, _⟩) | ⟨h, h2, _⟩
 ·omega
 ·omega
 ·omega
 ·exact h2
 ·exact h2
theorem Qy {α : Type} {p : List α} {off : Nat} {x : α} {r : List α} (h : p.drop off = x :: r) : off < p.length := by
 have := congrArg List.length h
 simp at this
 omega
theorem aae {α : Type} {p : List α} {off : Nat} {x : α} {r : List α} (h : p.drop off = x :: r) : p[off]? = some x := by
 have := congrArg (fun l => l[0]?) h
 simpa using this
theorem uz {α : Type} {p : List α} {off : Nat} {x : α} {r : List α} (h : p.drop off = x :: r) : p.drop (off + 1) = r := by
 have := congrArg List.tail h
 simpa [List.tail_drop] using this
theorem KV {α : Type} {p : List α} {off : Nat} {a r : List α} (h : p.drop off = a ++ r) (ha : off ≤ p.length) : off + a.length + r.length = p.length := by
 have := congrArg List.length h
 simp at this
 omega
theorem FD {α : Type} {p : List α} {off : Nat} {x : α} {r : List α} (h : p.drop off = x :: r) : bF p (off : Int) = some x := by
 rw [nZ, aae h]
theorem KW {α : Type} {p : List α} {off len : Nat} {x : α} {r : List α} (i : Nat) (h : p.drop (off + i) = x :: r) (hl : i < len) : qY p off len (i : Int) = some x := by
 unfold qY
 rw [if_pos (by omega), Int.toNat_natCast, aae h]
theorem Uh (k off len : Nat) (p : List UInt8) (hk : k ≤ len) : fG (k : Int) p off len false = some (off, k, off + k, len - k, false) := by
 unfold fG
 rw [cond_false, ah, aD (show ¬ ((len : Int) < (k : Int)) by omega), av (by omega), av (by omega), Int.toNat_natCast]
theorem Ao (p : List UInt8) (k off len : Nat) (b r : List UInt8) (hp : p.length < 1073741824) (h : p.drop off = b ++ r) (ho : off ≤ p.length) (hl : len = p.length - off) (hk : b.length = k) (hk2 : k < 100) :
  dL (k : Int) p off len false = some (num b, off + k, len - k, false) := by
 have e := KV h ho
 rw [Mv p k off len false (by omega) (by omega) hk2, if_neg (by simp; omega), h, ← hk, List.take_left]
theorem NR (p : List UInt8) (off len : Nat) (f : UInt8) (r : List UInt8) (hp : p.length < 1073741824) (h : p.drop off = f :: r) (hl : len = p.length - off) (hf : f = 0 ∨ f = 1) :
  kR p off len false = some (f == 1, off + 1, len - 1, false) := by
 have lt := Qy h
 unfold kR
 refine bo (a := false) ?_ ?_
 ·rw [av (by omega), show qY p off len (0 : Int) = some f from KW 0 h (by omega), ah]
  rcases hf with rfl | rfl <;> rfl
 ·rw [cond_false, show dL (1 : Int) p off len false = _ from Ao p 1 off len [f] r hp h (by omega) hl rfl (by omega), ah, BR]
  rcases hf with rfl | rfl <;> rfl
theorem aes {n : Nat} (h : n ≤ 64) : (jS (n : Int)).toNat = n := by
 unfold jS
 rw [UInt64.toNat_ofNat']
 omega
theorem aeD {n : Nat} (h : n ≤ 64) : bH (jS (n : Int)) 2 = [0, UInt8.ofNat n] := by
 show [UInt8.ofNat ((jS (n : Int)).toNat / 2 ^ (8 * 1)), UInt8.ofNat ((jS (n : Int)).toNat / 2 ^ (8 * 0))] = _
 rw [aes h, show n / 2 ^ (8 * 1) = 0 by omega, show n / 2 ^ (8 * 0) = n by simp]
 rfl
theorem al0 : ∀ n : _root_.Fin 65, orI (bD (((0 : UInt8).toNat : Int) * 2 ^ min ((8 : UInt64).toNat : Int).toNat 64)) ((UInt8.ofNat n.val).toNat : Int) = (n.val : Int) := by decide +kernel
theorem XM (p : List UInt8) (off len n : Nat) (r : List UInt8) (h : p.drop off = 0 :: UInt8.ofNat n :: r) (hl : 2 ≤ len) (hn : n ≤ 64) : lI p off len false = some (n : Int) := by
 unfold lI
 rw [show qY p off len (0 : Int) = some 0 from KW 0 h (by omega), ah, show qY p off len (1 : Int) = some (UInt8.ofNat n) from KW 1 (uz h) (by omega), ah, al0 ⟨n, by omega⟩]
theorem Yk (p : List UInt8) (off len : Nat) (s r : List UInt8) (hp : p.length < 1073741824) (h : p.drop off = (bH (jS s.length) 2 ++ s) ++ r) (ho : off ≤ p.length) (hl : len = p.length - off) (hs : s.length ≤ 64) :
  nY p off len false = some (s, off + (2 + s.length), len - (2 + s.length), false) := by
 have e := KV h ho
 rw [List.length_append, bQ] at e
 rw [aeD hs] at h
 have h0 : p.drop off = 0 :: UInt8.ofNat s.length :: (s ++ r) := h
 have h2 : p.drop (off + 2) = s ++ r := uz (uz h0)
 unfold nY
 have lg := XM p off len s.length (s ++ r) h0 (by omega) hs
 refine bo (a := false) ?_ ?_
 ·rw [cond_false, aD (by omega), lg, ah, dA (n := (2 : Int) + s.length) (by omega) (by omega)]
  simp
  omega
 ·rw [cond_false, lg, ah, dA (n := (2 : Int) + s.length) (by omega) (by omega), show (2 : Int) + (s.length : Int) = ((2 + s.length : Nat) : Int) by omega, Uh _ _ _ _ (by omega), ah]
  show (bif _ then _ else _) = _
  rw [av (by omega), av (by simp; omega)]
  have e2 : (2 : Int).toNat = 2 := rfl
  rw [e2, h2, show 2 + s.length - 2 = s.length by omega, List.take_left]
theorem aer {n : UInt64} (h : n.toNat < 2) : n.toUInt8.toUInt64.toUInt8.toUInt64 = n := by
 rw [← UInt64.toNat_inj]
 simp
 omega
theorem aaP {n : UInt64} (h : n.toNat < 2) : n.toUInt8.toUInt64 = n := by
 rw [← UInt64.toNat_inj]
 simp
 omega
theorem Em (k : Int) (p : List UInt8) (off len : Nat) (v : ApiValue) (r : List UInt8) (hp : p.length < 1073741824) (h : p.drop off = fP v ++ r) (ho : off ≤ p.length) (hl : len = p.length - off) (hv : val v = true) (hk : v.Kind = 0 ∨ v.Kind = k) (hs : v.S.length ≤ 64) :
  vE k p off len false = some (off + (fP v).length, len - (fP v).length, false, v) := by
 unfold vE
 by_cases k0 : v.Kind = 0
 ·have e : fP v = [1] := by unfold fP; rw [if_pos k0]
  rw [e] at h ⊢
  rw [NR p off len 1 r hp h hl (.inr rfl), ah, LQ hv k0]
  rfl
 obtain rfl : k = v.Kind := (hk.resolve_left k0).symm
 have kk := JO hv
 have e : fP v = 0 :: (if v.Kind = 1 ∨ v.Kind = 2 then bH v.N 8 else if v.Kind = 3 then bH v.N 1 else if v.Kind = 4 ∨ v.Kind = 5 then bH (jS v.S.length) 2 ++ v.S else []) := by unfold fP; rw [if_neg k0]
 have el : (fP v).length = 1 + (if v.Kind = 1 ∨ v.Kind = 2 then bH v.N 8 else if v.Kind = 3 then bH v.N 1 else if v.Kind = 4 ∨ v.Kind = 5 then bH (jS v.S.length) 2 ++ v.S else []).length := by rw [e, List.length_cons]; omega
 rw [el]
 rw [e, List.cons_append] at h
 have h2 := uz h
 have lt := Qy h
 rw [NR p off len 0 _ hp h hl (.inl rfl), ah]
 show Option.bind _ _ = _
 by_cases c12 : v.Kind = 1 ∨ v.Kind = 2
 ·rw [if_pos c12] at h2 ⊢
  rw [bQ]
  refine bo (a := (off + (1 + 8), len - (1 + 8), false, v)) ?_ rfl
  refine bo (k12 v) ?_
  rw [decide_eq_true c12, cond_true]
  unfold tY
  rw [show dL (8 : Int) p (off + 1) (len - 1) false = _ from Ao p 8 (off + 1) (len - 1) _ r hp h2 (by omega) (by omega) (bQ _ _) (by omega), ah, ah, GA]
  have n := (Bg hv (by omega)).1
  obtain ⟨K, N, S⟩ := v
  simp only at n
  subst n
  show some _ = some _
  rw [Nat.add_assoc, Nat.sub_sub]
 rw [if_neg c12] at h2 ⊢
 by_cases c3 : v.Kind = 3
 ·rw [if_pos c3] at h2 ⊢
  rw [bQ]
  refine bo (a := (off + (1 + 1), len - (1 + 1), false, v)) ?_ rfl
  refine bo (k12 v) ?_
  rw [decide_eq_false c12, cond_false, show (v.Kind == 3) = true by simpa using c3, cond_true]
  unfold wF
  rw [show dL (1 : Int) p (off + 1) (len - 1) false = _ from Ao p 1 (off + 1) (len - 1) _ r hp h2 (by omega) (by omega) (bQ _ _) (by omega), ah, ah, UW, BR]
  have n := Bg hv (by omega)
  obtain ⟨K, N, S⟩ := v
  obtain ⟨n1, n2⟩ := n
  simp only at n1 n2 c3
  subst n1
  show some (off + 1 + 1, len - 1 - 1, false, (⟨K, N.toUInt8.toUInt64.toUInt8.toUInt64, []⟩ : ApiValue)) = some _
  rw [aer (n2 c3), Nat.add_assoc, Nat.sub_sub]
 rw [if_neg c3] at h2 ⊢
 have c45 : v.Kind = 4 ∨ v.Kind = 5 := by omega
 rw [if_pos c45] at h2 ⊢
 rw [List.length_append, bQ]
 refine bo (a := (off + (1 + (2 + v.S.length)), len - (1 + (2 + v.S.length)), false, v)) ?_ rfl
 refine bo (k12 v) ?_
 rw [decide_eq_false c12, cond_false, show (v.Kind == 3) = false by simpa using c3, cond_false, Yk p (off + 1) (len - 1) v.S r hp h2 (by omega) (by omega) hs, ah]
 have n := Qc hv c45
 obtain ⟨K, N, S⟩ := v
 simp only at n
 subst n
 show some _ = some _
 rw [Nat.add_assoc, Nat.sub_sub]
def jM (l : List ApiValue) (i : Nat) : Nat := 1 + (((l.take i).map fP).flatten).length
theorem Dq (l : List ApiValue) : jM l 0 = 1 := by simp [jM]
theorem Dr (l : List ApiValue) (i : Nat) (hi : i < l.length) : jM l (i + 1) = jM l i + (fP l[i]).length := by
 unfold jM
 rw [uT _ _ hi, List.flatten_append, List.length_append]
 simp
 omega
theorem BD (l : List ApiValue) (i : Nat) (hi : i < l.length) : dV l = (bH (jS l.length) 1 ++ ((l.take i).map fP).flatten) ++ (fP l[i] ++ ((l.drop (i + 1)).map fP).flatten) := by
 unfold dV
 rw [List.append_assoc]
 congr 1
 have e : l.map fP = (l.take i).map fP ++ (fP l[i] :: (l.drop (i + 1)).map fP) := by
  rw [← List.map_cons, ← List.drop_eq_getElem_cons hi, ← List.map_append, List.take_append_drop]
 rw [e, List.flatten_append, List.flatten_cons]
theorem BP (l : List ApiValue) (i : Nat) : jM l i = (bH (jS l.length) 1 ++ ((l.take i).map fP).flatten).length := by
 rw [List.length_append, bQ, jM]
theorem C9 (l : List ApiValue) (i : Nat) (hi : i < l.length) : (dV l).drop (jM l i) = fP l[i] ++ ((l.drop (i + 1)).map fP).flatten := by
 rw [BP, BD l i hi, List.drop_left]
theorem BQ (l : List ApiValue) : jM l l.length = (dV l).length := by
 rw [BP, List.take_length]; rfl
theorem Fz (l : List ApiValue) (i : Nat) (hi : i ≤ l.length) : jM l i ≤ (dV l).length := by
 by_cases h : i < l.length
 ·rw [BD l i h, BP, List.length_append (bs := fP l[i] ++ _)]; omega
 ·obtain rfl : i = l.length := by omega
  rw [BQ]; omega
theorem Jk {l : List ApiValue} (h : l.length ≤ 64) : dV l = UInt8.ofNat l.length :: (l.map fP).flatten := by
 unfold dV
 rw [UW]
 show (jS (l.length : Int)).toUInt8 :: _ = _
 congr 1
 rw [← UInt8.toNat_inj]
 have := aes h
 simp
 omega
theorem oK {bf : List ApiColumn} {l : List ApiValue} (hf : Fit bf l) : (dV l).length ≤ 2000 := by
 have f := yS hf.short
 have n := hf.num
 have e := hf.len
 unfold dV
 rw [List.length_append, bQ]
 omega
theorem u8n {n : Nat} (h : n ≤ 64) : ((UInt8.ofNat n).toNat : Int) = n := by
 simp
 omega
theorem aak {p : List UInt8} (h : p.length ≤ 2000) : zf p = some () := by
 unfold zf
 rw [av (by rw [bV]; omega)]
theorem Wp {bf : List ApiColumn} {l : List ApiValue} (hf : Fit bf l) : lJ (dV l) false = some (UInt8.ofNat l.length, 1, (dV l).length - 1, false) := by
 have b := oK hf
 have n := hf.num
 have e := hf.len
 have h := Jk (l := l) (by omega)
 have hl : ¬ (dV l).length < 1 := by rw [h]; simp
 unfold lJ
 rw [number_eq _ (by omega), if_neg hl, ah]
 have t : (dV l).take 1 = [UInt8.ofNat l.length] := by rw [h]; rfl
 rw [t, BR]
 show some ((UInt8.ofNat l.length).toUInt64.toUInt8, _, _, _) = _
 rw [show (UInt8.ofNat l.length).toUInt64.toUInt8 = UInt8.ofNat l.length from UInt8.toNat_inj.1 (by simp)]
theorem Mf {bf : List ApiColumn} {l : List ApiValue} (hf : Fit bf l) : yj bf (dV l) = some (true, l) := by
 have b := oK hf
 have n := hf.num
 have e := hf.len
 unfold yj
 rw [aak b, ah, Wp hf, ah]
 show Option.bind _ _ = _
 rw [u8n (by omega)]
 have tk : List.take ((l.length : Int)).toNat bf = bf := by rw [Int.toNat_natCast, e, List.take_length]
 rw [tk]
 refine bo (a := false) ?_ ?_
 ·rw [aD (by omega)]
  congr 1
  simp
  omega
 rw [cond_false]
 refine beY (y := (l, (dV l).length, 0, false)) ?_ ?_
 ·rw [av (by omega)]
  refine afo (w := .inl (l, (dV l).length, 0, false)) (Ey (fun i => ((i : Int), l.take i, jM l i, (dV l).length - jM l i, false)) l.length (fun i hi => ?_) ?_ (by rw [Dq]; rfl)) rfl
  ·have hi2 : i < bf.length := by omega
   have fi := hf.fit i hi2 hi
   have ok := wQ fi
   have le := Fz l i (by omega)
   show (bif _ then _ else _) = _
   rw [av (by omega), bM hi2, ah, show jL (dV l) (jM l i) ((dV l).length - jM l i) false = some () from rfl, ah,
    Em bf[i].Kind (dV l) (jM l i) _ l[i] _ (by omega) (C9 l i hi) le rfl ok.1 ok.2.1 (hf.short _ (List.getElem_mem hi)), ah]
   refine bo (a := false) ?_ ?_
   ·refine bo (a := ()) rfl ?_
    rw [cond_false, pI _ _ (by have := hf.short _ (List.getElem_mem hi); omega), ah, fi]
    rfl
   ·rw [cond_false]
    have dl : (l.take i).length ≤ 24 := by simp; omega
    refine bo (a := ()) ?_ ?_
    ·unfold nQ
     rw [av (by rw [bV]; simp only [List.length_cons, List.length_nil]; omega)]
    ·rw [bN (by omega), Dr l i hi, List.take_succ_eq_append_getElem hi, Nat.sub_sub]
  ·show (bif _ then _ else _) = _
   rw [aD (by omega), List.take_length, BQ, Nat.sub_self]
 ·show Option.bind (lK (dV l) (dV l).length 0 false) _ = _
  rfl
theorem zQ {bf : List ApiColumn} {l : List ApiValue} (hc : uW bf) (hf : Fit bf l) (h5 : (dV l).length ≤ 512) : mQ bf (dV l) = some (l, 0) := by
 have e := hf.len
 have n := hf.num
 unfold mQ
 rw [yw bf hc, ah, hf.rc, Bool.not_true, cond_false]
 refine bo (a := (false, l)) ?_ ?_
 ·rw [aD (by omega), Mf hf, ah]; rfl
 ·show (bif false then _ else _) = _
  rw [cond_false]
  refine bo (a := l) ?_ rfl
  rw [av (by omega)]
  have dk : List.drop ((l.length : Int)).toNat bf = [] := by rw [Int.toNat_natCast, e, List.drop_length]
  rw [dk]
  show Option.bind (loop _ _) _ = _
  refine bo (a := l) (Ey (fun i => ((i : Int), l)) 0 (fun i hi => absurd hi (by omega)) ?_ rfl) rfl
  show (bif _ then _ else _) = _
  rw [aD (by simp)]
theorem PW (v : ApiValue) (left : Int) (i c : Int) (p : List UInt8) (pl : Int) : p9 v left i c p pl = some (if i = c ∧ (v.Kind = 1 ∨ v.Kind = 2) then bD (bD ((p.length : Int) - left) + 1) else pl) := by
 unfold p9
 refine bo ?_ rfl
 refine bo (a := decide (i = c ∧ (v.Kind = 1 ∨ v.Kind = 2))) ?_ ?_
 ·by_cases h : i = c
  ·rw [show (i == c) = true by simpa using h, cond_true]
   by_cases h1 : v.Kind = 1
   ·rw [show (v.Kind == 1) = true by simpa using h1, cond_true]; simp [h, h1]
   ·rw [show (v.Kind == 1) = false by simpa using h1, cond_false]; simp [h, h1, Bool.beq_eq_decide_eq]
  ·rw [show (i == c) = false by simpa using h, cond_false]; simp [h]
 ·by_cases h : i = c ∧ (v.Kind = 1 ∨ v.Kind = 2)
  ·rw [decide_eq_true h, cond_true, if_pos h]
  ·rw [decide_eq_false h, cond_false, if_neg h]
theorem J8 {bf : List ApiColumn} {l : List ApiValue} (hf : Fit bf l) (c : Nat) (hc : c < l.length) (hk : l[c].Kind = 1 ∨ l[c].Kind = 2) : rQ bf (dV l) 0 (c : Int) (dV l) 0 = some (true, (l.length : Int), ((jM l c + 1 : Nat) : Int)) := by
 have b := oK hf
 have n := hf.num
 have e := hf.len
 unfold rQ
 rw [aak b, ah, Wp hf, ah]
 show Option.bind _ _ = _
 rw [u8n (by omega)]
 have tk : List.take ((l.length : Int)).toNat bf = bf := by rw [Int.toNat_natCast, e, List.take_length]
 rw [tk]
 refine bo (a := false) ?_ ?_
 ·rw [aD (by omega)]
  congr 1
  simp
  omega
 rw [cond_false]
 refine beY (y := ((l.length : Int), ((jM l c + 1 : Nat) : Int), (dV l).length, 0, false)) ?_ ?_
 ·rw [av (by omega)]
  refine afo (w := .inl ((l.length : Int), ((jM l c + 1 : Nat) : Int), (dV l).length, 0, false)) (Ey (fun i => ((i : Int), (i : Int), (if c < i then ((jM l c + 1 : Nat) : Int) else 0), jM l i, (dV l).length - jM l i, false)) l.length (fun i hi => ?_) ?_ (by rw [Dq, if_neg (by omega)]; rfl)) rfl
  ·have hi2 : i < bf.length := by omega
   have fi := hf.fit i hi2 hi
   have ok := wQ fi
   have le := Fz l i (by omega)
   show (bif _ then _ else _) = _
   rw [av (by omega), bM hi2, ah, show jL (dV l) (jM l i) ((dV l).length - jM l i) false = some () from rfl, ah,
    Em bf[i].Kind (dV l) (jM l i) _ l[i] _ (by omega) (C9 l i hi) le rfl ok.1 ok.2.1 (hf.short _ (List.getElem_mem hi)), ah]
   refine bo (a := false) ?_ ?_
   ·refine bo (a := ()) rfl ?_
    rw [cond_false, pI _ _ (by have := hf.short _ (List.getElem_mem hi); omega), ah, fi]
    rfl
   ·rw [cond_false, PW, ah, bN (by omega), Dr l i hi, Nat.sub_sub]
    congr 4
    by_cases q : i = c
    ·subst q
     rw [if_pos ⟨rfl, hk⟩, if_pos (by omega)]
     rw [show ((dV l).length : Int) - (((dV l).length - jM l i : Nat) : Int) = (jM l i : Int) by omega, dA (n := (jM l i : Int)) (by omega) (by omega), dA (by omega) (by omega)]
     rfl
    ·rw [if_neg (fun h => q (by omega))]
     by_cases q2 : c < i
     ·rw [if_pos q2, if_pos (by omega)]
     ·rw [if_neg q2, if_neg (by omega)]
  ·show (bif _ then _ else _) = _
   rw [aD (by omega), BQ, Nat.sub_self, if_pos hc]
 ·show Option.bind (lK (dV l) (dV l).length 0 false) _ = _
  rfl
theorem J9 {bf : List ApiColumn} {l : List ApiValue} (ho : uW bf) (hf : Fit bf l) (h5 : (dV l).length ≤ 512) (c : Nat) (hc : c < l.length) (hk : l[c].Kind = 1 ∨ l[c].Kind = 2) : rz bf (dV l) (c : Int) = some (((jM l c + 1 : Nat) : Int), 0) := by
 have e := hf.len
 unfold rz
 rw [zQ ho hf h5, ah]
 show (bif false then _ else _) = _
 rw [cond_false]
 refine bo (a := false) ?_ ?_
 ·rw [aD (by omega)]
  congr 1
  simp
  omega
 ·rw [cond_false, J8 hf c hc hk, ah]
  show (bif (((jM l c + 1 : Nat) : Int) == 0) then _ else _) = _
  rw [show ((((jM l c + 1 : Nat) : Int)) == 0) = false by simp; omega, cond_false]
theorem NP (p : List UInt8) (pos : Nat) (f : UInt8) (r : List UInt8) (hp : p.length < 1073741824) (h : p.drop pos = f :: r) (hf : f = 0 ∨ f = 1) :
  j3 p (pos : Int) false = some (f == 1, ((pos + 1 : Nat) : Int), false) := by
 have lt := Qy h
 unfold j3
 refine bo (a := false) ?_ ?_
 ·rw [cond_false, show fV p pos false = some () from rfl, ah, dA (n := (p.length : Int) - pos) (by omega) (by omega), aD (by omega), FD h, ah]
  rcases hf with rfl | rfl <;> rfl
 ·rw [cond_false, dA (n := (pos : Int) + 1) (by omega) (by omega), show (pos : Int) + 1 - 1 = (pos : Int) by omega, dA (n := (pos : Int)) (by omega) (by omega), FD h, ah]
  rfl
theorem Ld (p : List UInt8) (k pos : Nat) (b r : List UInt8) (hp : p.length < 1073741824) (h : p.drop pos = b ++ r) (ho : pos ≤ p.length) (hk : b.length = k) (hk2 : k < 100) :
  eU (k : Int) p (pos : Int) false = some (num b, ((pos + k : Nat) : Int), false) := by
 have e := KV h ho
 rw [SK k p pos false hp ho hk2, if_neg (by simp; omega), h, ← hk, List.take_left]
theorem afm : ∀ n : _root_.Fin 65, bD ((bD (((0 : UInt8).toNat : Int) * 256)) + ((UInt8.ofNat n.val).toNat : Int)) = (n.val : Int) := by decide +kernel
theorem Wq (p : List UInt8) (pos : Nat) (s r : List UInt8) (hp : p.length < 1073741824) (h : p.drop pos = (bH (jS s.length) 2 ++ s) ++ r) (ho : pos ≤ p.length) (hs : s.length ≤ 64) :
  jZ p (pos : Int) false = some (s, ((pos + (2 + s.length) : Nat) : Int), false) := by
 have e := KV h ho
 rw [List.length_append, bQ] at e
 rw [aeD hs] at h
 have h0 : p.drop pos = 0 :: UInt8.ofNat s.length :: (s ++ r) := h
 have h2 : p.drop (pos + 2) = s ++ r := uz (uz h0)
 have w0 : bD ((p.length : Int) - pos) = ((p.length - pos : Nat) : Int) := by rw [dA (by omega) (by omega)]; omega
 have w1 : bD ((pos : Int) + 1) = ((pos + 1 : Nat) : Int) := by rw [dA (by omega) (by omega)]; omega
 have w2 : bD ((2 : Int) + (s.length : Int)) = ((2 + s.length : Nat) : Int) := by rw [dA (by omega) (by omega)]; omega
 have w3 : bD ((pos : Int) + ((2 + s.length : Nat) : Int)) = ((pos + (2 + s.length) : Nat) : Int) := by rw [dA (by omega) (by omega)]; omega
 have w4 : bD (((pos + (2 + s.length) : Nat) : Int) - (s.length : Int)) = ((pos + 2 : Nat) : Int) := by rw [dA (by omega) (by omega)]; omega
 unfold jZ
 refine bo (a := false) ?_ ?_
 ·rw [cond_false, show fV p pos false = some () from rfl, ah, w0]
  simp
  omega
 ·rw [cond_false, FD h0, ah, w1, FD (uz h0), ah, show fV p pos false = some () from rfl, ah, afm ⟨s.length, by omega⟩, w2, w3, w4, w0, aD (by omega), av (by omega), Int.toNat_natCast, Int.toNat_natCast, av (by omega), Nat.zero_add, h2,
   show pos + (2 + s.length) - (pos + 2) = s.length by omega, List.take_left]
theorem Xo (c : ApiColumn) (o : Option ApiColumn) (p : List UInt8) (pos : Nat) (v : ApiValue) (r : List UInt8) (hc : o = some c) (hp : p.length < 1073741824) (h : p.drop pos = fP v ++ r) (ho : pos ≤ p.length) (hv : val v = true) (hk : v.Kind = 0 ∨ v.Kind = c.Kind) (hs : v.S.length ≤ 64) :
    (Option.bind (j3 p (pos : Int) false) fun (alQ, Xr, Xq) =>
              bif (!alQ) then
                Option.bind o fun Oh =>
                Option.bind (α := Bool)
                  (bif (Oh.Kind == (1 : Int)) then
                    some (Oh.Kind == (1 : Int))
                  else
                    some (Oh.Kind == (2 : Int)))
                  fun aja =>
                bif aja then
                  Option.bind (eU (8 : Int) p Xr Xq) fun (alP, alO, alN) =>
                  some (alO, alN, (ApiValue.mk Oh.Kind alP ([] : List UInt8)))
                else
                  bif (Oh.Kind == (3 : Int)) then
                    Option.bind (eU (1 : Int) p Xr Xq) fun (alM, alL, alK) =>
                    some (alL, alK, (ApiValue.mk Oh.Kind alM ([] : List UInt8)))
                  else
                    Option.bind (jZ p Xr Xq) fun (alJ, alI, alH) =>
                    some (alI, alH, (ApiValue.mk Oh.Kind (0 : UInt64) alJ))
              else
                some (Xr, Xq, (ApiValue.mk (0 : Int) (0 : UInt64) ([] : List UInt8)))) = some (((pos + (fP v).length : Nat) : Int), false, v) := by
  by_cases k0 : v.Kind = 0
  · have e : fP v = [1] := by unfold fP; rw [if_pos k0]
    rw [e] at h ⊢
    rw [NP p pos 1 r hp h (.inr rfl), ah, LQ hv k0]
    rfl
  have kc : v.Kind = c.Kind := hk.resolve_left k0
  have kk := JO hv
  have e : fP v = 0 :: (if v.Kind = 1 ∨ v.Kind = 2 then bH v.N 8 else if v.Kind = 3 then bH v.N 1 else if v.Kind = 4 ∨ v.Kind = 5 then bH (jS v.S.length) 2 ++ v.S else []) := by unfold fP; rw [if_neg k0]
  have el : (fP v).length = 1 + (if v.Kind = 1 ∨ v.Kind = 2 then bH v.N 8 else if v.Kind = 3 then bH v.N 1 else if v.Kind = 4 ∨ v.Kind = 5 then bH (jS v.S.length) 2 ++ v.S else []).length := by rw [e, List.length_cons]; omega
  rw [el]
  rw [e, List.cons_append] at h
  have h2 := uz h
  have lt := Qy h
  rw [NP p pos 0 _ hp h (.inl rfl), ah]
  show Option.bind o _ = _
  rw [hc, ah, ← kc]
  by_cases c12 : v.Kind = 1 ∨ v.Kind = 2
  · rw [if_pos c12] at h2 ⊢
    rw [bQ]
    refine bo (k12 v) ?_
    rw [decide_eq_true c12, cond_true]
    rw [show eU (8 : Int) p ((pos + 1 : Nat) : Int) false = _ from Ld p 8 (pos + 1) _ r hp h2 (by omega) (bQ _ _) (by omega), ah, GA]
    have n := (Bg hv (by omega)).1
    obtain ⟨K, N, S⟩ := v
    simp only at n
    subst n
    show some _ = some _
    rw [Nat.add_assoc]
  rw [if_neg c12] at h2 ⊢
  by_cases c3 : v.Kind = 3
  · rw [if_pos c3] at h2 ⊢
    rw [bQ]
    refine bo (k12 v) ?_
    rw [decide_eq_false c12, cond_false, show (v.Kind == 3) = true by simpa using c3, cond_true]
    rw [show eU (1 : Int) p ((pos + 1 : Nat) : Int) false = _ from Ld p 1 (pos + 1) _ r hp h2 (by omega) (bQ _ _) (by omega), ah, UW, BR]
    have n := Bg hv (by omega)
    obtain ⟨K, N, S⟩ := v
    obtain ⟨n1, n2⟩ := n
    simp only at n1 n2 c3
    subst n1
    show some (((pos + 1 + 1 : Nat) : Int), false, (⟨K, N.toUInt8.toUInt64, []⟩ : ApiValue)) = some _
    rw [aaP (n2 c3), Nat.add_assoc]
  rw [if_neg c3] at h2 ⊢
  have c45 : v.Kind = 4 ∨ v.Kind = 5 := by omega
  rw [if_pos c45] at h2 ⊢
  rw [List.length_append, bQ]
  refine bo (k12 v) ?_
  rw [decide_eq_false c12, cond_false, show (v.Kind == 3) = false by simpa using c3, cond_false, Wq p (pos + 1) v.S r hp h2 (by omega) hs, ah]
  have n := Qc hv c45
  obtain ⟨K, N, S⟩ := v
  simp only at n
  subst n
  show some _ = some _
  rw [Nat.add_assoc]
def yK (l : List ApiValue) (n : Nat) : List Int := (List.range n).map fun i => (jM l i : Int)
theorem Jv (l : List ApiValue) (n : Nat) : (yK l n).length = n := by simp [yK]
theorem OP (l : List ApiValue) (n : Nat) : yK l (n + 1) = yK l n ++ [(jM l n : Int)] := by simp [yK, List.range_succ]
theorem zU {bf : List ApiColumn} {l : List ApiValue} (hf : Fit bf l) : oN bf (dV l) = some (l, yK l l.length, true) := by
 have b := oK hf
 have n := hf.num
 have e := hf.len
 have hd := Jk (l := l) (by omega)
 unfold oN
 rw [show eU (1 : Int) (dV l) (0 : Int) false = _ from Ld (dV l) 1 0 [UInt8.ofNat l.length] ((l.map fP).flatten) (by omega) (by rw [List.drop_zero]; exact hd) (by omega) rfl (by omega), ah, BR]
 show Option.bind _ _ = _
 have i64 : Dx (UInt8.ofNat l.length).toUInt64 = (l.length : Int) := by
  unfold Dx
  have h1 : (UInt8.ofNat l.length).toUInt64.toNat = l.length := by simp; omega
  rw [h1]
  exact dA (n := (l.length : Int)) (by omega) (by omega)
 rw [i64]
 refine bo (a := false) ?_ ?_
 ·rw [aD (by omega)]
  congr 1
  simp
  omega
 rw [cond_false]
 refine Lm (w := .inl (l, yK l l.length, ((dV l).length : Int), false)) (Ey (fun i => (l.take i, yK l i, (i : Int), (jM l i : Int), false)) l.length (fun i hi => ?_) ?_ (by rw [Dq]; rfl)) ?_
 ·have hi2 : i < bf.length := by omega
  have fi := hf.fit i hi2 hi
  have ok := wQ fi
  have le := Fz l i (by omega)
  have ol := Jv l i
  have dl : (l.take i).length ≤ 24 := by simp; omega
  show (bif _ then _ else _) = _
  rw [av (by omega), av (by rw [bV]; simp only [List.length_cons, List.length_nil]; omega)]
  refine bo (Xo bf[i] (bF bf (i : Int)) (dV l) (jM l i) l[i] _ (bM hi2) (by omega) (C9 l i hi) le ok.1 ok.2.1 (hf.short _ (List.getElem_mem hi))) ?_
  refine bo (a := false) ?_ ?_
  ·rw [cond_false, bM hi2, ah, uO _ _ (by have := hf.short _ (List.getElem_mem hi); omega), ah, fi]
   rfl
  ·rw [cond_false, av (by rw [bV]; simp only [List.length_cons, List.length_nil]; omega), bN (by omega), Dr l i hi, List.take_succ_eq_append_getElem hi, OP]
 ·show (bif _ then _ else _) = _
  rw [aD (by omega), List.take_length, BQ]
 ·have dn : mE (dV l) ((dV l).length : Int) false = some true := by
   unfold mE
   rw [Bool.not_false, cond_true, BEq.rfl]
   rfl
  rw [Sum.elim_inl]
  dsimp only
  rw [dn, ah]
theorem E5 {bf : List ApiColumn} {l : List ApiValue} (hc : uW bf) (hf : Fit bf l) (h5 : (dV l).length ≤ 512) : nT bf (dV l) = some (l, 0) := by
 have e := hf.len
 have n := hf.num
 unfold nT
 rw [vL bf hc, ah, hf.rc, Bool.not_true, cond_false, zU hf, ah]
 refine bo (a := false) ?_ ?_
 ·show (bif false then _ else _) = _
  rw [cond_false]
  congr 1
  simp
  omega
 ·rw [cond_false]
  refine KA (w := l) (Ey (fun i => (l, (l.length : Int))) 0 (fun i hi => absurd hi (by omega)) ?_ rfl) rfl
  show (bif _ then _ else _) = _
  rw [aD (by omega)]
theorem Gn {bf : List ApiColumn} {l : List ApiValue} (ho : uW bf) (hf : Fit bf l) (h5 : (dV l).length ≤ 512) (c : Nat) (hc : c < l.length) (hk : l[c].Kind = 1 ∨ l[c].Kind = 2) : qh bf (dV l) (c : Int) = some (((jM l c + 1 : Nat) : Int), 0) := by
 have e := hf.len
 have b := oK hf
 have hc2 : c < bf.length := by omega
 have fi := wQ (hf.fit c hc2 hc)
 have le := Fz l c (by omega)
 unfold qh
 rw [E5 ho hf h5, ah]
 show (bif false then _ else _) = _
 rw [cond_false]
 refine bo (a := false) ?_ ?_
 ·rw [aD (by omega)]
  congr 1
  simp
  omega
 ·rw [cond_false, zU hf, ah]
  refine bo (a := false) ?_ ?_
  ·rw [bM hc2, ah, aD (by omega), aD (by omega), bM hc, ah]
   congr 1
   simp
   omega
  ·rw [cond_false]
   have g : bF (yK l l.length) (c : Int) = some (jM l c : Int) := by
    rw [bM (by rw [Jv]; exact hc)]
    simp [yK]
   show Option.bind (bF (yK l l.length) (c : Int)) _ = _
   rw [g, ah, dA (by omega) (by omega)]
   rfl
theorem Wm (n m B : Nat) (hB : 0 < B) : (n + m) / B = n / B + m / B + (n % B + m % B) / B := by
 have h1 := Nat.div_add_mod n B
 have h2 := Nat.div_add_mod m B
 have e : n + m = (n % B + m % B) + B * (n / B + m / B) := by rw [Nat.mul_add]; omega
 rw [e, Nat.add_mul_div_left _ _ hB]
 omega
theorem VO (n m B : Nat) (hB : 0 < B) : (n / B % 256 + m / B % 256 + (n % B + m % B) / B) / 256 = (n % (B * 256) + m % (B * 256)) / (B * 256) := by
 rw [Nat.mod_mul, Nat.mod_mul, ← Nat.div_div_eq_div_mul]
 have e : n % B + B * (n / B % 256) + (m % B + B * (m / B % 256)) = (n % B + m % B) + B * (n / B % 256 + m / B % 256) := by rw [Nat.mul_add]; omega
 rw [e, Nat.add_mul_div_left _ _ hB, Nat.add_comm ((n % B + m % B) / B)]
theorem Ul (n m B : Nat) (hB : 0 < B) : (n / B % 256 + m / B % 256 + (n % B + m % B) / B) % 256 = (n + m) / B % 256 := by
 rw [Wm n m B hB]
 omega
def vX (n m : UInt64) (j : Nat) : Nat := (n.toNat % 256 ^ j + m.toNat % 256 ^ j) / 256 ^ j
theorem Yd (n m : UInt64) (j : Nat) : vX n m j ≤ 1 := by
 have h0 : 0 < 256 ^ j := Nat.pow_pos (by omega)
 have h1 := Nat.mod_lt n.toNat h0
 have h2 := Nat.mod_lt m.toNat h0
 have : vX n m j < 2 := Nat.div_lt_of_lt_mul (by omega)
 omega
theorem RI (n m : UInt64) (j : Nat) : (n.toNat / 2 ^ (8 * j) % 256 + m.toNat / 2 ^ (8 * j) % 256 + vX n m j) / 256 = vX n m (j + 1) := by
 have e : (2 : Nat) ^ (8 * j) = 256 ^ j := by rw [Nat.pow_mul]
 rw [e]
 unfold vX
 rw [VO _ _ _ (Nat.pow_pos (by omega)), Nat.pow_succ]
theorem air (n m : UInt64) (j : Nat) (hj : j < 8) : UInt8.ofNat (n.toNat / 2 ^ (8 * j) % 256 + m.toNat / 2 ^ (8 * j) % 256 + vX n m j) = UInt8.ofNat ((n + m).toNat / 2 ^ (8 * j)) := by
 have e : (2 : Nat) ^ (8 * j) = 256 ^ j := by rw [Nat.pow_mul]
 rw [← UInt8.toNat_inj, UInt8.toNat_ofNat', UInt8.toNat_ofNat', e, UInt64.toNat_add]
 show (n.toNat / 256 ^ j % 256 + m.toNat / 256 ^ j % 256 + vX n m j) % 256 = _ % 256
 unfold vX
 rw [Ul _ _ _ (Nat.pow_pos (by omega))]
 have e2 : (2 : Nat) ^ 64 = 256 ^ j * 256 ^ (8 - j) := by
  rw [← Nat.pow_add, show j + (8 - j) = 8 by omega]
 rw [e2, Nat.mod_mul_right_div_self]
 have e3 : (256 : Nat) ^ (8 - j) = 256 * 256 ^ (7 - j) := by
  rw [show 8 - j = 7 - j + 1 by omega, Nat.pow_succ, Nat.mul_comm]
 rw [e3, Nat.mod_mul_right_mod]
theorem EF (n : UInt64) : ∀ (k j : Nat), j < k → (bH n k).take (k - j) = (bH n k).take (k - 1 - j) ++ [UInt8.ofNat (n.toNat / 2 ^ (8 * j))]
 | 0, j, h => absurd h (by omega)
 | k + 1, j, h => by
  by_cases q : j = k
  ·subst q
   rw [show j + 1 - j = 1 by omega, show j + 1 - 1 - j = 0 by omega]
   rfl
  ·have ih := EF n k j (by omega)
   rw [show k + 1 - j = (k - j) + 1 by omega, show k + 1 - 1 - j = (k - 1 - j) + 1 by omega, bH, List.take_succ_cons, List.take_succ_cons, ih, List.cons_append]
def IW (n m : UInt64) (j : Nat) : List UInt8 := (bH n 8).take (8 - j) ++ bH (n + m) j
theorem U0 (n m : UInt64) (j : Nat) (h : j < 8) : IW n m j = (bH n 8).take (7 - j) ++ UInt8.ofNat (n.toNat / 2 ^ (8 * j)) :: bH (n + m) j := by
 unfold IW
 rw [EF n 8 j h, List.append_assoc]
 rfl
theorem Ry (n m : UInt64) (j : Nat) (h : j < 8) : IW n m (j + 1) = (bH n 8).take (7 - j) ++ UInt8.ofNat ((n + m).toNat / 2 ^ (8 * j)) :: bH (n + m) j := by
 unfold IW
 rw [show 8 - (j + 1) = 7 - j by omega]
 rfl
theorem setAt {α : Type} (x y : α) (R : List α) : ∀ (A : List α) (i : Nat), A.length = i → (A ++ x :: R).set i y = A ++ y :: R
 | [], _, h => by subst h; rfl
 | a :: A, i, h => by subst h; rw [List.length_cons, List.cons_append, List.set_cons_succ, setAt x y R A _ rfl, List.cons_append]
theorem ahv {α : Type} (x : α) (R A : List α) (i : Int) (h : i = (A.length : Int)) : bF (A ++ x :: R) i = some x := by
 subst h
 rw [nZ]
 simp
def K8 (key : List UInt8) (off : Int) (num : UInt64) : bL := bL.mk 0 3 key 0 [] off num
theorem Nj (a r key : List UInt8) (n m : UInt64) (hl : a.length + r.length < 1000000) :
  eP ⟨true, a ++ bH n 8 ++ r⟩ (K8 key (a.length : Int) m) = some ⟨true, a ++ bH (n + m) 8 ++ r⟩ := by
 unfold eP K8
 dsimp only
 refine beE (x := ⟨true, a ++ bH (n + m) 8 ++ r⟩) ?_ rfl
 rw [show ((3 : Int) == 1) = false from rfl, cond_false, show ((3 : Int) == 2) = false from rfl, cond_false, show ((3 : Int) == 3) = true from rfl, cond_true]
 have ll : (a ++ bH n 8 ++ r).length = a.length + 8 + r.length := by simp [bQ]; omega
 refine bo (a := false) ?_ ?_
 ·rw [Bool.not_true, cond_false, aD (by omega), ll, dA (by omega) (by omega)]
  simp
  omega
 rw [cond_false]
 refine KA (w := a ++ bH (n + m) 8 ++ r) (Ey (fun j => (a ++ IW n m j ++ r, (vX n m j : Int), (7 : Int) - (j : Int))) 8 (fun j hj => ?_) ?_ ?_) rfl
 ·have c1 := Yd n m j
  have i1 : bD ((a.length : Int) + (7 - (j : Int))) = ((a.length + (7 - j) : Nat) : Int) := by rw [dA (by omega) (by omega)]; omega
  have i2 : bD ((8 : Int) * (7 - (j : Int))) = 56 - 8 * (j : Int) := by rw [dA (by omega) (by omega)]; omega
  have i3 : bD ((56 : Int) - (56 - 8 * (j : Int))) = ((8 * j : Nat) : Int) := by rw [dA (by omega) (by omega)]; omega
  have tl : ((a ++ (bH n 8).take (7 - j)).length) = a.length + (7 - j) := by simp [bQ]; omega
  have cut : a ++ IW n m j ++ r = (a ++ (bH n 8).take (7 - j)) ++ UInt8.ofNat (n.toNat / 2 ^ (8 * j)) :: (bH (n + m) j ++ r) := by rw [U0 n m j hj]; simp
  have next : a ++ IW n m (j + 1) ++ r = (a ++ (bH n 8).take (7 - j)) ++ UInt8.ofNat ((n + m).toNat / 2 ^ (8 * j)) :: (bH (n + m) j ++ r) := by rw [Ry n m j hj]; simp
  show (bif (decide ((7 : Int) - (j : Int) ≥ 0)) then _ else _) = _
  rw [av (by omega), i1, i2, i3, cut, ahv _ _ _ _ (by rw [tl]), ah, av (by omega), ah, Int.toNat_natCast, Int.toNat_natCast, setAt _ _ _ _ _ tl]
  have b1 : (UInt8.ofNat (n.toNat / 2 ^ (8 * j))).toNat = n.toNat / 2 ^ (8 * j) % 256 := by rw [UInt8.toNat_ofNat']
  have b2 : ((bZ m (8 * j)).toUInt8).toNat = m.toNat / 2 ^ (8 * j) % 256 := by rw [Ji, UInt8.toNat_ofNat']
  have x1 : n.toNat / 2 ^ (8 * j) % 256 < 256 := Nat.mod_lt _ (by omega)
  have x2 : m.toNat / 2 ^ (8 * j) % 256 < 256 := Nat.mod_lt _ (by omega)
  have cs := RI n m j
  have bs := air n m j hj
  rw [b1, b2]
  generalize n.toNat / 2 ^ (8 * j) % 256 = u at *
  generalize m.toNat / 2 ^ (8 * j) % 256 = v at *
  rw [dA (n := (u : Int) + (v : Int)) (by omega) (by omega), dA (n := (u : Int) + (v : Int) + (vX n m j : Int)) (by omega) (by omega)]
  have s1 : Ei ((u : Int) + (v : Int) + (vX n m j : Int)) = UInt8.ofNat ((n + m).toNat / 2 ^ (8 * j)) := by
   rw [← bs]
   unfold Ei
   rw [← UInt8.toNat_inj, UInt8.toNat_ofNat', UInt8.toNat_ofNat']
   omega
  have s2 : bD (Int.tdiv ((u : Int) + (v : Int) + (vX n m j : Int)) 256) = (vX n m (j + 1) : Int) := by
   rw [← cs, show (u : Int) + (v : Int) + (vX n m j : Int) = ((u + v + vX n m j : Nat) : Int) by omega, show Int.tdiv ((u + v + vX n m j : Nat) : Int) 256 = (((u + v + vX n m j) / 256 : Nat) : Int) from rfl, dA (by omega) (by omega)]
  have s3 : bD ((7 : Int) - (j : Int) - 1) = (7 : Int) - ((j + 1 : Nat) : Int) := by rw [dA (by omega) (by omega)]; omega
  rw [s1, s2, s3, ← next]
 ·show (bif (decide ((7 : Int) - ((8 : Nat) : Int) ≥ 0)) then _ else _) = _
  rw [aD (by omega)]
  rfl
 ·show (a ++ IW n m 0 ++ r, ((vX n m 0 : Nat) : Int), (7 : Int) - ((0 : Nat) : Int)) = _
  have c0 : vX n m 0 = 0 := by unfold vX; simp [Nat.mod_one]
  have m0 : IW n m 0 = bH n 8 := by
   unfold IW
   rw [List.take_of_length_le (by rw [bQ]; omega)]
   simp [bH]
  rw [c0, m0]
  rfl
def tC (key v : List UInt8) : aW := aW.mk key true v 0 false []
theorem SL (key v : List UInt8) : jC (aW.mk key false [] 0 false []) (bL.mk 0 1 key 0 v 0 0) = some (tC key v) := rfl
theorem SN (key s out : List UInt8) (off : Int) (num : UInt64) (h : eP ⟨true, s⟩ (K8 key off num) = some ⟨true, out⟩) : jC (tC key s) (K8 key off num) = some (tC key out) := by
 unfold jC
 refine bo (a := (0, ⟨true, out⟩, ⟨false, []⟩)) ?_ rfl
 refine bo (a := true) rfl ?_
 rw [cond_true]
 show Option.bind (eP ⟨true, s⟩ (K8 key off num)) _ = _
 rw [h]
 rfl
theorem QG (key v : List UInt8) : oM (tC key v) = some false := rfl
theorem PX (key v : List UInt8) : iT (bL.mk 0 1 key 0 v 0 0) = some [tC key v] := by
 unfold iT
 refine KA (w := [tC key v]) (Ey (fun _ => ()) 0 (fun i hi => absurd hi (by omega)) ?_ rfl) rfl
 refine bo (a := ([tC key v], true)) ?_ rfl
 refine bo (a := true) rfl ?_
 rw [cond_true, ah, SL, ah, QG, ah, Bool.not_false, cond_true, av (by rw [bV]; simp)]
theorem PY (key s out : List UInt8) (off : Int) (num : UInt64) (h : eP ⟨true, s⟩ (K8 key off num) = some ⟨true, out⟩) : gZ (K8 key off num) [tC key s] = some [tC key out] := by
 have lt : Qo key key = false := GV key
 unfold gZ
 refine KA (w := [tC key out]) (Ey (fun i => if i = 0 then (([] : List aW), false, (0 : Int)) else ([tC key out], true, (1 : Int))) 1 (fun i hi => ?_) ?_ rfl) rfl
 ·obtain rfl : i = 0 := by omega
  rw [if_pos rfl, if_neg (by omega)]
  show (bif _ then _ else _) = _
  rw [av (by simp)]
  refine beY (y := ([tC key out], true)) ?_ rfl
  refine bo (a := (([] : List aW), true)) ?_ ?_
  ·refine bo (a := true) ?_ ?_
   ·rw [Bool.not_false, cond_true]
    show (bif false then _ else Option.bind (some (tC key s)) _) = _
    rw [cond_false, ah]
    show some (!(Qo key key)) = _
    rw [lt]; rfl
   ·rw [cond_true]
    refine bo (a := false) ?_ rfl
    show (bif false then _ else Option.bind (some (tC key s)) _) = _
    rw [cond_false, ah]
    show some (!(Qo key key || key == key)) = _
    rw [lt, BEq.rfl]; rfl
  ·show (bif false then _ else Option.bind (some (tC key s)) _) = _
   rw [cond_false, ah]
   refine bo (a := tC key out) ?_ ?_
   ·refine bo (a := true) ?_ ?_
    ·show (bif false then _ else some (key == key)) = _
     rw [cond_false, BEq.rfl]
    ·rw [cond_true, SN key s out off num h]; rfl
   ·rw [QG, ah, Bool.not_false, cond_true, av (by rw [bV]; simp)]
    rfl
 ·rw [if_neg (by omega)]
  show (bif _ then _ else _) = _
  rw [av (by simp)]
  refine beE (x := [tC key out]) ?_ rfl
  refine bo (a := ([tC key out], true)) ?_ ?_
  ·refine bo (a := false) rfl ?_
   rw [cond_false]
  ·rfl
theorem Ym (key v : List UInt8) : kM key [tC key v] = some (tC key v) := by
 unfold kM
 refine Lm (w := .inr (tC key v)) (Ey (fun _ => (0 : Int)) 0 (fun i hi => absurd hi (by omega)) ?_ rfl) rfl
 rw [av (by simp)]
 show Option.bind (some (tC key v)) _ = _
 rw [ah]
 show (bif key == key then _ else _) = _
 rw [BEq.rfl, cond_true]
 rfl
def tK (x : ApiIndex) (c : Int) : Bool := oV x.Extra c || oV (iA x.Parts) c
def Eh (t : ApiTable) (c : Int) : Bool := (t.aY.any fun x => tK x c) || oV t.bB c
theorem xM (l : List Int) (c : Int) (h : l.length < 4611686018427387904) : dY l c = some (oV l c) := by
 unfold dY iR
 refine bo (lqX l (fun y => y == c) (fun i hi => ?_) ?_) ?_
 ·show (bif _ then _ else _) = _
  rw [av (by omega), bM hi, ah, bN (by omega)]
  by_cases q : l[i] = c
  ·rw [show (c == l[i]) = true by simp [q], show (l[i] == c) = true by simp [q]]; rfl
  ·rw [show (c == l[i]) = false by simp; exact fun e => q e.symm, show (l[i] == c) = false by simpa using q]; rfl
 ·show (bif _ then _ else _) = _
  rw [aD (by omega)]
 ·rw [BZ]; rfl
theorem Ec (l : List ApiPart) (c : Int) (h : l.length < 4611686018427387904) : cO l c = some (oV (iA l) c) := by
 unfold cO dP
 refine bo (lqX l (fun y => y.Col == c) (fun i hi => ?_) ?_) ?_
 ·show (bif _ then _ else _) = _
  rw [av (by omega), bM hi, ah, show uw l[i] c = some () from rfl, ah, bN (by omega)]
  cases l[i].Col == c <;> rfl
 ·show (bif _ then _ else _) = _
  rw [aD (by omega)]
 ·rw [BZ]
  unfold oV iA
  rw [List.any_map]
  rfl
theorem Wu (x : ApiIndex) (c : Int) (h : OkX x) : vS x c = some (tK x c) := by
 unfold vS tK
 refine bo ?_ rfl
 rw [xM _ _ h.2.2, ah, Ec _ _ h.2.1, ah]
 cases oV x.Extra c <;> rfl
theorem Xa (l : List ApiIndex) (c : Int) (h : l.length < 4611686018427387904) (hx : ∀ x ∈ l, OkX x) : cK l c = some (l.any fun x => tK x c) := by
 unfold cK dK
 refine bo (lqX l (fun y => tK y c) (fun i hi => ?_) ?_) ?_
 ·show (bif _ then _ else _) = _
  rw [av (by omega), bM hi, ah, Wu _ _ (hx _ (List.getElem_mem hi)), ah, bN (by omega)]
  cases tK l[i] c <;> rfl
 ·show (bif _ then _ else _) = _
  rw [aD (by omega)]
 ·rw [BZ]
def SB (t : ApiTable) (l : List ApiValue) (c : Nat) (num : UInt64) : au := ⟨1, t.Tree, K8 (jq t l) ((jM l c + 1 : Nat) : Int) num⟩
def oC (t : ApiTable) (l : List ApiValue) (c : Int) : Int :=
 if dz t.bq l ≠ 0 then dz t.bq l else if c < 0 ∨ c ≥ l.length then 1 else if (Af l c).Kind ≠ 1 ∧ (Af l c).Kind ≠ 2 then 8 else if Eh t c = true then 11 else 0
def AX (t : ApiTable) (l : List ApiValue) (c : Int) (num : UInt64) : Int × List au × List ay :=
 if oC t l c ≠ 0 then (oC t l c, [], []) else (0, [SB t l c.toNat num], [rZ t.Tree (jq t l)])
theorem Zf {c : Int} {n : Nat} : (bif decide (c < 0) then some true else some (decide (c ≥ (n : Int)))) = some (decide (c < 0 ∨ c ≥ n)) := by
 by_cases h : c < 0
 ·rw [decide_eq_true h, cond_true, decide_eq_true (.inl h)]
 ·rw [decide_eq_false h, cond_false]; congr 1; simp [h]
theorem afl (v : ApiValue) : (bif v.Kind != 1 then some (v.Kind != 2) else some false) = some (decide (v.Kind ≠ 1 ∧ v.Kind ≠ 2)) := by
 by_cases h : v.Kind = 1
 ·simp [h]
 ·by_cases h2 : v.Kind = 2
  ·simp [h2]
  ·rw [show (v.Kind != 1) = true by simpa using h, cond_true, show (v.Kind != 2) = true by simpa using h2, decide_eq_true ⟨h, h2⟩]
theorem Pj (t : ApiTable) (l : List ApiValue) (c : Int) (num : UInt64) (ht : OkT t) (hv : xS l) (r : Right t) : Ch t l c num = some (AX t l c num) := by
 unfold Ch AX
 rw [nO t l ht.bf hv r, ah]
 by_cases q : dz t.bq l = 0
 rotate_left
 ·have e : oC t l c = dz t.bq l := by unfold oC; rw [if_pos q]
  rw [e, if_pos q, if_pos q]
  show (bif (dz t.bq l != 0) then _ else _) = _
  rw [show (dz t.bq l != 0) = true by simpa using q, cond_true]
 rw [if_neg (by simpa using q)]
 show (bif ((0 : Int) != 0) then _ else _) = _
 rw [show ((0 : Int) != 0) = false from rfl, cond_false]
 have hf := Fit.of q
 refine bo Zf ?_
 by_cases q1 : c < 0 ∨ c ≥ l.length
 ·have e : oC t l c = 1 := by unfold oC; rw [if_neg (by simpa using q), if_pos q1]
  rw [e, decide_eq_true q1, cond_true]; rfl
 rw [decide_eq_false q1, cond_false, xZ (by omega), ah]
 refine bo (afl _) ?_
 by_cases q2 : (Af l c).Kind ≠ 1 ∧ (Af l c).Kind ≠ 2
 ·have e : oC t l c = 8 := by unfold oC; rw [if_neg (by simpa using q), if_neg q1, if_pos q2]
  rw [e, decide_eq_true q2, cond_true]; rfl
 rw [decide_eq_false q2, cond_false, Xa _ _ ht.idxs ht.idx, ah]
 refine bo (a := Eh t c) ?_ ?_
 ·unfold Eh
  rw [xM _ _ ht.XC, ah]
  cases (t.aY.any fun x => tK x c) <;> rfl
 cases q3 : Eh t c with
 | true =>
  have e : oC t l c = 11 := by unfold oC; rw [if_neg (by simpa using q), if_neg q1, if_neg q2, if_pos q3]
  rw [e]; rfl
 | false =>
  have e : oC t l c = 0 := by unfold oC; rw [if_neg (by simpa using q), if_neg q1, if_neg q2, if_neg (by simp [q3])]
  rw [e, cond_false, if_neg (by omega)]
  have n := hf.num
  have le := hf.len
  have h5 : (dV l).length ≤ 512 := by have := vG hf; have := r.row; omega
  have ps := wE hf r
  rw [uH t.bq l ht.bf hv (fun _ => hf.short) (fun _ => by omega), ah, if_neg (by simpa using q), if_neg (by omega)]
  obtain ⟨i, rfl⟩ : ∃ i : Nat, c = (i : Int) := ⟨c.toNat, by omega⟩
  have hi : i < l.length := by omega
  have hvi : Af l (i : Int) = l[i] := by
   have := xZ (l := l) (i := (i : Int)) (by omega)
   rw [bM hi] at this
   exact (Option.some.inj this).symm
  rw [hvi] at q2
  show Option.bind (rz t.bq (dV l) (i : Int)) _ = _
  rw [J9 ht.bf hf h5 i hi (by omega), ah]
  show (bif ((0 : Int) != 0) then _ else _) = _
  rw [show ((0 : Int) != 0) = false from rfl, cond_false]
  refine bo (a := ()) ?_ ?_
  ·unfold lQ
   rw [Cy _ (by unfold jq at ps; omega), ah, av (by rw [bV]; simp)]
  ·refine bo (a := ()) ?_ rfl
   unfold jE
   rw [av (by rw [bV]; simp)]
theorem Kc (t : ApiTable) (c : Int) (ht : OkT t) {B : Bool × Int → Option ((Bool × Int) ⊕ Bool)}
  (hB : ∀ (f : Bool) (i : Nat) (hi : i < t.aY.length), B (f, (i : Int)) = some (.inl ((f || tK (t.aY[i]'hi) c), ((i + 1 : Nat) : Int)))) (he : ∀ f, B (f, (t.aY.length : Int)) = some (.inr f)) :
  loop B (oV t.bB c, (0 : Int)) = some (Eh t c) := by
 have key : Eh t c = (oV t.bB c || t.aY.any fun x => tK x c) := by unfold Eh; rw [Bool.or_comm]
 rw [key]
 refine (Ey (fun i => ((oV t.bB c || (t.aY.take i).any fun x => tK x c), (i : Int))) t.aY.length (fun i hi => ?_) ?_ (by simp))
 ·show B _ = _
  have e : ((t.aY.take (i + 1)).any fun x => tK x c) = (((t.aY.take i).any fun x => tK x c) || tK t.aY[i] c) := by rw [List.take_succ_eq_append_getElem hi, List.any_append]; simp
  rw [hB _ i hi, e, Bool.or_assoc]
 ·show B _ = _
  rw [he, List.take_length]
theorem Kg (t : ApiTable) (l : List ApiValue) (c : Int) (num : UInt64) (ht : OkT t) (hv : xS l) (r : Right t) : rA t l c num = some ((AX t l c num).1, (AX t l c num).2.1.map toR, (AX t l c num).2.2) := by
 unfold rA AX
 rw [IB t.bq l ht.bf hv, ah]
 by_cases q : dz t.bq l = 0
 rotate_left
 ·have e : oC t l c = dz t.bq l := by unfold oC; rw [if_pos q]
  rw [e, if_pos q, show (dz t.bq l != 0) = true by simpa using q, cond_true]
  rfl
 rw [show (dz t.bq l != 0) = false by simpa using q, cond_false]
 have hf := Fit.of q
 refine bo Zf ?_
 by_cases q1 : c < 0 ∨ c ≥ l.length
 ·have e : oC t l c = 1 := by unfold oC; rw [if_neg (by simpa using q), if_pos q1]
  rw [e, decide_eq_true q1, cond_true]; rfl
 rw [decide_eq_false q1, cond_false, xZ (by omega), ah]
 refine bo (a := decide ((Af l c).Kind ≠ 1 ∧ (Af l c).Kind ≠ 2)) ?_ ?_
 ·rw [ah]
  exact afl _
 by_cases q2 : (Af l c).Kind ≠ 1 ∧ (Af l c).Kind ≠ 2
 ·have e : oC t l c = 8 := by unfold oC; rw [if_neg (by simpa using q), if_neg q1, if_pos q2]
  rw [e, decide_eq_true q2, cond_true]; rfl
 rw [decide_eq_false q2, cond_false, lu _ _ ht.XC, ah]
 refine KA (Kc t c ht (fun f i hi => ?_) (fun f => ?_)) ?_
 ·show (bif _ then _ else _) = _
  have li := r.ixs
  rw [av (by omega)]
  cases f with
  | true => rw [cond_true, bN (by omega)]; rfl
  | false =>
   have ox := ht.idx _ (List.getElem_mem hi)
   have rx := y5.of (r.idx _ (List.getElem_mem hi))
   rw [cond_false, bM hi, ah, uJ _ (by have := rx.par; omega), ah, lu _ _ (by have := rx.par; simp [iA]; omega), ah, bN (by omega)]
   unfold tK
   cases oV (iA t.aY[i].Parts) c with
   | true => rw [cond_true, Bool.or_true]; rfl
   | false => rw [cond_false, ah, lu _ _ ox.2.2, ah, Bool.or_false]; rfl
 ·show (bif _ then _ else _) = _
  rw [aD (by omega)]
 cases q3 : Eh t c with
 | true =>
  have e : oC t l c = 11 := by unfold oC; rw [if_neg (by simpa using q), if_neg q1, if_neg q2, if_pos q3]
  rw [e]; rfl
 | false =>
  have e : oC t l c = 0 := by unfold oC; rw [if_neg (by simpa using q), if_neg q1, if_neg q2, if_neg (by simp [q3])]
  rw [e, cond_false, if_neg (by omega)]
  have n := hf.num
  have le := hf.len
  have h5 : (dV l).length ≤ 512 := by have := vG hf; have := r.row; omega
  have ps := wE hf r
  obtain ⟨i, rfl⟩ : ∃ i : Nat, c = (i : Int) := ⟨c.toNat, by omega⟩
  have hi : i < l.length := by omega
  have hvi : Af l (i : Int) = l[i] := by
   have := xZ (l := l) (i := (i : Int)) (by omega)
   rw [bM hi] at this
   exact (Option.some.inj this).symm
  rw [hvi] at q2
  rw [yB l hf.short (by omega), ah, Gn ht.bf hf h5 i hi (by omega), ah]
  show Option.bind (jW t l) _ = _
  rw [Db t l hf r, ah]
  refine bo (a := ()) ?_ ?_
  ·unfold nR
   rw [SH _ (by unfold jq at ps; omega), ah, av (by rw [bV]; simp)]
  ·rw [av (by rw [bV]; simp)]
   rfl
def qC (l : List ApiValue) (c : Nat) (num : UInt64) : List ApiValue := l.set c ⟨(Af l c).Kind, (Af l c).N + num, (Af l c).S⟩
theorem Fx {l : List ApiValue} {i : Nat} (hi : i < l.length) : Af l (i : Int) = l[i] := by
 have := xZ (l := l) (i := (i : Int)) (by omega)
 rw [bM hi] at this
 exact (Option.some.inj this).symm
theorem Md (l : List ApiValue) (c : Nat) (num : UInt64) (i : Nat) (h2 : i < (qC l c num).length) (hi : i < l.length) : (qC l c num)[i]'h2 = if c = i then ⟨(Af l c).Kind, (Af l c).N + num, (Af l c).S⟩ else l[i] := by
 simp only [qC, List.getElem_set]
theorem Un {bf : List ApiColumn} {l : List ApiValue} (hf : Fit bf l) (c : Nat) (hc : c < l.length) (hk : l[c].Kind = 1 ∨ l[c].Kind = 2) (num : UInt64) : Fit bf (qC l c num) := by
 refine ⟨hf.rc, by unfold qC; rw [List.length_set]; exact hf.len, fun i h1 h2 => ?_⟩
 have hi : i < l.length := by unfold qC at h2; rw [List.length_set] at h2; exact h2
 have f := hf.fit i h1 hi
 rw [Md l c num i h2 hi]
 by_cases q : i = c
 ·subst q
  rw [if_pos rfl, Fx hi]
  have ok := wQ f
  have s := (Bg ok.1 (by omega)).1
  have kc : l[i].Kind = bf[i].Kind := ok.2.1.resolve_left (by omega)
  have v : val ⟨l[i].Kind, l[i].N + num, l[i].S⟩ = true := by
   unfold val
   rw [s]
   rcases hk with h | h <;> rw [h] <;> rfl
  unfold uU
  rw [if_neg (by rw [v]; simp), if_neg (by show ¬ l[i].Kind = 0; omega), if_neg (by show ¬ l[i].Kind ≠ bf[i].Kind; omega), if_neg (by show ¬ ((l[i].Kind = 4 ∨ l[i].Kind = 5) ∧ _); omega)]
 ·rw [if_neg (fun e => q e.symm)]
  exact f
theorem Mr {v : ApiValue} (hk : v.Kind = 1 ∨ v.Kind = 2) : fP v = 0 :: bH v.N 8 := by
 unfold fP
 rw [if_neg (by omega), if_pos hk]
theorem Um {bf : List ApiColumn} {l : List ApiValue} (hf : Fit bf l) (c : Nat) (hc : c < l.length) (hk : l[c].Kind = 1 ∨ l[c].Kind = 2) (num : UInt64) (key : List UInt8) :
  eP ⟨true, dV l⟩ (K8 key ((jM l c + 1 : Nat) : Int) num) = some ⟨true, dV (qC l c num)⟩ := by
 have b := oK hf
 have e1 := BD l c hc
 have hc2 : c < (qC l c num).length := by unfold qC; rw [List.length_set]; exact hc
 have e2 := BD (qC l c num) c hc2
 have t1 : (qC l c num).take c = l.take c := by unfold qC; rw [List.take_set_of_le (by omega)]
 have t2 : (qC l c num).drop (c + 1) = l.drop (c + 1) := by unfold qC; rw [List.drop_set_of_lt (by omega)]
 have t3 : (qC l c num).length = l.length := by unfold qC; rw [List.length_set]
 have t4 : (qC l c num)[c]'hc2 = ⟨l[c].Kind, l[c].N + num, l[c].S⟩ := by rw [Md l c num c hc2 hc, if_pos rfl, Fx hc]
 rw [t1, t2, t3, t4, Mr (v := ⟨l[c].Kind, l[c].N + num, l[c].S⟩) hk] at e2
 rw [Mr hk] at e1
 have ol := BP l c
 generalize bH (jS (l.length : Int)) 1 ++ ((l.take c).map fP).flatten = a at e1 e2 ol
 generalize ((l.drop (c + 1)).map fP).flatten = r at e1 e2
 have e1' : dV l = (a ++ [0]) ++ bH l[c].N 8 ++ r := by rw [e1]; simp
 have e2' : dV (qC l c num) = (a ++ [0]) ++ bH (l[c].N + num) 8 ++ r := by rw [e2]; simp
 have ll : (dV l).length = a.length + 1 + 8 + r.length := by rw [e1']; simp [bQ]; omega
 have al : ((jM l c + 1 : Nat) : Int) = (((a ++ [0]).length : Nat) : Int) := by rw [ol, List.length_append]; rfl
 rw [al, e1', e2']
 exact Nj (a ++ [0]) r key l[c].N num (by rw [List.length_append]; simp; omega)
theorem Lf (t : ApiTable) (l : List ApiValue) (c : Int) (num : UInt64) (ht : OkT t) (hv : xS l) (hl : l.length * 32 ≤ 140737488351232) : pQ t l c num = some true := by
 unfold pQ
 rw [Wh, ah, Bool.not_true, cond_false, Gm t ht, ah]
 by_cases hc : Px t = 0
 rotate_left
 ·rw [show (Px t != 0) = true by simpa using hc]; rfl
 rw [show (Px t != 0) = false by simpa using hc, cond_false]
 have r := Right.of hc
 have A := Pj t l c num ht hv r
 have B := Kg t l c num ht hv r
 have sm := same_eq (AX t l c num).2.1 (AX t l c num).2.2 [] (by unfold AX; split <;> simp) (by unfold AX; split <;> simp) (by simp)
 rw [List.map_nil] at sm
 have e1 : oC t l c ≠ 0 → (AX t l c num).1 = oC t l c := fun q => by unfold AX; rw [if_pos q]
 have e0 : oC t l c = 0 → AX t l c num = (0, [SB t l c.toNat num], [rZ t.Tree (jq t l)]) := fun q => by unfold AX; rw [if_neg (by simpa using q)]
 generalize AX t l c num = w at A B sm e1 e0
 obtain ⟨a, o, lk⟩ := w
 simp only at A B sm e1
 rw [av (by rw [bV]; simp only [List.length_nil]; omega), List.nil_append, A, ah]
 show Option.bind (rA t l c num) _ = _
 rw [B, ah]
 refine bo (a := false) ?_ ?_
 ·show (bif (a != a) then _ else _) = _
  rw [show (a != a) = false by simp, cond_false]
  refine bo sm rfl
 rw [cond_false]
 by_cases q : oC t l c = 0
 rotate_left
 ·show (bif (a != 0) then _ else _) = _
  rw [e1 q, show (oC t l c != 0) = true by simpa using q, cond_true]
 have e := e0 q
 obtain ⟨rfl, rfl, rfl⟩ : a = 0 ∧ o = [SB t l c.toNat num] ∧ lk = [rZ t.Tree (jq t l)] := by
  simp only [Prod.mk.injEq] at e
  exact e
 clear e e0 e1 A B sm
 show (bif ((0 : Int) != 0) then _ else _) = _
 rw [show ((0 : Int) != 0) = false from rfl, cond_false]
 have q1 : dz t.bq l = 0 ∧ ¬ (c < 0 ∨ c ≥ l.length) ∧ ¬ ((Af l c).Kind ≠ 1 ∧ (Af l c).Kind ≠ 2) := by
  unfold oC at q
  by_cases a : dz t.bq l = 0
  ·rw [if_neg (by simpa using a)] at q
   by_cases b : c < 0 ∨ c ≥ l.length
   ·rw [if_pos b] at q; omega
   ·rw [if_neg b] at q
    by_cases d : (Af l c).Kind ≠ 1 ∧ (Af l c).Kind ≠ 2
    ·rw [if_pos d] at q; omega
    ·exact ⟨a, b, d⟩
  ·rw [if_pos a] at q; exact absurd q a
 obtain ⟨a1, a2, a3⟩ := q1
 have hf := Fit.of a1
 have n := hf.num
 have le := hf.len
 have h5 : (dV l).length ≤ 512 := by have := vG hf; have := r.row; omega
 obtain ⟨i, rfl⟩ : ∃ i : Nat, c = (i : Int) := ⟨c.toNat, by omega⟩
 have hi : i < l.length := by omega
 rw [Fx hi] at a3
 have hk : l[i].Kind = 1 ∨ l[i].Kind = 2 := by omega
 have cg := Um hf i hi hk num (jq t l)
 have sf := Un hf i hi hk num
 have s5 : (dV (qC l i num)).length ≤ 512 := by have := vG sf; have := r.row; omega
 refine bo (a := SB t l i num) rfl ?_
 rw [yB l hf.short (by omega), ah]
 refine bo (PX (jq t l) (dV l)) ?_
 refine bo (a := SB t l i num) rfl ?_
 refine bo (PY (jq t l) (dV l) (dV (qC l i num)) _ num cg) ?_
 rw [bM hi, ah, ah, av (by rw [bV]; simp only [List.length_nil]; omega)]
 refine bo (a := SB t l i num) rfl ?_
 refine bo (Ym (jq t l) (dV (qC l i num))) ?_
 show Option.bind (mQ t.bq (dV (qC l i num))) _ = _
 rw [zQ ht.bf sf s5, ah]
 refine bo (a := true) ?_ rfl
 rw [show ((0 : Int) == 0) = true from rfl, cond_true]
 have ev : qC l i num = List.set l (i : Int).toNat (ApiValue.mk l[i].Kind (l[i].N + num) l[i].S) := by unfold qC; rw [Fx hi, Int.toNat_natCast]
 rw [← ev, IK _ _ (by unfold qC; rw [List.length_set]; omega), ah]
 simp
end Lv
namespace Lv
open Go
variable [BaseTab]
omit [BaseTab] in
theorem abB {R k n : Nat} (hR : R ≤ 140737488355328) (hk : 0 < k) (h : n * k ≤ R) : n < 4611686018427387904 := by
 have h1 : n * 1 ≤ n * k := Nat.mul_le_mul_left _ hk
 omega
omit [BaseTab] in
theorem okVs12 {R k : Nat} (hR : R ≤ 140737488355328) (hk : 0 < k) {l : List ApiValue} (h : l.length * k ≤ R ∧ ∀ y ∈ l, okApiValue R y) : xS l := by
 refine ⟨abB hR hk h.1, fun c hc => ?_⟩
 have := (h.2 c hc).2.2.1
 omega
omit [BaseTab] in
theorem okT12 {R : Nat} (hR : R ≤ 140737488355328) {t : ApiTable} (h : okApiTable R t) : OkT t := by
 obtain ⟨h1, h2, h3, h4, h5, _⟩ := h
 have q2 := h2.1
 have q3 := h3.1
 have q4 := h4.1
 refine ⟨by omega, ⟨by omega, fun c hc => ?_⟩, by omega, by omega, fun x hx => ?_⟩
 ·obtain ⟨k1, k2, k3, k4, k5, _⟩ := h2.2 c hc
  exact ⟨by omega, by have := k5.2.2.1; omega⟩
 ·obtain ⟨k1, k2, k3, _⟩ := h4.2 x hx
  have q2 := k2.1
  have q3 := k3.1
  exact ⟨by omega, by omega, by omega⟩
end Lv
