/- Part of the proof of a law. -/
import Derived.Test.YtjnpmmiacggffaaGreatDoorXAll
import Derived.Test.YtjnpmmiacggffaaGreatDoorGwPlain
import Derived.Lib.ValidLaws
import Derived.Test.YtjnpmmiacggffaaGreatDoorGwQ
import Derived.Test.YtjnpmmiacggffaaGreatDoorXOk
import Derived.Test.YtjnpmmiacggffaaGreatDoorKK21
set_option linter.unusedVariables false
set_option linter.unusedSimpArgs false
set_option linter.unusedSectionVars false
set_option maxRecDepth 100000
namespace Lv
open Go Go.Proofs
variable [bJ]
def val (v : ak) : Bool :=
 (v.Kind == 0 && (v.N == 0 && v.S == [])) || ((v.Kind == 1 || v.Kind == 2) && v.S == []) || (v.Kind == 3 && (decide (v.N < 2) && v.S == [])) ||
 (v.Kind == 4 && (v.N == 0 && decide (v.S.length ≤ 64))) || (v.Kind == 5 && (v.N == 0 && (decide (v.S.length ≤ 64) && Go.Lib.validD v.S)))
theorem zN (v : ak) (h : v.S.length < 4611686018427387904) : j3 v = some (val v) := by
 have e1 : Ip v.S = some (Go.Lib.validD v.S) := by unfold Ip; rw [if_pos (by omega)]
 have e2 : ((v.S.length : Int) ≤ 64) = (v.S.length ≤ 64) := propext (by omega)
 have e3 : (v.N ≤ 1) = (v.N < 2) := propext (by rw [UInt64.le_iff_toNat_le, UInt64.lt_iff_toNat_lt]; show _ ≤ 1 ↔ _ < 2; omega)
 obtain ⟨K, N, S⟩ := v
 unfold j3 val
 simp only [e1, e2, e3, dw, Bool.and_true] at *
 by_cases k0 : K = 0
 ·subst k0; simp
 by_cases k1 : K = 1
 ·subst k1; simp
 by_cases k2 : K = 2
 ·subst k2; simp
 by_cases k3 : K = 3
 ·subst k3; by_cases hN : N < 2 <;> simp [hN]
 by_cases k4 : K = 4
 ·subst k4; cases hN : (N == 0) <;> simp [hN]
 by_cases k5 : K = 5
 ·subst k5; cases hN : (N == 0) <;> by_cases hS : S.length ≤ 64 <;> simp [hN, hS]
 simp [beq_eq_false_iff_ne.2 k0, beq_eq_false_iff_ne.2 k1, beq_eq_false_iff_ne.2 k2, beq_eq_false_iff_ne.2 k3, beq_eq_false_iff_ne.2 k4, beq_eq_false_iff_ne.2 k5]
def TG (s : List UInt8) (i n : Int) : Int × Int → Option ((Int × Int) ⊕ (Int ⊕ Bool)) := fun (aaM, Vr) =>
                      bif (decide (Vr < n)) then
                        Option.bind (bG s (bF (i + Vr))) fun VG =>
                        Option.bind (α := Bool)
                          (bif (decide ((VG.toNat : Int) < (128 : Int))) then
                            some true
                          else
                            some (decide ((VG.toNat : Int) ≥ (192 : Int))))
                          fun agv =>
                        bif agv then
                          some (Sum.inr (Sum.inr false))
                        else
                          some (Sum.inl ((bF ((bF ((bF (aaM * (64 : Int))) + (VG.toNat : Int))) - (128 : Int))), (bF (Vr + (1 : Int)))))
                      else
                        some (Sum.inr (Sum.inl aaM))
theorem wP (s : List UInt8) (i : Nat) (n k c : Int) (b : UInt8) (hk : 0 ≤ k) (hn : k < n) (hn4 : n ≤ 4) (hi : i + k.toNat < s.length) (hs : s.length < 4611686018427387904) (hc : 0 ≤ c ∧ c < 4294967296) (hb : s.getD (i + k.toNat) 0 = b) :
  loop (TG s i n) (c, k) = if b.toNat / 64 = 2 then loop (TG s i n) (c * 64 + (b.toNat : Int) - 128, k + 1) else some (.inr false) := by
 have hg : bG s (bF ((i : Int) + k)) = some b := by
  rw [dF (by omega) (by omega)]
  unfold bG
  rw [if_pos (by omega), show ((i : Int) + k).toNat = i + k.toNat by omega, List.getElem?_eq_getElem hi]
  rw [List.getD_eq_getElem?_getD, List.getElem?_eq_getElem hi] at hb
  exact congrArg some hb
 have hlt := b.toNat_lt
 by_cases h : b.toNat / 64 = 2
 ·rw [if_pos h]
  refine dV ?_
  show (bif (decide (k < n)) then _ else _) = _
  rw [decide_eq_true hn, cond_true, hg, ay, aC (show ¬ ((b.toNat : Int) < 128) by omega), ay, aC (show ¬ ((b.toNat : Int) ≥ 192) by omega)]
  rw [dF (n := c * 64) (by omega) (by omega), dF (n := c * 64 + _) (by omega) (by omega), dF (n := c * 64 + _ - _) (by omega) (by omega), dF (n := k + 1) (by omega) (by omega)]
 ·rw [if_neg h]
  refine dY ?_
  show (bif (decide (k < n)) then _ else _) = _
  rw [decide_eq_true hn, cond_true, hg, ay]
  by_cases h2 : b.toNat < 128
  ·rw [av (show ((b.toNat : Int) < 128) by omega), ay, cond_true]
  ·rw [aC (show ¬ ((b.toNat : Int) < 128) by omega), ay, av (show ((b.toNat : Int) ≥ 192) by omega)]
theorem HY (s : List UInt8) (i : Nat) (n c : Int) : loop (TG s i n) (c, n) = some (.inl c) := by
 refine dY ?_
 show (bif (decide (n < n)) then _ else _) = _
 rw [aC (show ¬ (n < n) by omega)]
def nX (l : List UInt8) : Nat :=
 if (Go.Lib.decodeN l.length (l.getD 0 0).toNat (l.getD 1 0).toNat (l.getD 2 0).toNat (l.getD 3 0).toNat).1 = 65533 ∧ (Go.Lib.decodeN l.length (l.getD 0 0).toNat (l.getD 1 0).toNat (l.getD 2 0).toNat (l.getD 3 0).toNat).2 = 1 then 0
 else (Go.Lib.decodeN l.length (l.getD 0 0).toNat (l.getD 1 0).toNat (l.getD 2 0).toNat (l.getD 3 0).toNat).2
theorem OI (l : List UInt8) (hne : l ≠ []) : Go.Lib.validD l = if nX l = 0 then false else Go.Lib.validD (l.drop (nX l)) := by
 have hw := Go.Lib.decodeL_width l
 have hl : 0 < l.length := List.length_pos_iff.2 hne
 rw [Go.Lib.validD_step l hne, Go.Lib.decodeL_N]
 rw [Go.Lib.decodeL_N] at hw
 unfold nX
 split
 ·simp
 ·rw [if_neg (by omega)]
theorem VK (l : List UInt8) (h : (l.getD 0 0).toNat < 128) : nX l = 1 := by
 unfold nX Go.Lib.decodeN
 rw [if_pos h]
 simp only
 rw [if_neg (by omega)]
theorem DU (l : List UInt8) (h : (128 ≤ (l.getD 0 0).toNat ∧ (l.getD 0 0).toNat < 194) ∨ 245 ≤ (l.getD 0 0).toNat) : nX l = 0 := by
 unfold nX
 have := (l.getD 0 0).toNat_lt
 rw [Go.Lib.decodeN_bad _ _ _ _ _ (by omega)]
 rfl
theorem VJ (l : List UInt8) (h : 194 ≤ (l.getD 0 0).toNat ∧ (l.getD 0 0).toNat < 224) : nX l = if 1 < l.length ∧ (l.getD 1 0).toNat / 64 = 2 then 2 else 0 := by
 unfold nX Go.Lib.decodeN
 repeat' split
 all_goals first | rfl | (exfalso; omega) | (simp only at *; omega)
theorem VI (l : List UInt8) (h : 224 ≤ (l.getD 0 0).toNat ∧ (l.getD 0 0).toNat < 240) : nX l = if (2 < l.length ∧ (l.getD 1 0).toNat / 64 = 2 ∧ (l.getD 2 0).toNat / 64 = 2) ∧ 2048 ≤ (l.getD 0 0).toNat % 16 * 4096 + (l.getD 1 0).toNat % 64 * 64 + (l.getD 2 0).toNat % 64 ∧ ((l.getD 0 0).toNat % 16 * 4096 + (l.getD 1 0).toNat % 64 * 64 + (l.getD 2 0).toNat % 64 < 55296 ∨ 57344 ≤ (l.getD 0 0).toNat % 16 * 4096 + (l.getD 1 0).toNat % 64 * 64 + (l.getD 2 0).toNat % 64) then 3 else 0 := by
 unfold nX Go.Lib.decodeN
 repeat' split
 all_goals first | rfl | (exfalso; omega) | (simp only at *; omega)
theorem VH (l : List UInt8) (h : 240 ≤ (l.getD 0 0).toNat ∧ (l.getD 0 0).toNat < 245) : nX l = if (3 < l.length ∧ (l.getD 1 0).toNat / 64 = 2 ∧ (l.getD 2 0).toNat / 64 = 2 ∧ (l.getD 3 0).toNat / 64 = 2) ∧ 65536 ≤ (l.getD 0 0).toNat % 8 * 262144 + (l.getD 1 0).toNat % 64 * 4096 + (l.getD 2 0).toNat % 64 * 64 + (l.getD 3 0).toNat % 64 ∧ (l.getD 0 0).toNat % 8 * 262144 + (l.getD 1 0).toNat % 64 * 4096 + (l.getD 2 0).toNat % 64 * 64 + (l.getD 3 0).toNat % 64 ≤ 1114111 then 4 else 0 := by
 unfold nX Go.Lib.decodeN
 repeat' split
 all_goals first | rfl | (exfalso; omega) | (simp only at *; omega)
theorem Rv {p q : Prop} [Decidable p] [Decidable q] (h : p ↔ q) : decide p = decide q := decide_eq_decide.2 h
noncomputable def MB (p0 : List UInt8) (Vs y1207 y1208 y1209 : Int) : Option (Int ⊕ (Unit ⊕ Bool)) :=
              bif (decide ((bF (Vs + y1207)) > (p0.length : Int))) then
                some (Sum.inr (Sum.inr false))
              else
                eu (Y := Int) (E := Bool)
                  (Option.bind (α := Int ⊕ Bool) (loop (TG p0 Vs y1207) (y1209, (1 : Int)))
                    (Sum.elim (fun e => some (Sum.inl e)) (fun e => some (Sum.inr e))))
                  (fun Sb =>
                    Option.bind (α := Bool)
                      (bif (decide (Sb < y1208)) then
                        some true
                      else
                        bif (decide (Sb > (1114111 : Int))) then
                          some true
                        else
                          bif (decide (Sb ≥ (55296 : Int))) then
                            some (decide (Sb < (57344 : Int)))
                          else
                            some false)
                      fun agu =>
                    bif agu then
                      some (Sum.inr (Sum.inr false))
                    else
                      some (Sum.inl (bF (Vs + y1207))))
                  (fun e => some (Sum.inr (Sum.inr e)))
theorem DT {s : List UInt8} {i n : Nat} {m c c' : Int} (hn : n ≤ 4) (hs : s.length < 4611686018427387904) (hi : i + n ≤ s.length) (h : loop (TG s i n) (c, 1) = some (.inl c')) :
  MB s i n m c = some (if c' < m ∨ c' > 1114111 ∨ (55296 ≤ c' ∧ c' < 57344) then .inr (.inr false) else .inl ((i + n : Nat) : Int)) := by
 unfold MB
 rw [dF (n := (i : Int) + n) (by omega) (by omega), aC (show ¬ ((i : Int) + n > (s.length : Int)) by omega), h, ay, Sum.elim_inl, EX]
 by_cases h1 : c' < m
 ·rw [av h1, ay, cond_true, if_pos (.inl h1)]
 rw [aC h1]
 by_cases h2 : c' > 1114111
 ·rw [av h2, ay, cond_true, if_pos (.inr (.inl h2))]
 rw [aC h2]
 by_cases h3 : c' ≥ 55296
 ·rw [av h3, ay]
  by_cases h4 : c' < 57344
  ·rw [av h4, if_pos (.inr (.inr ⟨h3, h4⟩))]
  ·rw [aC h4, if_neg (by omega)]; rfl
 ·rw [aC h3, ay, cond_false, if_neg (by omega)]; rfl
theorem Bh {s : List UInt8} {i n : Nat} {m c : Int} (hn : n ≤ 4) (hs : s.length < 4611686018427387904) (hi : i + n ≤ s.length) (h : loop (TG s i n) (c, 1) = some (.inr false)) :
  MB s i n m c = some (.inr (.inr false)) := by
 unfold MB
 rw [dF (n := (i : Int) + n) (by omega) (by omega), aC (show ¬ ((i : Int) + n > (s.length : Int)) by omega), h, ay, Sum.elim_inr, Ti]
theorem CB {s : List UInt8} {i n : Nat} {m c : Int} (hn : n ≤ 4) (hs : s.length < 4611686018427387904) (hi : i ≤ s.length) (hi : ¬ i + n ≤ s.length) : MB s i n m c = some (.inr (.inr false)) := by
 unfold MB
 rw [dF (n := (i : Int) + n) (by omega) (by omega), av (show ((i : Int) + n > (s.length : Int)) by omega)]
theorem KV (s : List UInt8) (hs : s.length < 4611686018427387904) : ug s = some (Go.Lib.validD s) := by
 unfold ug
 refine Eq.trans (congrArg (fun x => eu (Y := Unit) (E := Bool) (Option.bind (α := Unit ⊕ Bool) x (Sum.elim (fun e => some (Sum.inl e)) (fun e => some (Sum.inr e)))) (fun _ => some true) (fun e => some e))
  (ZG (fun y : Int => ∃ i : Nat, y = i ∧ i ≤ s.length) (fun y => s.length - y.toNat) (fun y => if Go.Lib.validD (s.drop y.toNat) = true then .inl () else .inr false) ?_ 0 ⟨0, rfl, by omega⟩)) ?_
 ·rintro y ⟨i, rfl, hi⟩
  rcases Nat.lt_or_ge i s.length with hlt | hge
  rotate_left
  ·right
   have : i = s.length := by omega
   subst this
   simp only [ltI, Nat.lt_irrefl, decide_false, cond_false, Int.toNat_natCast, List.drop_length, Go.Lib.validD_nil, if_true]
  have hne : s.drop i ≠ [] := by intro e; have := congrArg List.length e; simp at this; omega
  have hv := OI (s.drop i) hne
  have hlen : (s.drop i).length = s.length - i := by simp
  have hd : ∀ k, (s.drop i).getD k 0 = s.getD (i + k) 0 := fun k => Go.Lib.getD_dropU s i k
  have hg : bG s (i : Int) = some (s.getD i 0) := by
   rw [bL hlt, List.getD_eq_getElem?_getD, List.getElem?_eq_getElem hlt]; rfl
  have hb := (s.getD i 0).toNat_lt
  -- what a round must show
  suffices hB : ∀ B : Option (Int ⊕ (Unit ⊕ Bool)), B = some (if nX (s.drop i) = 0 then .inr (.inr false) else .inl ((i + nX (s.drop i) : Nat) : Int)) → nX (s.drop i) ≤ s.length - i →
    (∃ y', B = some (.inl y') ∧ (∃ j : Nat, y' = j ∧ j ≤ s.length) ∧ s.length - y'.toNat < s.length - ((i : Int)).toNat ∧ (if Go.Lib.validD (s.drop y'.toNat) = true then Sum.inl () else Sum.inr false) = (if Go.Lib.validD (s.drop ((i : Int)).toNat) = true then Sum.inl () else Sum.inr false)) ∨ B = some (.inr (if Go.Lib.validD (s.drop ((i : Int)).toNat) = true then .inl () else .inr false)) by
   have hle : nX (s.drop i) ≤ s.length - i := by
    rcases Nat.lt_or_ge (s.getD i 0).toNat 128 with c1 | c1
    ·rw [VK _ (by rw [hd]; exact c1)]; omega
    rcases Nat.lt_or_ge (s.getD i 0).toNat 194 with c2 | c2
    ·rw [DU _ (by rw [hd, Nat.add_zero]; omega)]; omega
    rcases Nat.lt_or_ge (s.getD i 0).toNat 224 with c3 | c3
    ·rw [VJ _ (by rw [hd, Nat.add_zero]; omega)]; split <;> omega
    rcases Nat.lt_or_ge (s.getD i 0).toNat 240 with c4 | c4
    ·rw [VI _ (by rw [hd, Nat.add_zero]; omega)]; split <;> omega
    rcases Nat.lt_or_ge (s.getD i 0).toNat 245 with c5 | c5
    ·rw [VH _ (by rw [hd, Nat.add_zero]; omega)]; split <;> omega
    ·rw [DU _ (by rw [hd, Nat.add_zero]; omega)]; omega
   refine hB _ ?_ hle
   rw [ltI, decide_eq_true hlt, cond_true, hg, ay]
   have d0 := hd 0
   rw [Nat.add_zero] at d0
   have d1 := hd 1
   have d2 := hd 2
   have d3 := hd 3
   have b1 := (s.getD (i + 1) 0).toNat_lt
   have b2 := (s.getD (i + 2) 0).toNat_lt
   have b3 := (s.getD (i + 3) 0).toNat_lt
   rcases Nat.lt_or_ge (s.getD i 0).toNat 128 with c1 | c1
   ·have hu := VK (s.drop i) (by rw [d0]; exact c1)
    rw [hu, av (show ((s.getD i 0).toNat : Int) < 128 by omega), EX]
    refine (DT (n := 1) (by omega) hs (by omega) (HY s i 1 _)).trans ?_
    rw [if_neg (by omega), if_neg (by omega)]
   rw [aC (show ¬ (((s.getD i 0).toNat : Int) < 128) by omega)]
   rcases Nat.lt_or_ge (s.getD i 0).toNat 194 with c2 | c2
   ·have hu := DU (s.drop i) (by rw [d0]; omega)
    rw [hu, aC (show ¬ (((s.getD i 0).toNat : Int) ≥ 194) by omega), ay, cond_false, aC (show ¬ (((s.getD i 0).toNat : Int) ≥ 224) by omega), ay, cond_false, aC (show ¬ (((s.getD i 0).toNat : Int) ≥ 240) by omega), ay, cond_false]
    rfl
   rw [av (show (((s.getD i 0).toNat : Int) ≥ 194) by omega), ay]
   rcases Nat.lt_or_ge (s.getD i 0).toNat 224 with c3 | c3
   ·have hu := VJ (s.drop i) (by rw [d0]; omega)
    rw [d1, hlen] at hu
    rw [av (show (((s.getD i 0).toNat : Int) < 224) by omega), EX]
    show MB s i (2 : Nat) 128 _ = _
    by_cases hn : i + 2 ≤ s.length
    ·rw [dF (n := ((s.getD i 0).toNat : Int) - 192) (by omega) (by omega)]
     have q := wP s i 2 1 (((s.getD i 0).toNat : Int) - 192) (s.getD (i + 1) 0) (by omega) (by omega) (by omega) (by omega) hs (by omega) rfl
     by_cases t1 : (s.getD (i + 1) 0).toNat / 64 = 2
     ·rw [if_pos t1] at q
      refine (DT (n := 2) (by omega) hs (by omega) (q.trans (HY s i 2 _))).trans ?_
      rw [hu, if_pos (show 1 < s.length - i ∧ (s.getD (i + 1) 0).toNat / 64 = 2 by omega)]
      split
      ·exfalso; omega
      ·rfl
     ·rw [if_neg t1] at q
      refine (Bh (n := 2) (by omega) hs (by omega) q).trans ?_
      rw [show nX (s.drop i) = 0 by rw [hu]; exact if_neg (by omega)]
      rfl
    ·rw [show nX (s.drop i) = 0 by rw [hu]; exact if_neg (by omega)]
     exact CB (by omega) hs hi hn
   rw [aC (show ¬ (((s.getD i 0).toNat : Int) < 224) by omega), av (show (((s.getD i 0).toNat : Int) ≥ 224) by omega), ay]
   rcases Nat.lt_or_ge (s.getD i 0).toNat 240 with c4 | c4
   ·have hu := VI (s.drop i) (by rw [d0]; omega)
    rw [d0, d1, d2, hlen] at hu
    rw [av (show (((s.getD i 0).toNat : Int) < 240) by omega), EX]
    show MB s i (3 : Nat) 2048 _ = _
    by_cases hn : i + 3 ≤ s.length
    ·rw [dF (n := ((s.getD i 0).toNat : Int) - 224) (by omega) (by omega)]
     have q := wP s i 3 1 (((s.getD i 0).toNat : Int) - 224) (s.getD (i + 1) 0) (by omega) (by omega) (by omega) (by omega) hs (by omega) rfl
     by_cases t1 : (s.getD (i + 1) 0).toNat / 64 = 2
     ·rw [if_pos t1] at q
      have q2 := wP s i 3 2 ((((s.getD i 0).toNat : Int) - 224) * 64 + ((s.getD (i + 1) 0).toNat : Int) - 128) (s.getD (i + 2) 0) (by omega) (by omega) (by omega) (by omega) hs (by omega) rfl
      by_cases t2 : (s.getD (i + 2) 0).toNat / 64 = 2
      ·rw [if_pos t2] at q2
       refine (DT (n := 3) (by omega) hs (by omega) (q.trans (q2.trans (HY s i 3 _)))).trans ?_
       split
       ·rw [show nX (s.drop i) = 0 by rw [hu]; exact if_neg (by omega)]
        rfl
       ·rw [show nX (s.drop i) = 3 by rw [hu]; exact if_pos (by omega)]
        rfl
      ·rw [if_neg t2] at q2
       refine (Bh (n := 3) (by omega) hs (by omega) (q.trans q2)).trans ?_
       rw [show nX (s.drop i) = 0 by rw [hu]; exact if_neg (by omega)]
       rfl
     ·rw [if_neg t1] at q
      refine (Bh (n := 3) (by omega) hs (by omega) q).trans ?_
      rw [show nX (s.drop i) = 0 by rw [hu]; exact if_neg (by omega)]
      rfl
    ·rw [show nX (s.drop i) = 0 by rw [hu]; exact if_neg (by omega)]
     exact CB (by omega) hs hi hn
   rw [aC (show ¬ (((s.getD i 0).toNat : Int) < 240) by omega), av (show (((s.getD i 0).toNat : Int) ≥ 240) by omega), ay]
   rcases Nat.lt_or_ge (s.getD i 0).toNat 245 with c5 | c5
   ·have hu := VH (s.drop i) (by rw [d0]; omega)
    rw [d0, d1, d2, d3, hlen] at hu
    rw [av (show (((s.getD i 0).toNat : Int) < 245) by omega), EX]
    show MB s i (4 : Nat) 65536 _ = _
    by_cases hn : i + 4 ≤ s.length
    ·rw [dF (n := ((s.getD i 0).toNat : Int) - 240) (by omega) (by omega)]
     have q := wP s i 4 1 (((s.getD i 0).toNat : Int) - 240) (s.getD (i + 1) 0) (by omega) (by omega) (by omega) (by omega) hs (by omega) rfl
     by_cases t1 : (s.getD (i + 1) 0).toNat / 64 = 2
     ·rw [if_pos t1] at q
      have q2 := wP s i 4 2 ((((s.getD i 0).toNat : Int) - 240) * 64 + ((s.getD (i + 1) 0).toNat : Int) - 128) (s.getD (i + 2) 0) (by omega) (by omega) (by omega) (by omega) hs (by omega) rfl
      by_cases t2 : (s.getD (i + 2) 0).toNat / 64 = 2
      ·rw [if_pos t2] at q2
       have q3 := wP s i 4 3 (((((s.getD i 0).toNat : Int) - 240) * 64 + ((s.getD (i + 1) 0).toNat : Int) - 128) * 64 + ((s.getD (i + 2) 0).toNat : Int) - 128) (s.getD (i + 3) 0) (by omega) (by omega) (by omega) (by omega) hs (by omega) rfl
       by_cases t3 : (s.getD (i + 3) 0).toNat / 64 = 2
       ·rw [if_pos t3] at q3
        refine (DT (n := 4) (by omega) hs (by omega) (q.trans (q2.trans (q3.trans (HY s i 4 _))))).trans ?_
        split
        ·rw [show nX (s.drop i) = 0 by rw [hu]; exact if_neg (by omega)]
         rfl
        ·rw [show nX (s.drop i) = 4 by rw [hu]; exact if_pos (by omega)]
         rfl
       ·rw [if_neg t3] at q3
        refine (Bh (n := 4) (by omega) hs (by omega) (q.trans (q2.trans q3))).trans ?_
        rw [show nX (s.drop i) = 0 by rw [hu]; exact if_neg (by omega)]
        rfl
      ·rw [if_neg t2] at q2
       refine (Bh (n := 4) (by omega) hs (by omega) (q.trans q2)).trans ?_
       rw [show nX (s.drop i) = 0 by rw [hu]; exact if_neg (by omega)]
       rfl
     ·rw [if_neg t1] at q
      refine (Bh (n := 4) (by omega) hs (by omega) q).trans ?_
      rw [show nX (s.drop i) = 0 by rw [hu]; exact if_neg (by omega)]
      rfl
    ·rw [show nX (s.drop i) = 0 by rw [hu]; exact if_neg (by omega)]
     exact CB (by omega) hs hi hn
   ·have hu := DU (s.drop i) (by rw [d0]; omega)
    rw [hu, aC (show ¬ (((s.getD i 0).toNat : Int) < 245) by omega)]
    rfl
  intro B hB hle
  rw [Int.toNat_natCast, hv]
  by_cases h0 : nX (s.drop i) = 0
  ·right; rw [hB, if_pos h0, if_pos h0]; rfl
  ·left
   rw [if_neg h0] at hB
   refine ⟨_, hB, ⟨_, rfl, by omega⟩, by rw [Int.toNat_natCast]; omega, ?_⟩
   rw [Int.toNat_natCast, if_neg h0, List.drop_drop]
 ·simp only [Int.toNat_zero, List.drop_zero]
  by_cases h : Go.Lib.validD s = true
  ·rw [h]; rfl
  ·rw [if_neg h, Bool.eq_false_iff.2 h]; rfl
theorem Ac (v : ak) (h : v.S.length < 4611686018427387904) : j5 v = some (val v) := by
 have e1 := KV v.S h
 have e2 : ((v.S.length : Int) ≤ 64) = (v.S.length ≤ 64) := propext (by omega)
 obtain ⟨K, N, S⟩ := v
 unfold j5 val
 simp only [e1, e2, Bool.and_true] at *
 by_cases k0 : K = 0
 ·subst k0; cases hN : (N == 0) <;> simp [hN]
 by_cases k1 : K = 1
 ·subst k1; simp
 by_cases k2 : K = 2
 ·subst k2; simp
 by_cases k3 : K = 3
 ·subst k3; by_cases hN : N < 2 <;> simp [hN]
 by_cases k4 : K = 4
 ·subst k4; cases hN : (N == 0) <;> simp [hN]
 by_cases k5 : K = 5
 ·subst k5; cases hN : (N == 0) <;> by_cases hS : S.length ≤ 64 <;> simp [hN, hS, e1]
 simp [beq_eq_false_iff_ne.2 k0, beq_eq_false_iff_ne.2 k1, beq_eq_false_iff_ne.2 k2, beq_eq_false_iff_ne.2 k3, beq_eq_false_iff_ne.2 k4, beq_eq_false_iff_ne.2 k5]
def jy (n : UInt64) : Nat → List UInt8
 | 0 => []
 | k + 1 => UInt8.ofNat (n.toNat / 2 ^ (8 * k)) :: jy n k
theorem uL (n : UInt64) : ∀ k, (jy n k).length = k
 | 0 => rfl
 | k + 1 => by simp [jy, uL n k]
theorem TQ (n : UInt64) (m : Nat) : (dR n m).toUInt8 = UInt8.ofNat (n.toNat / 2 ^ m) := by
 unfold dR
 rw [← UInt8.toNat_inj]
 have h : n.toNat / 2 ^ m < 18446744073709551616 := Nat.lt_of_le_of_lt (Nat.div_le_self _ _) n.toNat_lt
 simp [UInt64.toNat_ofNat, Nat.mod_eq_of_lt h]
theorem ao9 (n : UInt64) : n.toUInt8 = UInt8.ofNat (n.toNat / 2 ^ (8 * 0)) := by
 rw [← UInt8.toNat_inj]; simp
theorem mX (n : UInt64) (k : Nat) (acc : List UInt8) (hk : k ≤ 8) (hr : acc.length + 8 ≤ 70368744177664) : cO n k acc = some (acc ++ jy n k) := by
 unfold cO
 rw [dF (n := (k : Int) - 1) (by omega) (by omega)]
 suffices h : ∀ (k : Nat) (acc : List UInt8), k ≤ 8 → acc.length + k ≤ 70368744177664 → ∀ B : Int × List UInt8 → Option ((Int × List UInt8) ⊕ List UInt8), B = (fun (y21, y22) =>
   bif (decide (y21 ≥ (0 : Int))) then
    bif decide (0 ≤ (bF ((8 : Int) * y21))) then
    bif decide ((y22.length + [((dR n ((bF ((8 : Int) * y21)).toNat)).toUInt8)].length) * 1 ≤ room) then
    some (Sum.inl ((bF (y21 - (1 : Int))), (y22 ++ [((dR n ((bF ((8 : Int) * y21)).toNat)).toUInt8)])))
    else none
    else none
   else
    some (Sum.inr y22)) → loop B ((k : Int) - 1, acc) = some (acc ++ jy n k) by
  rw [show (loop _ ((k : Int) - 1, acc)) = _ from h k acc hk (by omega) _ rfl]
  rfl
 intro k
 induction k with
 | zero =>
  intro acc _ _ B hB
  rw [jy, List.append_nil]
  refine dY ?_
  rw [hB]
  rfl
 | succ k ih =>
  intro acc hk hr B hB
  have e : bF ((8 : Int) * (((k + 1 : Nat) : Int) - 1)) = ((8 * k : Nat) : Int) := by rw [dF (by omega) (by omega)]; omega
  have e2 : bF ((((k + 1 : Nat) : Int) - 1) - 1) = (k : Int) - 1 := by rw [dF (by omega) (by omega)]; omega
  have st : B (((k + 1 : Nat) : Int) - 1, acc) = some (Sum.inl ((k : Int) - 1, acc ++ [UInt8.ofNat (n.toNat / 2 ^ (8 * k))])) := by
   rw [hB]
   show (bif _ then _ else _) = _
   rw [e, e2, av (by omega), av (by omega), Int.toNat_natCast, TQ, av (by rw [dB]; simp; omega)]
  rw [dV st, ih (acc ++ [_]) (by omega) (by simp; omega) B hB, jy, List.append_assoc]
  rfl
theorem GK (n : UInt64) (k : Int) : jJ n k = cO n k [] := rfl
def turn (d : Bool) (b : List UInt8) : List UInt8 := if d then b.map (fun x => ~~~ x) else b
theorem zQ (d : Bool) (b : List UInt8) : (turn d b).length = b.length := by cases d <;> simp [turn]
theorem Lc (b : List UInt8) (h : b.length < 4611686018427387904) : kJ b = some (b.map (fun x => ~~~ x)) := by
  unfold kJ
  have q := Eu (B := (fun (y57, y58) =>
        bif (decide (y58 < (b.length : Int))) then
          Option.bind (bG y57 y58) fun v67 =>
          Option.bind (bG y57 y58) fun v68 =>
          some (Sum.inl ((List.set y57 y58.toNat (~~~ v67)), (bF (y58 + (1 : Int)))))
        else
          some (Sum.inr y57))) (fun i => (mapped (fun x => ~~~ x) b i, (i : Int))) b.length (w := b.map (fun x => ~~~ x)) ?_ ?_
  · rw [Gy] at q
    rw [show (loop _ (b, (0 : Int))) = _ from q]
    rfl
  · intro i hi
    show (bif _ then _ else _) = _
    rw [av (by omega), xB, Jp _ _ hi, ay, ay, bO (by omega), Int.toNat_natCast]
    exact congrArg (fun x => some (Sum.inl (x, _))) (Jm _ _ hi)
  · show (bif _ then _ else _) = _
    rw [aC (by omega), Jq]
def esc : List UInt8 → List UInt8
 | [] => []
 | x :: r => if x = 0 then 0 :: 255 :: esc r else x :: esc r
theorem EM : ∀ s, (esc s).length ≤ 2 * s.length
 | [] => by simp [esc]
 | x :: r => by have := EM r; unfold esc; split <;> simp <;> omega
open Go.Lib in
theorem AL (b : UInt8) (l : List UInt8) : index (b :: l) [0] = if b = 0 then 0 else if index l [0] = -1 then -1 else index l [0] + 1 := by
 conv => lhs; unfold index
 by_cases hb : b = 0
 ·subst hb; simp [List.isPrefixOf]
 ·rw [if_neg hb]
  rw [if_neg (by simp [List.isPrefixOf]; exact fun h => hb h.symm)]
  by_cases h : index l [0] = -1
  ·simp [h]
  ·rw [if_neg h, if_neg (by simpa using h)]
open Go.Lib in
theorem O4 (b : UInt8) (l new : List UInt8) (hb : b ≠ 0) : ∀ k, replaceK [0] new k (b :: l) = b :: replaceK [0] new k l
 | 0 => rfl
 | k + 1 => by
  have h := AL b l
  rw [if_neg hb] at h
  unfold replaceK
  by_cases hm : index l [0] = -1
  ·rw [if_pos hm] at h
   rw [h, hm]; rfl
  ·have hge := index_ge l [0]
   rw [if_neg hm] at h
   rw [if_neg (by rw [h]; intro e; have := beq_iff_eq.1 e; omega), if_neg (by intro e; exact hm (beq_iff_eq.1 e)), h]
   have e1 : (index l [0] + 1).toNat = (index l [0]).toNat + 1 := by omega
   rw [e1, List.take_succ_cons, Nat.add_right_comm, List.drop_succ_cons]
   simp
open Go.Lib in
theorem PY (b : UInt8) (l : List UInt8) : count (b :: l) [0] = if b = 0 then 1 + count l [0] else count l [0] := by
 have h := AL b l
 by_cases hb : b = 0
 ·rw [if_pos hb] at h ⊢
  exact count_hit (i := 0) (by simp) h
 ·rw [if_neg hb] at h ⊢
  by_cases hm : index l [0] = -1
  ·rw [if_pos hm] at h
   rw [count_miss h, count_miss hm]
  ·have hge := index_ge l [0]
   rw [if_neg hm] at h
   have e1 : index (b :: l) [0] = ((index l [0]).toNat + 1 : Nat) := by omega
   have e2 : index l [0] = ((index l [0]).toNat : Nat) := by omega
   rw [count_hit (by simp) e1, count_hit (s := l) (by simp) e2]
   rfl
open Go.Lib in
theorem OZ (s : List UInt8) : replaceAll s [0] [0, 255] = esc s := by
 have e : replaceNum s [0] (-1) = count s [0] := by unfold replaceNum; rw [if_pos (.inl (by omega))]
 unfold replaceAll replace
 rw [if_neg (by decide), e]
 induction s with
 | nil => rfl
 | cons b l ih =>
  rw [PY]
  unfold esc
  by_cases hb : b = 0
  ·have h := AL b l
   rw [if_pos hb] at h
   rw [if_pos hb, if_pos hb, Nat.add_comm, replaceK_hit _ _ _ _ 0 h]
   have e : replaceNum l [0] (-1) = count l [0] := by unfold replaceNum; rw [if_pos (.inl (by omega))]
   simp only [List.take_zero, List.nil_append, List.length_singleton, Nat.zero_add, List.drop_succ_cons, List.drop_zero]
   rw [ih e]; rfl
  ·rw [if_neg hb, if_neg hb, O4 _ _ _ hb, ih (by unfold replaceNum; rw [if_pos (.inl (by omega))])]
theorem TS (s : List UInt8) (h : s.length ≤ 1048576) : IJ s ([0] : List UInt8) ([0, 255] : List UInt8) = some (esc s) := by
 unfold IJ
 have := Go.Lib.count_le s [0]
 rw [if_pos ⟨by omega, by simp, (by show s.length + Go.Lib.count s [0] * 2 ≤ _; omega)⟩, OZ]
def body (v : ak) : List UInt8 :=
 if v.Kind = 1 then jy (v.N ^^^ 9223372036854775808) 8 else if v.Kind = 2 then jy v.N 8 else if v.Kind = 3 then jy v.N 1
 else if v.Kind = 4 ∨ v.Kind = 5 then esc v.S ++ [0, 0] else []
def enc (v : ak) : List UInt8 := (if v.Kind = 0 then 0 else 1) :: body v
theorem JY (v : ak) : (body v).length ≤ 2 * v.S.length + 8 := by
 unfold body
 have := EM v.S
 repeat' split
 all_goals simp [uL] <;> omega
theorem Po (a b : List UInt8) (h : b.length + a.length ≤ 70368744177664) : jT a b = some () := by
 unfold jT; rw [av (by rw [dB]; omega)]
theorem MG (n : UInt64) (m : Nat) (x : UInt16) (h : x.toNat = n.toNat / 2 ^ m % 65536) : (eU x 8).toUInt8 = UInt8.ofNat (n.toNat / 2 ^ (m + 8)) := by
 unfold eU
 rw [← UInt8.toNat_inj]
 have hx := x.toNat_lt
 have e : n.toNat / 2 ^ (m + 8) = n.toNat / 2 ^ m / 256 := by rw [Nat.pow_add, Nat.div_div_eq_div_mul]
 simp [UInt16.toNat_ofNat, e]
 omega
theorem MF (n : UInt64) (m : Nat) (x : UInt16) (h : x.toNat = n.toNat / 2 ^ m % 65536) : x.toUInt8 = UInt8.ofNat (n.toNat / 2 ^ m) := by
 rw [← UInt8.toNat_inj]
 simp [h]
 try omega
theorem ag8 (n : UInt64) : (dR n 32).toUInt32.toNat = n.toNat / 2 ^ 32 := by
 unfold dR
 have := n.toNat_lt
 simp [UInt64.toNat_ofNat]
 omega
theorem Mf (n : UInt64) (acc : List UInt8) : (((acc ++ [((eU ((fA ((dR n 32).toUInt32) 16).toUInt16) 8).toUInt8), (((fA ((dR n 32).toUInt32) 16).toUInt16).toUInt8)]) ++ [((eU (((dR n 32).toUInt32).toUInt16) 8).toUInt8), ((((dR n 32).toUInt32).toUInt16).toUInt8)]) ++ [((eU ((fA (n.toUInt32) 16).toUInt16) 8).toUInt8), (((fA (n.toUInt32) 16).toUInt16).toUInt8)]) ++ [((eU ((n.toUInt32).toUInt16) 8).toUInt8), (((n.toUInt32).toUInt16).toUInt8)] = acc ++ jy n 8 := by
 have hn := n.toNat_lt
 have h1 : ((fA ((dR n 32).toUInt32) 16).toUInt16).toNat = n.toNat / 2 ^ 48 % 65536 := by
  unfold fA
  have := ag8 n
  simp [UInt32.toNat_ofNat] at *
  omega
 have h2 : (((dR n 32).toUInt32).toUInt16).toNat = n.toNat / 2 ^ 32 % 65536 := by
  have := ag8 n
  simp at *
  omega
 have h3 : ((fA (n.toUInt32) 16).toUInt16).toNat = n.toNat / 2 ^ 16 % 65536 := by
  unfold fA
  simp [UInt32.toNat_ofNat]
  omega
 have h4 : ((n.toUInt32).toUInt16).toNat = n.toNat / 2 ^ 0 % 65536 := by
  simp
 rw [MG n 48 _ h1, MF n 48 _ h1, MG n 32 _ h2, MF n 32 _ h2, MG n 16 _ h3, MF n 16 _ h3, MG n 0 _ h4, MF n 0 _ h4]
 simp [jy]
theorem Kq (x : UInt16) (b : List UInt8) (h : b.length + 2 ≤ 70368744177664) : nu x b = some () := by
 unfold nu; rw [Po _ _ (by simpa using h)]; rfl
theorem Ko (x : UInt32) (b : List UInt8) (h : b.length + 4 ≤ 70368744177664) : nk x b = some () := by
 unfold nk; rw [Kq _ _ (by omega), ay, Kq _ _ (by simp; omega)]; rfl
theorem Kn (x : UInt64) (b : List UInt8) (h : b.length + 8 ≤ 70368744177664) : jF x b = some () := by
 unfold jF; rw [Ko _ _ (by omega), ay, Ko _ _ (by simp; omega)]; rfl
theorem Rc (v : ak) (d : Bool) (h : v.S.length ≤ 1048576) : vH v d = some (turn d (enc v)) := by
 have hf : lF (v.Kind != (0 : Int)) = some [if v.Kind = 0 then 0 else 1] := by
  unfold lF
  by_cases k : v.Kind = 0
  ·rw [k]; rfl
  ·rw [if_neg k, show (v.Kind != 0) = true by simpa using k]; rfl
 have hb := JY v
 obtain ⟨K, N, S⟩ := v
 simp only at h hf hb
 unfold vH
 simp only
 rw [hf, ay]
 -- the middle
 have key : ∀ (m : Option (List UInt8)) (q : List UInt8), m = some q → (if K = 4 ∨ K = 5 then q ++ (esc S ++ [0, 0]) else q) = enc ⟨K, N, S⟩ → q.length ≤ 100 →
   (Option.bind (α := (List UInt8)) m
  fun y50 =>
 Option.bind (jf y50) fun _ =>
 Option.bind (α := (List UInt8))
  (Option.bind (α := Bool)
   (bif (K == (4 : Int)) then
    some true
   else
    some (K == (5 : Int)))
   fun HV =>
  bif HV then
   Option.bind (IJ S ([0] : List UInt8) ([0, 255] : List UInt8)) fun r75 =>
   bif decide ((y50.length + r75.length) * 1 ≤ room) then
   bif decide (((y50 ++ r75).length + [(0 : UInt8), (0 : UInt8)].length) * 1 ≤ room) then
   some ((y50 ++ r75) ++ [(0 : UInt8), (0 : UInt8)])
   else none
   else none
  else
   some y50)
  fun y68 =>
 bif d then
  Option.bind (kJ y68) fun YA =>
  some YA
 else
  some y68) = some (turn d (enc ⟨K, N, S⟩)) := by
  intro m q hm he hq
  subst hm
  have hl := EM S
  rw [ay, show jf q = some () by unfold jf; rw [av (by rw [dB]; omega)], ay, TS S h]
  have hlen : (enc ⟨K, N, S⟩).length ≤ 4194304 := by unfold enc; simp; omega
  have ht : (bif d then Option.bind (kJ (enc ⟨K, N, S⟩)) fun YA => some YA else some (enc ⟨K, N, S⟩)) = some (turn d (enc ⟨K, N, S⟩)) := by
   cases d with
   | false => rfl
   | true => rw [cond_true, Lc _ (by omega)]; rfl
  by_cases k4 : K = 4
  ·rw [if_pos (.inl k4)] at he
   rw [k4] at he ht ⊢
   simp only [BEq.rfl, cond_true, ay]
   rw [av (by rw [dB]; omega), av (by rw [dB]; simp; omega), ay, List.append_assoc, he]
   exact ht
  by_cases k5 : K = 5
  ·rw [if_pos (.inr k5)] at he
   rw [k5] at he ht ⊢
   simp only [show ((5 : Int) == 4) = false from rfl, cond_false, BEq.rfl, cond_true, ay]
   rw [av (by rw [dB]; omega), av (by rw [dB]; simp; omega), ay, List.append_assoc, he]
   exact ht
  rw [if_neg (by omega)] at he
  subst he
  rw [beq_eq_false_iff_ne.2 k4, beq_eq_false_iff_ne.2 k5, cond_false, ay, cond_false, ay]
  exact ht
 by_cases k1 : K = 1
 ·subst k1
  refine key _ ([1] ++ jy (N ^^^ 9223372036854775808) 8) ?_ ?_ ?_
  rotate_left
  ·rfl
  ·simp [uL]
  ·simp only [BEq.rfl, cond_true]
   rw [Kn _ _ (by simp), ay, Mf]
   rfl
 by_cases k2 : K = 2
 ·subst k2
  refine key _ ([1] ++ jy N 8) ?_ ?_ ?_
  rotate_left
  ·rfl
  ·simp [uL]
  ·simp only [show ((2 : Int) == 1) = false from rfl, cond_false, BEq.rfl, cond_true]
   rw [Kn _ _ (by simp), ay, Mf]
   rfl
 by_cases k3 : K = 3
 ·subst k3
  refine key _ ([1] ++ jy N 1) ?_ ?_ ?_
  rotate_left
  ·rfl
  ·simp [uL]
  ·simp only [show ((3 : Int) == 1) = false from rfl, show ((3 : Int) == 2) = false from rfl, cond_false, BEq.rfl, cond_true]
   rw [show oM (N.toUInt8) [if (3 : Int) = 0 then 0 else 1] = some () from by unfold oM; rw [Po _ _ (by simp)]; rfl, ay, ao9]
   rfl
 refine key _ ([if K = 0 then 0 else 1]) ?_ ?_ ?_
 rotate_left
 ·unfold enc body
  simp only [k1, k2, k3, if_false]
  split <;> rfl
 ·simp
 ·rw [beq_eq_false_iff_ne.2 k1, beq_eq_false_iff_ne.2 k2, beq_eq_false_iff_ne.2 k3]; rfl
structure Sm (l : List ak) : Prop where
 len : l.length ≤ 1048576
 txt : ∀ v ∈ l, v.S.length ≤ 1048576
theorem Sm.get {l : List ak} (h : Sm l) {i : Nat} (hi : i < l.length) : (l[i]'hi).S.length ≤ 1048576 := h.txt _ (List.getElem_mem hi)
def bad (v : ak) : Bool := !val v
def wI : List ak → List Bool → List UInt8
 | v :: l, d :: ds => turn d (enc v) ++ wI l ds
 | _, _ => []
def encS (l : List ak) (ds : List Bool) : List UInt8 × Int :=
 if l.length = ds.length then
  if l.any bad = true then ([], 8) else if (wI l ds).length > 256 then ([], 7) else (wI l ds, 0)
 else ([], 1)
theorem FY : ∀ (l : List ak) (ds : List Bool) (i : Nat) (h : i < l.length) (h2 : i < ds.length), wI (l.take (i + 1)) (ds.take (i + 1)) = wI (l.take i) (ds.take i) ++ turn ds[i] (enc l[i])
 | v :: l, d :: ds, 0, h, h2 => by simp [wI]
 | v :: l, d :: ds, i + 1, h, h2 => by
  simp only [List.take_succ_cons, wI, List.getElem_cons_succ]
  rw [FY l ds i (by simpa using h) (by simpa using h2), List.append_assoc]
theorem Fp {v : ak} (h : val v = true) : v.S.length ≤ 64 := by
 unfold val at h
 simp only [Bool.or_eq_true, Bool.and_eq_true, beq_iff_eq, decide_eq_true_eq] at h
 rcases h with (((⟨_, _, h⟩ | ⟨_, h⟩) | ⟨_, _, h⟩) | ⟨_, _, h⟩) | ⟨_, _, h, _⟩
 ·rw [h]; simp
 ·rw [h]; simp
 ·rw [h]; simp
 ·exact h
 ·exact h
theorem xC {v : ak} (h : val v = true) : (enc v).length ≤ 137 := by
 have := JY v
 have := Fp h
 unfold enc
 simp; omega
theorem yM : ∀ (l : List ak) (ds : List Bool), l.any bad = false → (wI l ds).length ≤ 137 * l.length
 | [], ds, _ => by simp [wI]
 | v :: l, [], _ => by simp [wI]
 | v :: l, d :: ds, h => by
  rw [List.any_cons, Bool.or_eq_false_iff] at h
  have := xC (v := v) (by have := h.1; unfold bad at this; simpa using this)
  have := yM l ds h.2
  simp [wI, zQ]
  omega
theorem Qb {α : Type} (p : α → Bool) (l : List α) (i : Nat) (h : l.any p = false) : (l.take i).any p = false := by
 rw [List.any_eq_false] at h ⊢
 exact fun x hx => h x (List.mem_of_mem_take hx)
theorem Qo (v : ak) (h : v.S.length ≤ 1048576) : kK v = some (bad v) := by
 unfold kK; rw [zN v (by omega)]; rfl
theorem U1 (l : List ak) (h : Sm l) : bX l = some (l.any bad) := by
  unfold bX dI
  have hl := h.len
  have q := PE (B := (fun y69 =>
        bif (decide (y69 < (l.length : Int))) then
          Option.bind (bG l y69) fun v79 =>
          Option.bind (kK v79) fun YA =>
          bif YA then
            some (Sum.inr (Sum.inr y69))
          else
            some (Sum.inl (bF (y69 + (1 : Int))))
        else
          some (Sum.inr (Sum.inl ())))) l bad (fun i => .inr (i : Int)) (.inl ()) (fun i hi => by
      show (bif _ then _ else _) = _
      rw [av (by omega), bL hi, ay, Qo _ (h.get hi), ay]
      cases bad l[i]
      · rw [cond_false, bO (by omega)]; rfl
      · rfl) (by
      show (bif _ then _ else _) = _
      rw [aC (by omega)])
  rcases q with ⟨q1, i, _, _, q2⟩ | ⟨q1, q2⟩
  · rw [show (loop _ (0 : Int)) = _ from q2, q1]
    show some (decide ((i : Int) ≥ 0)) = _
    rw [decide_eq_true (by omega)]
  · rw [show (loop _ (0 : Int)) = _ from q2, q1]
    rfl
theorem Lf (l : List ak) (ds : List Bool) (h : Sm l) : oz l ds = some (encS l ds) := by
  unfold oz encS
  have hl := h.len
  by_cases he : l.length = ds.length
  rotate_left
  · rw [if_neg he, show ((l.length : Int) != (ds.length : Int)) = true by simp; omega]; rfl
  rw [if_pos he, show ((l.length : Int) != (ds.length : Int)) = false by simp; omega, cond_false, U1 l h, ay]
  cases hb : l.any bad with
  | true => rfl
  | false =>
    rw [cond_false, if_neg (by simp)]
    have hs := yM l ds hb
    have q := Eu (B := (fun (y97, y98) =>
            bif (decide (y98 < (l.length : Int))) then
              Option.bind (bG l y98) fun amM =>
              Option.bind (bG ds y98) fun amL =>
              Option.bind (vH amM amL) fun ahw =>
              bif decide ((y97.length + ahw.length) * 1 ≤ room) then
              some (Sum.inl ((y97 ++ ahw), (bF (y98 + (1 : Int)))))
              else none
            else
              some (Sum.inr y97))) (fun i => (wI (l.take i) (ds.take i), (i : Int))) l.length (w := wI l ds) ?_ ?_
    · rw [show (loop _ (([] : List UInt8), (0 : Int))) = _ from q, ay, ay]
      by_cases hlen : (wI l ds).length > 256
      · rw [if_pos hlen, av (by omega)]
      · rw [if_neg hlen, aC (by omega)]
    · intro i hi
      have h1 := yM (l.take i) (ds.take i) (Qb _ _ _ hb)
      have h2 := xC (v := l[i]) (by rw [List.any_eq_false] at hb; have := hb _ (List.getElem_mem hi); unfold bad at this; simpa using this)
      rw [List.length_take, Nat.min_eq_left (Nat.le_of_lt hi)] at h1
      show (bif _ then _ else _) = _
      rw [av (by omega), bL hi, ay, bL (by omega), ay, Rc _ _ (h.get hi), ay, av (by rw [dB, zQ]; omega), bO (by omega), FY l ds i hi (by omega)]
    · show (bif _ then _ else _) = _
      rw [aC (by omega), List.take_length, he, List.take_length]
end Lv
namespace Lv
open Go Go.Proofs
theorem Jt : ∀ a : List UInt8, Op.bytesLess a a = false
 | [] => rfl
 | x :: a => by simp [Op.bytesLess, Jt a]
def iU : List UInt8 → Option (List UInt8)
 | [] => none
 | x :: r => match iU r with
  | some r' => some (x :: r')
  | none => if x = 255 then none else some [x + 1]
theorem Bd : ∀ {q : List UInt8}, (∀ x, x ∈ q → x = 255) → iU q = none
 | [], _ => rfl
 | x :: q, h => by
  have hq : iU q = none := Bd fun y hy => h y (List.mem_cons_of_mem _ hy)
  have hx : x = 255 := h x (List.mem_cons_self ..)
  simp only [iU, hq, hx, if_true]
theorem wK : ∀ (p : List UInt8) {q : List UInt8}, (∀ x, x ∈ q → x = 255) → iU (p ++ q) = iU p
 | [], q, h => by rw [List.nil_append, Bd h]; rfl
 | x :: p, q, h => by simp only [List.cons_append, iU, wK p h]
theorem Bc : ∀ (p : List UInt8) {x : UInt8}, x ≠ 255 → iU (p ++ [x]) = some (p ++ [x + 1])
 | [], x, h => by simp [iU, h]
 | y :: p, x, h => by simp only [List.cons_append, iU, Bc p h]
variable [bJ]
theorem Qr (s : List UInt8) (hs : s.length < 4611686018427387904) : oQ s = some (match iU s with | some a => (a, true) | none => ([], false)) := by
 unfold oQ
 suffices hk : ∀ B : Nat → Option (Nat ⊕ Nat), (∀ y, y ≤ s.length → B y = some (if 0 < y ∧ s[y - 1]? = some 255 then .inl (y - 1) else .inr y)) → ∀ y, y ≤ s.length → ∃ n, n ≤ y ∧ loop B y = some n ∧ (∀ i, n ≤ i → i < y → s[i]? = some 255) ∧ (n = 0 ∨ s[n - 1]? ≠ some 255) by
  refine Exists.elim (hk (fun OD =>
    Option.bind (α := Bool)
     (bif (decide ((OD : Int) > (0 : Int))) then
      Option.bind (sD s 0 OD (bF ((OD : Int) - (1 : Int)))) fun gP =>
      some (gP == (255 : UInt8))
     else
      some false)
     fun vP =>
    bif vP then
     bif decide (0 ≤ (bF ((OD : Int) - (1 : Int))) ∧ (bF ((OD : Int) - (1 : Int))) ≤ (OD : Int)) then
     some (Sum.inl ((bF ((OD : Int) - (1 : Int))).toNat))
     else none
    else
     some (Sum.inr OD)) ?_ s.length (Nat.le_refl _)) ?_
  ·intro y hy
   show Option.bind (bif _ then _ else _) _ = _
   by_cases h0 : 0 < y
   rotate_left
   ·rw [aC (by omega), ay, cond_false, if_neg (fun h => h0 h.1)]
   rw [av (by omega), dF (n := (y : Int) - 1) (by omega) (by omega)]
   have hg : sD s 0 y ((y : Int) - 1) = s[y - 1]? := by
    unfold sD
    rw [if_pos (by omega), Nat.zero_add, show ((y : Int) - 1).toNat = y - 1 by omega]
   rw [hg, List.getElem?_eq_getElem (by omega), ay, ay]
   by_cases h1 : s[y - 1]'(by omega) = 255
   ·rw [h1, BEq.rfl, cond_true, av (by omega), if_pos ⟨h0, rfl⟩, show ((y : Int) - 1).toNat = y - 1 by omega]
   ·rw [beq_eq_false_iff_ne.2 h1, cond_false, if_neg (fun h => h1 (Option.some.inj h.2))]
  ·rintro n ⟨h1, h2, h3, h4⟩
   rw [h2, ay, ay]
   have hsplit : s = s.take n ++ s.drop n := (List.take_append_drop _ _).symm
   have hfull : ∀ x, x ∈ s.drop n → x = 255 := by
    intro x hx
    obtain ⟨i, hi⟩ := List.getElem?_of_mem hx
    rw [List.getElem?_drop] at hi
    have hlt := PD hi
    rw [h3 (n + i) (by omega) (by omega)] at hi
    exact (Option.some.inj hi).symm
   have e1 : iU s = iU (s.take n) := by
    conv => lhs; rw [hsplit]
    exact wK _ hfull
   rw [e1]
   by_cases h0 : n = 0
   ·subst h0; rfl
   obtain ⟨m, rfl⟩ : ∃ m, n = m + 1 := ⟨n - 1, by omega⟩
   have hm : m < s.length := by omega
   have hx : s[m] ≠ 255 := by
    rcases h4 with h4 | h4
    ·omega
    ·intro e; apply h4; rw [show m + 1 - 1 = m by omega, List.getElem?_eq_getElem hm, e]
   have hg : sD s 0 (m + 1) (m : Int) = some s[m] := by
    unfold sD
    rw [if_pos (by omega), Nat.zero_add, Int.toNat_natCast, List.getElem?_eq_getElem hm]
   rw [beq_eq_false_iff_ne.2 (show ¬ ((m + 1 : Nat) : Int) = 0 by omega), cond_false, dF (n := ((m + 1 : Nat) : Int) - 1) (by omega) (by omega), show ((m + 1 : Nat) : Int) - 1 = (m : Int) by omega, hg, ay, ay, Int.toNat_natCast, av (by simp; omega)]
   rw [List.take_succ_eq_append_getElem hm, Bc _ hx]
   simp only
   congr 2
   rw [List.drop_zero, List.take_set, List.take_succ_eq_append_getElem hm, List.set_append_right _ _ (by simp; omega)]
   have : m - (s.take m).length = 0 := by simp; omega
   rw [this, List.set_cons_zero]
 intro B hB y
 induction y with
 | zero => intro _; exact ⟨0, by omega, dY (by rw [hB 0 (by omega), if_neg (by omega)]), fun i _ _ => by omega, .inl rfl⟩
 | succ y ih =>
  intro hy
  have hb := hB (y + 1) hy
  by_cases h : s[y]? = some 255
  ·rw [if_pos ⟨by omega, by simpa using h⟩] at hb
   obtain ⟨n, h1, h2, h3, h4⟩ := ih (by omega)
   refine ⟨n, by omega, (dV hb).trans h2, fun i k1 k2 => ?_, h4⟩
   by_cases e : i = y
   ·rw [e]; exact h
   ·exact h3 i k1 (by omega)
  ·rw [if_neg (fun k => h (by simpa using k.2))] at hb
   exact ⟨y + 1, by omega, dY hb, fun i _ _ => by omega, .inr (by simpa using h)⟩
variable [bJ]
variable [bJ]
end Lv
namespace Lv
open Go Go.Proofs
variable [bJ]
theorem adw (a b : UInt8) : a < b ∨ b < a ∨ a = b := by
 rw [UInt8.lt_iff_toNat_lt, UInt8.lt_iff_toNat_lt, ← UInt8.toNat_inj]; omega
def letter (c : UInt8) : Bool := decide (97 ≤ c) && decide (c ≤ 122)
def Cq (c : UInt8) : Bool := letter c || c == 95 || (decide (48 ≤ c) && decide (c ≤ 57))
def xA : List UInt8 → Bool
 | [] => false
 | c :: r => decide (r.length < 16) && (letter c && r.all Cq)
theorem nall (l : List UInt8) : (l.any fun c => !Cq c) = !l.all Cq := by induction l <;> simp_all [List.any_cons, List.all_cons]
theorem vX (s : List UInt8) (hs : s.length < 4611686018427387904) : oh s = some (xA s) := by
 unfold oh
 cases s with
 | nil => rfl
 | cons c r =>
  have hlen : (c :: r).length = r.length + 1 := rfl
  have e1 : xA (c :: r) = (decide (r.length < 16) && (letter c && r.all Cq)) := rfl
  rw [e1]
  refine bo (a := !(decide (r.length < 16) && letter c)) ?_ ?_
  ·rw [aC (by omega), show bG (c :: r) 0 = some c from rfl]
   by_cases h16 : r.length < 16
   ·rw [aC (by omega), decide_eq_true h16]
    simp only [ay, Bool.true_and]
    clear e1 hlen hs
    revert c; exact u8F (by decide +kernel)
   ·rw [av (by omega), decide_eq_false h16]; rfl
  by_cases h16 : r.length < 16
  rotate_left
  ·rw [decide_eq_false h16]; rfl
  rw [decide_eq_true h16, Bool.true_and, Bool.true_and]
  cases hc : letter c with
  | false => rfl
  | true =>
   rw [Bool.not_true, cond_false, Bool.true_and]
   refine Oq (w := if r.all Cq = true then .inl () else .inr false) (nmB fun B hB => ?_) ?_
   rotate_left
   ·cases r.all Cq <;> rfl
   refine (lq3 r (fun c => !Cq c) (.inr false) (.inl ()) (fun i => ((i + 1 : Nat) : Int)) (fun i hi => ?_) ?_ rfl).trans ?_
   ·rw [hB]
    show (bif _ then _ else _) = _
    rw [av (by omega), xB, show (c :: r)[i + 1]? = some r[i] by simp [hi], bO (by omega)]
    generalize ((i + 1 + 1 : Nat) : Int) = k
    generalize r[i] = x
    simp only [ay]
    refine bo (a := !Cq x) ?_ ?_
    ·revert x; exact u8F (by decide +kernel)
    ·cases Cq x <;> rfl
   ·rw [hB]
    show (bif _ then _ else _) = _
    rw [aC (by omega)]
   ·rw [nall]; cases r.all Cq <;> rfl
def ZQ (c : aB) (v : ak) : Int :=
 if val v = false then 8 else if v.Kind = 0 then (if c.vN = true then 0 else 8) else if v.Kind ≠ c.Kind then 8 else if (v.Kind = 4 ∨ v.Kind = 5) ∧ (v.S.length : Int) > c.Max then 7 else 0
theorem KX (c : aB) (v : ak) (h : v.S.length < 4611686018427387904) : uh c v = some (ZQ c v) := by
 unfold uh ZQ
 rw [Ac v h, ay]
 cases hv : val v with
 | false => rfl
 | true =>
  simp only [Bool.not_true, cond_false, Bool.true_eq_false, if_false]
  by_cases h0 : v.Kind = 0
  ·rw [show (v.Kind == 0) = true by simpa using h0, if_pos h0, show (v.Kind != 0) = false by simpa using h0, h0]
   cases c.vN <;> rfl
  rw [show (v.Kind == 0) = false by simpa using h0, if_neg h0, show (v.Kind != 0) = true by simpa using h0]
  simp only [cond_false, cond_true, ay]
  by_cases hk : v.Kind = c.Kind
  rotate_left
  ·rw [show (v.Kind != c.Kind) = true by simpa using hk, if_pos hk]; rfl
  rw [show (v.Kind != c.Kind) = false by simpa using hk, if_neg (by simpa using hk), cond_false]
  refine bo (a := decide ((v.Kind = 4 ∨ v.Kind = 5) ∧ (v.S.length : Int) > c.Max)) ?_ ?_
  ·by_cases h4 : v.Kind = 4
   ·rw [show (v.Kind == 4) = true by simpa using h4]; simp [h4]
   ·rw [show (v.Kind == 4) = false by simpa using h4]
    by_cases h5 : v.Kind = 5
    ·rw [show (v.Kind == 5) = true by simpa using h5]; simp [h5]
    ·rw [show (v.Kind == 5) = false by simpa using h5]; simp [h4, h5]
  ·by_cases q : (v.Kind = 4 ∨ v.Kind = 5) ∧ (v.S.length : Int) > c.Max
   ·rw [av q, if_pos q]
   ·rw [aC q, if_neg q]
def ET (c : aB) : Int :=
 if xA c.Name = false then 1 else if c.Kind < 1 ∨ c.Kind > 5 then 8 else if (if c.Kind = 4 ∨ c.Kind = 5 then c.Max < 1 ∨ c.Max > 64 else c.Max ≠ 0) then 7 else ZQ c c.Default
theorem He (c : aB) (h : c.Name.length < 4611686018427387904) (h2 : c.Default.S.length < 4611686018427387904) : pU c = some (ET c) := by
 unfold pU ET
 rw [vX _ h, ay]
 cases xA c.Name with
 | false => rfl
 | true =>
  simp only [Bool.not_true, cond_false, Bool.true_eq_false, if_false]
  refine bo (a := decide (c.Kind < 1 ∨ c.Kind > 5)) ?_ ?_
  ·by_cases k1 : c.Kind < 1
   ·rw [av k1, decide_eq_true (Or.inl k1)]
   ·rw [aC k1]; congr 1; exact Rv (by omega)
  by_cases hk : c.Kind < 1 ∨ c.Kind > 5
  ·rw [av hk, if_pos hk]
  rw [aC hk, if_neg hk]
  refine bo (a := decide (if c.Kind = 4 ∨ c.Kind = 5 then c.Max < 1 ∨ c.Max > 64 else c.Max ≠ 0)) ?_ ?_
  ·by_cases hl : c.Kind = 4 ∨ c.Kind = 5
   ·rw [aC (by omega), av (by omega)]
    simp only [hl, if_true]
    by_cases m1 : c.Max < 1
    ·rw [av m1]; simp [m1]
    ·rw [aC m1]; simp [m1]
   ·rw [av (by omega)]
    simp only [hl, if_false]
    by_cases m : c.Max = 0
    ·rw [show (c.Max != 0) = false by simpa using m, cond_false, aC (by omega)]; simp [m]
    ·rw [show (c.Max != 0) = true by simpa using m]; simp [m]
  by_cases q : (if c.Kind = 4 ∨ c.Kind = 5 then c.Max < 1 ∨ c.Max > 64 else c.Max ≠ 0)
  ·rw [av q, if_pos q]
  ·rw [aC q, if_neg q, KX _ _ h2, ay]
def OkC (c : aB) : Prop := c.Name.length < 4611686018427387904 ∧ c.Default.S.length < 4611686018427387904
def aqK (l : List aB) : Prop := l.length < 4611686018427387904 ∧ ∀ c ∈ l, OkC c
theorem Zc (x : UInt8) : (255 : UInt8) - x = ~~~ x := by
 rw [← UInt8.toNat_inj]
 have := x.toNat_lt
 rw [UInt8.toNat_sub, UInt8.toNat_not]
 show (256 - x.toNat + 255) % 256 = _
 simp
 omega
theorem ao5 : jy 1 1 = [1] := by decide
theorem af4 : jy 0 1 = [0] := by decide
theorem adk : jy 0 2 = [0, 0] := by decide
theorem b8 (x : UInt8) : jy x.toUInt64 1 = [x] := by
 unfold jy
 simp [jy]
theorem aqI : jy 255 1 = [255] := by decide
theorem IY (v : ak) (d : Bool) (h : v.S.length ≤ 1048576) : pR v d = some (turn d (enc v)) := by
  have hl := EM v.S
  have hb := JY v
  have hlen : (enc v).length ≤ 4194304 := by unfold enc; simp; omega
  unfold pR
  have h1 : (bif (v.Kind == (0 : Int)) then
      Option.bind (jJ (0 : UInt64) (1 : Int)) fun ao2 =>
      some ao2
    else
      Option.bind (jJ (1 : UInt64) (1 : Int)) fun ao1 =>
      some ao1) = some [if v.Kind = 0 then 0 else 1] := by
    have e0 := mX 0 1 [] (by omega) (by simp)
    have e1 := mX 1 1 [] (by omega) (by simp)
    by_cases k : v.Kind = 0
    · rw [k, if_pos rfl]
      simp only [BEq.rfl, cond_true, GK]
      rw [show cO 0 1 [] = _ from e0, af4]; rfl
    · rw [if_neg k, beq_eq_false_iff_ne.2 k, cond_false, GK, show cO 1 1 [] = _ from e1, ao5]; rfl
  rw [h1, ay]
  -- the middle
  have key : ∀ (m : Option (List UInt8)) (f : List UInt8 → Option (List UInt8)), m = some (enc v) → f (enc v) = some (turn d (enc v)) → Option.bind m f = some (turn d (enc v)) := by
    intro m f hm hf; subst hm; exact hf
  refine key _ _ ?_ ?_
  · by_cases k1 : v.Kind = 1
    · rw [k1, BEq.rfl, cond_true]
      rw [show cO (v.N ^^^ 9223372036854775808) 8 _ = _ from mX _ 8 _ (by omega) (by simp)]
      unfold enc body
      rw [k1]
      rfl
    by_cases k2 : v.Kind = 2
    · rw [k2, show ((2 : Int) == 1) = false from rfl, cond_false, BEq.rfl, cond_true]
      rw [show cO v.N 8 _ = _ from mX _ 8 _ (by omega) (by simp)]
      unfold enc body
      rw [k2]
      rfl
    by_cases k3 : v.Kind = 3
    · rw [k3, show ((3 : Int) == 1) = false from rfl, show ((3 : Int) == 2) = false from rfl, cond_false, cond_false, BEq.rfl, cond_true]
      rw [show cO v.N 1 _ = _ from mX _ 1 _ (by omega) (by simp)]
      unfold enc body
      rw [k3]
      rfl
    rw [beq_eq_false_iff_ne.2 k1, beq_eq_false_iff_ne.2 k2, beq_eq_false_iff_ne.2 k3, cond_false, cond_false, cond_false]
    by_cases k45 : v.Kind = 4 ∨ v.Kind = 5
    · have c : (bif v.Kind == 4 then some (v.Kind == 4) else some (v.Kind == 5)) = some true := by rcases k45 with k | k <;> rw [k] <;> rfl
      have k0 : ¬ v.Kind = 0 := by omega
      rw [c, ay, cond_true, if_neg k0]
      have q := Eu (B := (fun (YR, agk) =>
                  bif (decide (YR < (v.S.length : Int))) then
                    Option.bind (α := (List UInt8))
                      (Option.bind (bG v.S YR) fun amJ =>
                      Option.bind (cO (amJ.toUInt64) (1 : Int) agk) fun ahl =>
                      Option.bind (bG v.S YR) fun amI =>
                      bif (amI == (0 : UInt8)) then
                        Option.bind (cO (255 : UInt64) (1 : Int) ahl) fun ao0 =>
                        some ao0
                      else
                        some ahl)
                      fun al3 =>
                    some (Sum.inl ((bF (YR + (1 : Int))), al3))
                  else
                    some (Sum.inr agk))) (fun i => ((i : Int), [1] ++ esc (v.S.take i))) v.S.length (w := [1] ++ esc v.S) ?_ ?_
      · rw [show (loop _ ((0 : Int), [(1 : UInt8)])) = _ from q, ay, ay]
        rw [show cO 0 2 _ = _ from mX 0 2 _ (by omega) (by simp; omega), adk]
        unfold enc body
        rcases k45 with k | k <;> simp [k]
      · intro i hi
        have es := EM (v.S.take i)
        have tl : (v.S.take i).length ≤ v.S.length := by simp; omega
        have he : esc (v.S.take (i + 1)) = esc (v.S.take i) ++ (if v.S[i] = 0 then [0, 255] else [v.S[i]]) := by
          rw [List.take_succ_eq_append_getElem hi]
          generalize v.S.take i = l
          induction l with
          | nil => unfold esc; simp only [List.nil_append]; split <;> simp_all [esc]
          | cons x l ih =>
            rw [List.cons_append]
            unfold esc
            split <;> simp [ih]
        show (bif _ then _ else _) = _
        rw [av (by omega), bL hi, ay]
        rw [show cO (v.S[i].toUInt64) 1 _ = _ from mX _ 1 _ (by omega) (by simp; omega), ay, ay, b8, he]
        by_cases hz : v.S[i] = 0
        · rw [hz, BEq.rfl, cond_true, if_pos rfl]
          rw [show cO 255 1 _ = _ from mX 255 1 _ (by omega) (by simp; omega), ay, ay, aqI, bO (by omega)]
          simp
        · rw [beq_eq_false_iff_ne.2 hz, cond_false, if_neg hz, ay, bO (by omega)]
          simp
      · show (bif _ then _ else _) = _
        rw [aC (by omega), List.take_length]
    · have c : (bif v.Kind == 4 then some (v.Kind == 4) else some (v.Kind == 5)) = some false := by
        rw [beq_eq_false_iff_ne.2 (show ¬ v.Kind = 4 by omega), beq_eq_false_iff_ne.2 (show ¬ v.Kind = 5 by omega)]; rfl
      rw [c, ay, cond_false]
      unfold enc body
      simp only [k1, k2, k3, k45, if_false]
  · generalize enc v = b at hlen
    refine Df (w := turn d b) (nmB fun B hB => ?_) rfl
    cases d with
    | false =>
      refine dY ?_
      rw [hB]
      show Option.bind (bif _ then _ else _) _ = _
      cases decide ((0 : Int) < (b.length : Int)) <;> rfl
    | true =>
      refine Dc (fun i => ((i : Int), mapped (fun x => ~~~ x) b i)) b.length (fun i hi => ?_) ?_ (by rw [Gy]; rfl)
      · have hm := Jo (fun x => ~~~ x) b i
        have hg : bG (mapped (fun x => ~~~ x) b i) (i : Int) = some (b[i]'hi) := by rw [xB, Jp _ _ hi]
        rw [hB]
        show Option.bind (bif _ then _ else _) _ = _
        rw [av (by omega), ay, cond_true]
        show Option.bind (bG (mapped (fun x => ~~~ x) b i) (i : Int)) _ = _
        rw [hg, ay, ay, Zc, bO (by omega), Int.toNat_natCast]
        exact congrArg (fun x => some (Sum.inl (_, x))) (Jm (fun x => ~~~ x) _ hi)
      · rw [hB]
        have hm := Jo (fun x => ~~~ x) b b.length
        show Option.bind (bif _ then _ else _) _ = _
        rw [aC (by omega)]
        show some (Sum.inr (mapped (fun x => ~~~ x) b b.length)) = _
        rw [Jq]
        rfl
theorem KT (l : List ak) (ds : List Bool) (he : l.length = ds.length) (hl : l.length ≤ 1048576) (hv : l.any bad = false) : rO l ds = some (wI l ds) := by
 unfold rO
 refine Df (w := wI l ds) (Dc (fun i => (wI (l.take i) (ds.take i), (i : Int))) l.length (fun i hi => ?_) ?_ rfl) rfl
 ·have h1 := yM (l.take i) (ds.take i) (Qb _ _ _ hv)
  have hb : val l[i] = true := by rw [List.any_eq_false] at hv; have := hv _ (List.getElem_mem hi); unfold bad at this; simpa using this
  have h2 := xC (v := l[i]) hb
  have h3 := Fp hb
  rw [List.length_take, Nat.min_eq_left (Nat.le_of_lt hi)] at h1
  show (bif _ then _ else _) = _
  rw [av (by omega), bL hi, ay, bL (by omega), ay, IY _ _ (by omega), ay, av (by rw [dB, zQ]; omega), bO (by omega), FY l ds i hi (by omega)]
 ·show (bif _ then _ else _) = _
  rw [aC (by omega), List.take_length, he, List.take_length]
theorem k45 (v : ak) : (bif v.Kind == 4 then some (v.Kind == 4) else some (v.Kind == 5)) = some (decide (v.Kind = 4 ∨ v.Kind = 5)) := by
 by_cases k : v.Kind = 4
 ·rw [k]; rfl
 ·rw [beq_eq_false_iff_ne.2 k, cond_false]; congr 1; simp [k, Bool.beq_eq_decide_eq]
theorem eqV (v w : ak) : dw v w = decide (v = w) := by
 cases v; cases w
 simp only [dw, ak.mk.injEq]
 rw [Bool.eq_iff_iff]
 simp
theorem rR {α W : Type} {f : Nat → α → Option W} : ∀ {l : List α} {i : Nat}, eH f i l = none ↔ ∀ j (h : j < l.length), f (i + j) (l[j]'h) = none
 | [], i => by simp [eH]
 | x :: r, i => by
  rw [eH]
  cases hf : f i x with
  | some w =>
   simp only [reduceCtorEq, false_iff]
   intro h
   have := h 0 (by simp)
   simp [hf] at this
  | none =>
   simp only
   rw [rR (l := r) (i := i + 1)]
   constructor
   ·intro h j hj
    cases j with
    | zero => simpa using hf
    | succ j => have := h j (by simpa using hj); simpa [Nat.add_assoc, Nat.add_comm 1 j] using this
   ·intro h j hj
    have := h (j + 1) (by simpa using hj)
    simpa [Nat.add_assoc, Nat.add_comm 1 j] using this
def OkX (x : bE) : Prop := x.Name.length < 4611686018427387904 ∧ x.Parts.length < 4611686018427387904 ∧ x.Extra.length < 4611686018427387904
structure OkT (t : aP) : Prop where
 name : t.Name.length < 4611686018427387904
 d9 : aqK t.aV
 adQ : t.aH.length < 4611686018427387904
 idxs : t.bn.length < 4611686018427387904
 idx : ∀ x ∈ t.bn, OkX x
def oC (l : List Int) (x : Int) : Bool := l.any fun y => y == x
theorem iQ (l : List Int) (x : Int) (h : l.length < 4611686018427387904) : gM l x = some (oC l x) := by
 unfold gM
 refine Oq (lq3 l (fun y => y == x) (.inr true) (.inl ()) (fun i => (i : Int)) (fun i hi => ?_) ?_ rfl) ?_
 ·show (bif _ then _ else _) = _
  rw [av (by omega), bL hi, ay, bO (by omega)]
  cases l[i] == x <;> rfl
 ·show (bif _ then _ else _) = _
  rw [aC (by omega)]
 ·unfold oC; cases (l.any fun y => y == x) <;> rfl
def Zy (n : Int) (l : List Int) (i : Nat) (c : Int) : Option Unit := if c < 0 ∨ c ≥ n ∨ oC (l.take i) c = true then some () else none
def fU (n : Int) (l : List Int) : Bool := (eH (Zy n l) 0 l).isNone
theorem rZ (n : Int) (l : List Int) (h : l.length < 4611686018427387904) : kE n l = some (fU n l) := by
 unfold kE
 refine Oq (lq5 l (fun i c => (Zy n l i c).map fun _ => (.inr false : Unit ⊕ Bool)) (.inl ()) (fun i => (i : Int)) (fun i hi => ?_) ?_ rfl) ?_
 ·show (bif _ then _ else _) = _
  rw [av (by omega), bL hi, bO (by omega)]
  simp only [ay]
  refine bo (a := decide (l[i] < 0 ∨ l[i] ≥ n ∨ oC (l.take i) l[i] = true)) ?_ ?_
  ·by_cases h1 : l[i] < 0
   ·rw [av h1]; simp [h1]
   rw [aC h1]
   by_cases h2 : l[i] ≥ n
   ·rw [av h2]; simp [h2]
   rw [aC h2, av (by omega), Int.toNat_natCast, iQ _ _ (by simp; omega), ay]
   simp [h1, h2]
  ·unfold Zy
   by_cases q : l[i] < 0 ∨ l[i] ≥ n ∨ oC (l.take i) l[i] = true
   ·rw [av q, if_pos q]; rfl
   ·rw [aC q, if_neg q]; rfl
 ·show (bif _ then _ else _) = _
  rw [aC (by omega)]
 ·unfold fU
  have key : ∀ (r : List Int) (i : Nat), eH (fun i c => (Zy n l i c).map fun _ => (.inr false : Unit ⊕ Bool)) i r = (eH (Zy n l) i r).map fun _ => .inr false := by
   intro r
   induction r with
   | nil => intro i; rfl
   | cons x r ih => intro i; rw [eH, eH]; cases Zy n l i x <;> simp [ih]
  rw [key]
  cases eH (Zy n l) 0 l <;> rfl
theorem yu {n : Int} {l : List Int} (h : fU n l = true) : ∀ c ∈ l, 0 ≤ c ∧ c < n := by
 unfold fU at h
 rw [Option.isNone_iff_eq_none, rR] at h
 intro c hc
 obtain ⟨i, hi, rfl⟩ := List.mem_iff_getElem.1 hc
 have := h i hi
 unfold Zy at this
 split at this
 ·cases this
 ·rename_i q; rw [not_or, not_or] at q; omega
theorem K6 {n : Int} {l : List Int} (h : fU n l = true) : l.Nodup := by
 unfold fU at h
 rw [Option.isNone_iff_eq_none, rR] at h
 show List.Pairwise (· ≠ ·) l
 rw [List.pairwise_iff_getElem]
 intro i j hi hj hij e
 have := h j hj
 unfold Zy at this
 split at this
 ·cases this
 ·rename_i q
  rw [not_or, not_or] at q
  refine q.2.2 ?_
  unfold oC
  rw [List.any_eq_true]
  refine ⟨l[i], ?_, by simp [e]⟩
  rw [Nat.zero_add]
  exact List.mem_iff_getElem.2 ⟨i, by simp; omega, by simp⟩
theorem Wx {α β : Type} (f : α → β) (l : List α) {i : Nat} (hi : i < l.length) : (l.take (i + 1)).map f = (l.take i).map f ++ [f l[i]] := by
 rw [List.take_succ_eq_append_getElem hi, List.map_append]; rfl
def q8 (l : List Int) : List aI := l.map fun c => ⟨c, false⟩
theorem Gr (l : List Int) (h : l.length ≤ 1048576) : wY l = some (q8 l) := by
 unfold wY
 refine Df (w := q8 l) (Dc (fun i => (q8 (l.take i), (i : Int))) l.length (fun i hi => ?_) ?_ rfl) rfl
 ·show (bif _ then _ else _) = _
  rw [av (by omega), bL hi, ay, av (by rw [dB]; simp [q8]; omega), bO (by omega), show q8 (l.take (i + 1)) = _ from Wx _ l hi]
  rfl
 ·show (bif _ then _ else _) = _
  rw [aC (by omega), List.take_length]
def cZ (l : List aI) : List Int := l.map (·.Col)
theorem nO (l : List aI) (h : l.length ≤ 1048576) : jI l = some (cZ l) := by
 unfold jI
 refine Df (w := cZ l) (Dc (fun i => (cZ (l.take i), (i : Int))) l.length (fun i hi => ?_) ?_ rfl) rfl
 ·show (bif _ then _ else _) = _
  rw [av (by omega), bL hi, ay, av (by rw [dB]; simp [cZ]; omega), bO (by omega), show cZ (l.take (i + 1)) = _ from Wx _ l hi]
  rfl
 ·show (bif _ then _ else _) = _
  rw [aC (by omega), List.take_length]
def zL (c : aB) (each : Int) : Int := if c.Kind = 1 ∨ c.Kind = 2 then 9 else if c.Kind = 3 then 2 else 3 + each * c.Max
theorem ZX {c : aB} (h : ET c = 0) : xA c.Name = true ∧ 1 ≤ c.Kind ∧ c.Kind ≤ 5 ∧ (if c.Kind = 4 ∨ c.Kind = 5 then 1 ≤ c.Max ∧ c.Max ≤ 64 else c.Max = 0) ∧ ZQ c c.Default = 0 := by
 unfold ET at h
 by_cases h1 : xA c.Name = false
 ·rw [if_pos h1] at h; cases h
 rw [if_neg h1] at h
 by_cases h2 : c.Kind < 1 ∨ c.Kind > 5
 ·rw [if_pos h2] at h; cases h
 rw [if_neg h2] at h
 by_cases h3 : (if c.Kind = 4 ∨ c.Kind = 5 then c.Max < 1 ∨ c.Max > 64 else c.Max ≠ 0)
 ·rw [if_pos h3] at h; cases h
 rw [if_neg h3] at h
 refine ⟨by simpa using h1, by omega, by omega, ?_, h⟩
 by_cases k : c.Kind = 4 ∨ c.Kind = 5
 ·rw [if_pos k] at h3 ⊢; omega
 ·rw [if_neg k] at h3 ⊢; omega
theorem X4 {c : aB} (h : ET c = 0) : 0 ≤ c.Max ∧ c.Max ≤ 64 := by
 have := (ZX h).2.2.2.1
 split at this <;> omega
theorem Ch (c : aB) (each : Int) (hc : 0 ≤ c.Max ∧ c.Max ≤ 64) (he : each = 1 ∨ each = 2) : qy c each = some (zL c each) := by
 unfold qy zL
 refine bo (a := decide (c.Kind = 1 ∨ c.Kind = 2)) ?_ ?_
 ·by_cases k : c.Kind = 1
  ·rw [k]; rfl
  ·rw [beq_eq_false_iff_ne.2 k, cond_false]; congr 1; simp [k, Bool.beq_eq_decide_eq]
 by_cases k : c.Kind = 1 ∨ c.Kind = 2
 ·rw [av k, if_pos k]
 rw [aC k, if_neg k]
 by_cases k3 : c.Kind = 3
 ·rw [show (c.Kind == 3) = true by simpa using k3, cond_true, if_pos k3]
 rw [show (c.Kind == 3) = false by simpa using k3, cond_false, if_neg k3]
 have hm : 0 ≤ each * c.Max ∧ each * c.Max ≤ 128 := by rcases he with rfl | rfl <;> omega
 generalize each * c.Max = m at hm ⊢
 rw [dF (n := m) (by omega) (by omega), dF (by omega) (by omega)]
theorem DN {c : aB} {each : Int} (hc : 0 ≤ c.Max ∧ c.Max ≤ 64) (he : each = 1 ∨ each = 2) : 0 ≤ zL c each ∧ zL c each ≤ 131 := by
 unfold zL
 have hm : 0 ≤ each * c.Max ∧ each * c.Max ≤ 128 := by rcases he with rfl | rfl <;> omega
 repeat' split
 all_goals omega
theorem Fu {α : Type} (f : α → Int) : ∀ {l : List α}, (∀ x ∈ l, 0 ≤ f x ∧ f x ≤ 131) → 0 ≤ (l.map f).sum ∧ (l.map f).sum ≤ 131 * l.length
 | [], _ => by simp
 | x :: l, h => by
  have h1 := h x (by simp)
  have h2 := Fu f (l := l) (fun y hy => h y (by simp [hy]))
  simp only [List.map_cons, List.sum_cons, List.length_cons]
  omega
theorem OW (l : List Int) (i : Nat) (hi : i < l.length) : (l.take (i + 1)).sum = (l.take i).sum + l[i] := by
 rw [List.take_succ_eq_append_getElem hi, List.sum_append]
 simp only [List.sum_cons, List.sum_nil, Int.add_zero]
def lN (l : List aB) : Int := 1 + (l.map fun c => zL c 1).sum
theorem G6 (l : List aB) (h : l.length ≤ 24) (hc : ∀ c ∈ l, 0 ≤ c.Max ∧ c.Max ≤ 64) : pQ l = some (lN l) := by
 unfold pQ
 refine Df (w := lN l) (Dc (fun i => (lN (l.take i), (i : Int))) l.length (fun i hi => ?_) ?_ rfl) rfl
 ·have b := Fu (fun c => zL c 1) (l := l.take i) (fun c h => DN (hc c (List.mem_of_mem_take h)) (.inl rfl))
  have w := DN (each := 1) (hc _ (List.getElem_mem hi)) (.inl rfl)
  have tl : (l.take i).length ≤ 24 := by simp; omega
  show (bif _ then _ else _) = _
  rw [av (by omega), bL hi, ay, Ch _ _ (hc _ (List.getElem_mem hi)) (.inl rfl), ay, bO (by omega)]
  have e : lN (l.take (i + 1)) = lN (l.take i) + zL l[i] 1 := by
   unfold lN
   rw [List.map_take, List.map_take, OW _ _ (by simpa using hi)]; simp; omega
  rw [e, dF (by unfold lN; omega) (by unfold lN; omega)]
 ·show (bif _ then _ else _) = _
  rw [aC (by omega), List.take_length]
def zk (d9 : List aB) (i : Int) : aB := (d9[i.toNat]?).getD default
theorem P5 {d9 : List aB} {i : Int} (h : 0 ≤ i ∧ i < d9.length) : bG d9 i = some (zk d9 i) := by
 unfold bG zk
 rw [if_pos h.1]
 have hl : i.toNat < d9.length := by omega
 rw [List.getElem?_eq_getElem hl]; rfl
theorem F5 {d9 : List aB} {i : Int} (h : 0 ≤ i ∧ i < d9.length) : zk d9 i ∈ d9 := by
 unfold zk
 have hl : i.toNat < d9.length := by omega
 rw [List.getElem?_eq_getElem hl]; exact List.getElem_mem hl
def jl (d9 : List aB) (l : List aI) : Int := (l.map fun p => zL (zk d9 p.Col) 2).sum
theorem y7 (d9 : List aB) (l : List aI) (h : l.length ≤ 1048576) (hp : ∀ p ∈ l, 0 ≤ p.Col ∧ p.Col < d9.length) (hc : ∀ c ∈ d9, 0 ≤ c.Max ∧ c.Max ≤ 64) : mZ d9 l = some (jl d9 l) := by
 unfold mZ
 refine Df (w := jl d9 l) (Dc (fun i => (jl d9 (l.take i), (i : Int))) l.length (fun i hi => ?_) ?_ rfl) rfl
 ·have b := Fu (fun p : aI => zL (zk d9 p.Col) 2) (l := l.take i) (fun p h => DN (hc _ (F5 (hp p (List.mem_of_mem_take h)))) (.inr rfl))
  have hq := hp _ (List.getElem_mem hi)
  have w := DN (each := 2) (hc _ (F5 hq)) (.inr rfl)
  have tl : (l.take i).length ≤ 1048576 := by simp; omega
  show (bif _ then _ else _) = _
  rw [av (by omega), bL hi, ay, P5 hq, ay, Ch _ _ (hc _ (F5 hq)) (.inr rfl), ay, bO (by omega)]
  have e : jl d9 (l.take (i + 1)) = jl d9 (l.take i) + zL (zk d9 l[i].Col) 2 := by
   unfold jl
   rw [List.map_take, List.map_take, OW _ _ (by simpa using hi)]; simp
  rw [e, dF (by unfold jl; omega) (by unfold jl; omega)]
 ·show (bif _ then _ else _) = _
  rw [aC (by omega), List.take_length]
def sw (t : aP) (x : bE) : Int :=
 if x.Parts.length < 1 ∨ x.Parts.length > 4 ∨ fU t.aV.length (cZ x.Parts) = false ∨ fU t.aV.length x.Extra = false then 1
 else if (x.Extra.any fun c => oC (cZ x.Parts) c || oC t.aH c) = true then 1
 else if jl t.aV x.Parts > 128 then 7 else 0
theorem Ws {n : Int} {l : List aI} (h : fU n (cZ l) = true) : ∀ p ∈ l, 0 ≤ p.Col ∧ p.Col < n := fun p hp => yu h p.Col (List.mem_map.2 ⟨p, hp, rfl⟩)
theorem IV (t : aP) (x : bE) (hc : ∀ c ∈ t.aV, 0 ≤ c.Max ∧ c.Max ≤ 64) (hx : OkX x) (hp : t.aH.length < 4611686018427387904) : rJ t x = some (sw t x) := by
 unfold rJ sw
 obtain ⟨o1, o2, o3⟩ := hx
 refine bo (a := decide (x.Parts.length < 1 ∨ x.Parts.length > 4 ∨ fU t.aV.length (cZ x.Parts) = false ∨ fU t.aV.length x.Extra = false)) ?_ ?_
 ·by_cases h1 : x.Parts.length < 1
  ·rw [av (by omega), decide_eq_true (.inl h1)]
  rw [aC (by omega)]
  by_cases h2 : x.Parts.length > 4
  ·rw [av (by omega), decide_eq_true (.inr (.inl h2))]
  rw [aC (by omega), nO _ (by omega), ay, rZ _ _ (by simp [cZ]; omega), ay]
  cases p1 : fU t.aV.length (cZ x.Parts) with
  | false => simp
  | true =>
   rw [Bool.not_true, cond_false, rZ _ _ o3, ay]
   cases p2 : fU t.aV.length x.Extra <;> simp [h1, h2]
 by_cases q : x.Parts.length < 1 ∨ x.Parts.length > 4 ∨ fU t.aV.length (cZ x.Parts) = false ∨ fU t.aV.length x.Extra = false
 ·rw [av q, if_pos q]
 rw [aC q, if_neg q]
 simp only [not_or, Bool.not_eq_false] at q
 refine Oq (lq3 x.Extra (fun c => oC (cZ x.Parts) c || oC t.aH c) (.inr 1) (.inl ()) (fun i => (i : Int)) (fun i hi => ?_) ?_ rfl) ?_
 ·show (bif _ then _ else _) = _
  rw [av (by omega), bL hi, bO (by omega), nO _ (by omega)]
  simp only [ay]
  rw [iQ _ _ (by simp [cZ]; omega), ay, iQ _ _ hp]
  cases oC (cZ x.Parts) x.Extra[i] <;> cases oC t.aH x.Extra[i] <;> rfl
 ·show (bif _ then _ else _) = _
  rw [aC (by omega)]
 ·cases (x.Extra.any fun c => oC (cZ x.Parts) c || oC t.aH c) with
  | true => rfl
  | false =>
   simp only [Bool.false_eq_true, if_false, Sum.elim_inl]
   rw [y7 _ _ (by omega) (Ws q.2.2.1) hc, ay]
   by_cases k : jl t.aV x.Parts > 128
   ·rw [av k, if_pos k]
   ·rw [aC k, if_neg k]
def colE (l : List aB) (i : Nat) (c : aB) : Option Int := if ET c ≠ 0 then some (ET c) else if ((l.take i).any fun d => d.Name == c.Name) = true then some 6 else none
def Ns (t : aP) (i : Nat) (x : bE) : Option Int :=
 if xA x.Name = false then some 1 else if ((t.bn.take i).any fun y => y.Name == x.Name) = true then some 6 else if sw t x ≠ 0 then some (sw t x) else none
def X5 (t : aP) : Int :=
 if xA t.Name = false then 1 else if t.aV.length < 1 ∨ t.aV.length > 24 then 7 else match eH (colE t.aV) 0 t.aV with
 | some e => e
 | none => if t.aH.length < 1 ∨ t.aH.length > 4 ∨ fU t.aV.length t.aH = false then 1
  else if (t.aH.any fun c => (zk t.aV c).vN) = true then 1
  else if lN t.aV > 512 ∨ jl t.aV (q8 t.aH) > 128 ∨ t.bn.length > 6 then 7
  else match eH (Ns t) 0 t.bn with
   | some e => e
   | none => 0
theorem agV {n : Int} {l : List Int} (h : fU n l = true) : ∀ p ∈ q8 l, 0 ≤ p.Col ∧ p.Col < n := by
 intro p hp
 obtain ⟨c, hc, rfl⟩ := List.mem_map.1 hp
 exact yu h c hc
theorem Dn {α W V : Type} (f : Nat → α → Option W) (g : W → V) : ∀ (l : List α) (i : Nat), eH (fun i x => (f i x).map g) i l = (eH f i l).map g
 | [], i => rfl
 | x :: r, i => by rw [eH, eH]; cases f i x <;> simp [Dn f g r]
theorem ES {l : List aB} (h : eH (colE l) 0 l = none) : ∀ c ∈ l, ET c = 0 := by
 rw [rR] at h
 intro c hc
 obtain ⟨i, hi, rfl⟩ := List.mem_iff_getElem.1 hc
 have := h i hi
 unfold colE at this
 by_cases q : ET l[i] = 0
 ·exact q
 ·rw [if_pos q] at this; cases this
theorem IX (t : aP) (h : OkT t) : rM t = some (X5 t) := by
  unfold rM X5
  rw [vX _ h.name, ay]
  cases xA t.Name with
  | false => rfl
  | true =>
  rw [Bool.not_true, cond_false, if_neg (by simp)]
  refine bo (a := decide (t.aV.length < 1 ∨ t.aV.length > 24)) ?_ ?_
  · by_cases k : t.aV.length < 1
    · rw [av (by omega)]; simp [k]
    · rw [aC (by omega)]; congr 1; exact Rv (by omega)
  by_cases q : t.aV.length < 1 ∨ t.aV.length > 24
  · rw [av q, if_pos q]
  rw [aC q, if_neg q]
  refine Oq (lq5 t.aV (fun i c => (colE t.aV i c).map fun e => (.inr e : Unit ⊕ Int)) (.inl ()) (fun i => (i : Int)) (fun i hi => ?_) ?_ rfl) ?_
  · have hm := List.getElem_mem hi
    show (bif _ then _ else _) = _
    rw [av (by omega), bL hi, bO (by omega)]
    unfold colE
    refine (?_ : eu _ _ _ = _)
    simp only [ay]
    rw [He _ (h.d9.2 _ hm).1 (h.d9.2 _ hm).2, ay]
    by_cases k : ET t.aV[i] = 0
    rotate_left
    · rw [show (ET t.aV[i] != 0) = true by simpa using k, cond_true, Ti, if_pos k]; rfl
    rw [show (ET t.aV[i] != 0) = false by simpa using k, cond_false, if_neg (by simpa using k)]
    have tl : (t.aV.take i).length = i := by simp; omega
    have inner := lq3 (y0 := (0 : Int)) (B := (fun ado : Int =>
                      bif (decide (ado < (i : Int))) then
                        Option.bind (bG t.aV ado) fun amK =>
                        bif (amK.Name == t.aV[i].Name) then
                          some (Sum.inr (Sum.inr (6 : Int)))
                        else
                          some (Sum.inl (bF (ado + (1 : Int))))
                      else
                        some (Sum.inr (Sum.inl ())))) (t.aV.take i) (fun d => d.Name == t.aV[i].Name) (.inr 6) (.inl ()) (fun j => (j : Int)) (fun j hj => by
          show (bif _ then _ else _) = _
          rw [av (by omega), bL (by omega), ay, bO (by omega), List.getElem_take]
          cases t.aV[j].Name == t.aV[i].Name <;> rfl) (by
          show (bif _ then _ else _) = _
          rw [aC (by omega)]) rfl
    cases ha : ((t.aV.take i).any fun d => d.Name == t.aV[i].Name) with
    | true =>
      rw [ha] at inner
      rw [inner]; rfl
    | false =>
      rw [ha] at inner
      rw [inner]; rfl
  · show (bif _ then _ else _) = _
    rw [aC (by omega)]
  rw [Dn]
  cases hc : eH (colE t.aV) 0 t.aV with
  | some e => rfl
  | none =>
  have apO := ES hc
  have hmax : ∀ c ∈ t.aV, 0 ≤ c.Max ∧ c.Max ≤ 64 := fun c hm => X4 (apO c hm)
  simp only [Option.map_none, Option.getD_none, Sum.elim_inl]
  refine bo (a := decide (t.aH.length < 1 ∨ t.aH.length > 4 ∨ fU t.aV.length t.aH = false)) ?_ ?_
  · by_cases k : t.aH.length < 1
    · rw [av (by omega)]; simp [k]
    rw [aC (by omega)]
    by_cases k2 : t.aH.length > 4
    · rw [av (by omega)]; simp [k2]
    rw [aC (by omega), rZ _ _ h.adQ, ay]
    cases fU t.aV.length t.aH <;> simp [k, k2]
  by_cases q2 : t.aH.length < 1 ∨ t.aH.length > 4 ∨ fU t.aV.length t.aH = false
  · rw [av q2, if_pos q2]
  rw [aC q2, if_neg q2]
  simp only [not_or, Bool.not_eq_false] at q2
  refine Oq (lq3 t.aH (fun c => (zk t.aV c).vN) (.inr 1) (.inl ()) (fun i => (i : Int)) (fun i hi => ?_) ?_ rfl) ?_
  · show (bif _ then _ else _) = _
    rw [av (by omega), bL hi, ay, P5 (yu q2.2.2 _ (List.getElem_mem hi)), ay, bO (by omega)]
    cases (zk t.aV t.aH[i]).vN <;> rfl
  · show (bif _ then _ else _) = _
    rw [aC (by omega)]
  cases (t.aH.any fun c => (zk t.aV c).vN) with
  | true => rfl
  | false =>
  simp only [Bool.false_eq_true, if_false, Sum.elim_inl]
  refine bo (a := decide (lN t.aV > 512 ∨ jl t.aV (q8 t.aH) > 128 ∨ t.bn.length > 6)) ?_ ?_
  · rw [G6 _ (by omega) hmax, ay]
    by_cases k : lN t.aV > 512
    · rw [av k]; simp [k]
    rw [aC k, Gr _ (by omega), ay, y7 _ _ (by simp [q8]; omega) (agV q2.2.2) hmax, ay]
    by_cases k2 : jl t.aV (q8 t.aH) > 128
    · rw [av k2]; simp [k2]
    rw [aC k2]; congr 1; simp only [k, k2, false_or]; exact Rv (by omega)
  by_cases q3 : lN t.aV > 512 ∨ jl t.aV (q8 t.aH) > 128 ∨ t.bn.length > 6
  · rw [av q3, if_pos q3]
  rw [aC q3, if_neg q3]
  refine Oq (lq5 t.bn (fun i x => (Ns t i x).map fun e => (.inr e : Unit ⊕ Int)) (.inl ()) (fun i => (i : Int)) (fun i hi => ?_) ?_ rfl) ?_
  · have hm := List.getElem_mem hi
    show (bif _ then _ else _) = _
    rw [av (by omega), bL hi, bO (by omega)]
    unfold Ns
    refine (?_ : eu _ _ _ = _)
    simp only [ay]
    rw [vX _ (h.idx _ hm).1, ay]
    cases hn : xA t.bn[i].Name with
    | false => rfl
    | true =>
    rw [Bool.not_true, cond_false, if_neg (by simp)]
    have tl : (t.bn.take i).length = i := by simp; omega
    have inner := lq3 (y0 := (0 : Int)) (B := (fun adl : Int =>
                                    bif (decide (adl < (i : Int))) then
                                      Option.bind (bG t.bn adl) fun amF =>
                                      bif (amF.Name == t.bn[i].Name) then
                                        some (Sum.inr (Sum.inr (6 : Int)))
                                      else
                                        some (Sum.inl (bF (adl + (1 : Int))))
                                    else
                                      some (Sum.inr (Sum.inl ())))) (t.bn.take i) (fun d => d.Name == t.bn[i].Name) (.inr 6) (.inl ()) (fun j => (j : Int)) (fun j hj => by
          show (bif _ then _ else _) = _
          rw [av (by omega), bL (by omega), ay, bO (by omega), List.getElem_take]
          cases t.bn[j].Name == t.bn[i].Name <;> rfl) (by
          show (bif _ then _ else _) = _
          rw [aC (by omega)]) rfl
    rw [inner]
    cases ha : ((t.bn.take i).any fun d => d.Name == t.bn[i].Name) with
    | true => rfl
    | false =>
      simp only [Bool.false_eq_true, if_false]
      rw [IV t _ hmax (h.idx _ hm) h.adQ]
      by_cases k : sw t t.bn[i] = 0
      · rw [k]; rfl
      · rw [if_pos k]
        refine beE (x := sw t t.bn[i]) ?_ rfl
        refine beY (y := ()) rfl ?_
        rw [ay, show (sw t t.bn[i] != 0) = true by simpa using k]; rfl
  · show (bif _ then _ else _) = _
    rw [aC (by omega)]
  rw [Dn]
  cases eH (Ns t) 0 t.bn <;> rfl
structure Right (t : aP) : Prop where
 len : 1 ≤ t.aV.length ∧ t.aV.length ≤ 24
 col : ∀ c ∈ t.aV, ET c = 0
 pri : 1 ≤ t.aH.length ∧ t.aH.length ≤ 4
 pla : fU t.aV.length t.aH = true
 row : lN t.aV ≤ 512
 key : jl t.aV (q8 t.aH) ≤ 128
 ixs : t.bn.length ≤ 6
 idx : ∀ x ∈ t.bn, sw t x = 0
theorem Right.of {t : aP} (h : X5 t = 0) : Right t := by
 unfold X5 at h
 by_cases h1 : xA t.Name = false
 ·rw [if_pos h1] at h; cases h
 rw [if_neg h1] at h
 by_cases h2 : t.aV.length < 1 ∨ t.aV.length > 24
 ·rw [if_pos h2] at h; cases h
 rw [if_neg h2] at h
 cases h3 : eH (colE t.aV) 0 t.aV with
 | some e =>
  rw [h3] at h
  exfalso
  have : ∀ (l : List aB) (i : Nat) (e : Int), eH (colE t.aV) i l = some e → e ≠ 0 := by
   intro l
   induction l with
   | nil => intro i e h; cases h
   | cons x r ih =>
    intro i e h
    rw [eH] at h
    cases hx : colE t.aV i x with
    | none => rw [hx] at h; exact ih _ _ h
    | some e' =>
     rw [hx] at h
     cases h
     unfold colE at hx
     by_cases q : ET x = 0
     ·rw [if_neg (by simpa using q)] at hx
      by_cases q2 : ((t.aV.take i).any fun d => d.Name == x.Name) = true
      ·rw [if_pos q2] at hx; cases hx; decide
      ·rw [if_neg q2] at hx; cases hx
     ·rw [if_pos q] at hx; cases hx; exact q
  exact this _ _ _ h3 h
 | none =>
 rw [h3] at h
 simp only at h
 by_cases h4 : t.aH.length < 1 ∨ t.aH.length > 4 ∨ fU t.aV.length t.aH = false
 ·rw [if_pos h4] at h; cases h
 rw [if_neg h4] at h
 by_cases h5 : (t.aH.any fun c => (zk t.aV c).vN) = true
 ·rw [if_pos h5] at h; cases h
 rw [if_neg h5] at h
 by_cases h6 : lN t.aV > 512 ∨ jl t.aV (q8 t.aH) > 128 ∨ t.bn.length > 6
 ·rw [if_pos h6] at h; cases h
 rw [if_neg h6] at h
 simp only [not_or, Bool.not_eq_false] at h2 h4 h6
 refine ⟨by omega, ES h3, by omega, h4.2.2, by omega, by omega, by omega, fun x hx => ?_⟩
 obtain ⟨i, hi, rfl⟩ := List.mem_iff_getElem.1 hx
 cases h7 : eH (Ns t) 0 t.bn with
 | none =>
  rw [rR] at h7
  have := h7 i hi
  unfold Ns at this
  by_cases q : xA t.bn[i].Name = false
  ·rw [if_pos q] at this; cases this
  rw [if_neg q] at this
  by_cases q2 : ((t.bn.take (0 + i)).any fun y => y.Name == t.bn[i].Name) = true
  ·rw [if_pos q2] at this; cases this
  rw [if_neg q2] at this
  by_cases q3 : sw t t.bn[i] = 0
  ·exact q3
  ·rw [if_pos q3] at this; cases this
 | some e =>
  rw [h7] at h
  exfalso
  have : ∀ (l : List bE) (i : Nat) (e : Int), eH (Ns t) i l = some e → e ≠ 0 := by
   intro l
   induction l with
   | nil => intro i e h; cases h
   | cons x r ih =>
    intro i e h
    rw [eH] at h
    cases hx : Ns t i x with
    | none => rw [hx] at h; exact ih _ _ h
    | some e' =>
     rw [hx] at h
     cases h
     unfold Ns at hx
     by_cases q : xA x.Name = false
     ·rw [if_pos q] at hx; cases hx; decide
     rw [if_neg q] at hx
     by_cases q2 : ((t.bn.take i).any fun y => y.Name == x.Name) = true
     ·rw [if_pos q2] at hx; cases hx; decide
     rw [if_neg q2] at hx
     by_cases q3 : sw t x = 0
     ·rw [if_neg (by simpa using q3)] at hx; cases hx
     ·rw [if_pos q3] at hx; cases hx; exact q3
  exact this _ _ _ h7 h
structure Og (t : aP) (x : bE) : Prop where
 par : 1 ≤ x.Parts.length ∧ x.Parts.length ≤ 4
 pla : fU t.aV.length (cZ x.Parts) = true
 ext : fU t.aV.length x.Extra = true
 key : jl t.aV x.Parts ≤ 128
theorem Og.of {t : aP} {x : bE} (h : sw t x = 0) : Og t x := by
 unfold sw at h
 by_cases h1 : x.Parts.length < 1 ∨ x.Parts.length > 4 ∨ fU t.aV.length (cZ x.Parts) = false ∨ fU t.aV.length x.Extra = false
 ·rw [if_pos h1] at h; cases h
 rw [if_neg h1] at h
 by_cases h2 : (x.Extra.any fun c => oC (cZ x.Parts) c || oC t.aH c) = true
 ·rw [if_pos h2] at h; cases h
 rw [if_neg h2] at h
 by_cases h3 : jl t.aV x.Parts > 128
 ·rw [if_pos h3] at h; cases h
 simp only [not_or, Bool.not_eq_false] at h1
 exact ⟨by omega, h1.2.2.1, h1.2.2.2, by omega⟩
theorem Ww : ∀ (n : Nat) (l : List Nat), l.Nodup → (∀ x ∈ l, x < n) → l.length ≤ n
 | 0, [], _, _ => by simp
 | 0, x :: l, _, h => absurd (h x (by simp)) (by omega)
 | n + 1, l, hd, h => by
  have h1 := Ww n (l.erase n) (hd.erase n) (fun x hx => by
   have := (List.Nodup.mem_erase_iff hd).1 hx
   have := h x this.2
   omega)
  have := List.length_erase (a := n) (l := l)
  split at this <;> omega
theorem LW {n : Nat} {l : List Int} (h : fU n l = true) : l.length ≤ n := by
 have h1 := yu h
 have h2 := K6 h
 have h3 : (l.map Int.toNat).Nodup := by
  show List.Pairwise (· ≠ ·) _
  rw [List.pairwise_map]
  refine List.Pairwise.imp_of_mem ?_ h2
  intro a b ha hb hab e
  have := h1 a ha; have := h1 b hb
  omega
 have h4 : ∀ x ∈ l.map Int.toNat, x < n := by
  intro x hx
  obtain ⟨c, hc, rfl⟩ := List.mem_map.1 hx
  have := h1 c hc; omega
 have := Ww n _ h3 h4
 simpa using this
end Lv
namespace Lv
open Go Go.Proofs
variable [bJ]
end Lv
namespace Lv
open Go Go.Proofs
variable [bJ]
def OL (s : List UInt8) : aW := match iU s with
 | some a => ⟨s, a, false⟩
 | none => ⟨s, [], true⟩
theorem Km (s : List UInt8) (h : s.length < 4611686018427387904) : oP s = some (OL s) := by
 unfold oP OL
 rw [Qr s h, ay]
 cases iU s <;> rfl
end Lv
namespace Lv
open Go Go.Proofs
variable [bJ]
end Lv
namespace Lv
open Go Go.Proofs
variable [bJ]
theorem Aa (s : List UInt8) (hs : s.length < 4611686018427387904) : oI s = some (match iU s with | some a => (a, true) | none => ([], false)) := by
 unfold oI
 refine Oq (w := match iU s with | some a => .inr (a, true) | none => .inl ()) (nmB fun B hB => ?_) ?_
 rotate_left
 ·cases iU s <;> rfl
 have key : ∀ n, n ≤ s.length → (∀ x ∈ s.drop n, x = 255) → loop B ((n : Int) - 1) = some (match iU s with | some a => .inr (a, true) | none => .inl ()) := by
  intro n
  induction n with
  | zero =>
   intro _ h
   rw [Bd (fun x hx => h x (by simpa using hx))]
   refine dY ?_
   rw [hB]
   show (bif _ then _ else _) = _
   rw [aC (by omega)]
  | succ n ih =>
   intro hn h
   have hx : s[n]? = some (s[n]'(by omega)) := List.getElem?_eq_getElem (by omega)
   have e : ((n + 1 : Nat) : Int) - 1 = (n : Int) := by omega
   rw [e]
   by_cases hb : s[n]'(by omega) = 255
   ·have hstep : B (n : Int) = some (.inl ((n : Int) - 1)) := by
     rw [hB]
     show (bif _ then _ else _) = _
     rw [av (by omega), xB, hx, ay, aC (by rw [hb]; decide), dF (by omega) (by omega)]
    rw [dV hstep]
    refine ih (by omega) fun x hx => ?_
    rw [List.drop_eq_getElem_cons (by omega)] at hx
    rcases List.mem_cons.1 hx with rfl | hx
    ·exact hb
    ·exact h x hx
   ·have hl : s[n]'(by omega) < 255 := by
     have h1 := (s[n]'(by omega)).toNat_lt
     have h2 : (s[n]'(by omega)).toNat ≠ 255 := fun e => hb (UInt8.toNat_inj.1 e)
     rw [UInt8.lt_iff_toNat_lt]
     show _ < 255
     omega
    have sp : s = (s.take n ++ [s[n]'(by omega)]) ++ s.drop (n + 1) := by
     rw [List.append_assoc]
     conv => lhs; rw [← List.take_append_drop n s, List.drop_eq_getElem_cons (show n < s.length by omega)]
     rfl
    have ea : iU s = some (s.take n ++ [s[n]'(by omega) + 1]) := by
     conv => lhs; rw [sp]
     rw [wK _ h, Bc _ hb]
    rw [ea]
    refine dY ?_
    rw [hB]
    show (bif _ then _ else _) = _
    have lt : (s.take n).length ≤ s.length := by simp; omega
    rw [av (by omega), xB, hx]
    simp only [ay]
    rw [av hl, av (by omega), av (by simp only [List.length_cons, List.length_nil, Int.toNat_natCast]; omega), Int.toNat_natCast]
 have := key s.length (Nat.le_refl _) (by rw [List.drop_length]; intro x hx; cases hx)
 by_cases h0 : s.length = 0
 ·rw [h0] at this ⊢
  rw [dF (by omega) (by omega)]; exact this
 ·rw [dF (by omega) (by omega)]; exact this
theorem zY (s : List UInt8) (h : s.length < 4611686018427387904) : oH s = some (OL s) := by
 unfold oH OL
 rw [Aa s h, ay]
 cases iU s <;> rfl
theorem ZR {α : Type} [DecidableEq α] (a b : List α) (eq : α → α → Bool) (heq : ∀ x y, eq x y = decide (x = y)) (hl : a.length = b.length) {B : Int → Option (Int ⊕ (Unit ⊕ Bool))}
  (h : ∀ i (h1 : i < a.length) (h2 : i < b.length), B (i : Int) = some (if eq a[i] b[i] = true then .inl ((i + 1 : Nat) : Int) else .inr (.inr false))) (he : B (a.length : Int) = some (.inr (.inl ()))) :
  loop B 0 = some (if a = b then .inl () else .inr false) := by
 have z : (a.zip b).length = a.length := by simp [hl]
 refine (lq3 (a.zip b) (fun p => !eq p.1 p.2) (.inr false) (.inl ()) (fun i => (i : Int)) (fun i hi => ?_) ?_ rfl).trans ?_
 ·rw [h i (by omega) (by omega), List.getElem_zip]
  cases eq a[i] b[i] <;> rfl
 ·rw [z]; exact he
 ·have key : ((a.zip b).any fun p => !eq p.1 p.2) = !decide (a = b) := by
   by_cases q : a = b
   ·subst q
    rw [decide_eq_true rfl, Bool.not_true, List.any_eq_false]
    intro p hp
    obtain ⟨i, hi, rfl⟩ := List.mem_iff_getElem.1 hp
    rw [List.getElem_zip, heq]; simp
   ·rw [decide_eq_false q, Bool.not_false, List.any_eq_true]
    have : ∃ i, ∃ h1 : i < a.length, ∃ h2 : i < b.length, a[i] ≠ b[i] := Decidable.byContradiction fun hn => q (List.ext_getElem hl fun i h1 h2 => Decidable.byContradiction fun hne => hn ⟨i, h1, h2, hne⟩)
    obtain ⟨i, h1, h2, hne⟩ := this
    refine ⟨(a[i], b[i]), List.mem_iff_getElem.2 ⟨i, by omega, by rw [List.getElem_zip]⟩, ?_⟩
    rw [heq, decide_eq_false hne]; rfl
  rw [key]
  by_cases q : a = b <;> simp [q]
theorem vw (a b : List Int) (h : a.length < 4611686018427387904) : kZ a b = some (decide (a = b)) := by
 unfold kZ
 rw [nat_ne]
 by_cases hl : a.length = b.length
 rotate_left
 ·rw [show (a.length != b.length) = true by simpa using hl, cond_true, decide_eq_false (fun e => hl (by rw [e]))]
 rw [show (a.length != b.length) = false by simpa using hl, cond_false]
 refine Oq (ZR a b (fun x y => x == y) (fun x y => by simp [Bool.beq_eq_decide_eq]) hl (fun i h1 h2 => ?_) ?_) (by by_cases q : a = b <;> simp [q])
 ·show (bif _ then _ else _) = _
  rw [av (by omega), bL h1, ay, bL h2, ay, bO (by omega)]
  by_cases k : a[i] = b[i]
  ·rw [show (a[i] != b[i]) = false by simpa using k, if_pos (by simpa using k)]; rfl
  ·rw [show (a[i] != b[i]) = true by simpa using k, if_neg (by simpa using k)]; rfl
 ·show (bif _ then _ else _) = _
  rw [aC (by omega)]
theorem ajA (a b : aB) : kg a b = decide (a = b) := by
 cases a; cases b
 simp only [kg, aB.mk.injEq, eqV]
 rw [Bool.eq_iff_iff]
 simp
theorem afo (a b : aI) : oU a b = decide (a = b) := by
 cases a; cases b
 simp only [oU, aI.mk.injEq]
 rw [Bool.eq_iff_iff]
 simp
def IC (a b : bE) : Bool := decide (a = b)
theorem KQ (a b : aP) (h : OkT a) : uf a b = some (decide (a = b)) := by
 unfold uf
 have hcl := h.d9.1
 refine bo (a := !decide (a.Name = b.Name ∧ a.Tree = b.Tree ∧ a.aV.length = b.aV.length ∧ a.aH = b.aH ∧ a.bn.length = b.bn.length)) ?_ ?_
 ·by_cases h1 : a.Name = b.Name
  rotate_left
  ·rw [show (a.Name != b.Name) = true by simpa using h1]; simp [h1]
  rw [show (a.Name != b.Name) = false by simpa using h1, cond_false]
  by_cases h2 : a.Tree = b.Tree
  rotate_left
  ·rw [show (a.Tree != b.Tree) = true by simpa using h2]; simp [h2]
  rw [show (a.Tree != b.Tree) = false by simpa using h2, cond_false, nat_ne]
  by_cases h3 : a.aV.length = b.aV.length
  rotate_left
  ·rw [show (a.aV.length != b.aV.length) = true by simpa using h3]; simp [h3]
  rw [show (a.aV.length != b.aV.length) = false by simpa using h3, cond_false, vw _ _ h.adQ, ay]
  by_cases h4 : a.aH = b.aH
  rotate_left
  ·rw [decide_eq_false h4]; simp [h4]
  rw [decide_eq_true h4, Bool.not_true, cond_false, nat_ne]
  by_cases h5 : a.bn.length = b.bn.length
  ·simp [h1, h2, h3, h4, h5]
  ·rw [show (a.bn.length != b.bn.length) = true by simpa using h5]; simp [h5]
 by_cases q : a.Name = b.Name ∧ a.Tree = b.Tree ∧ a.aV.length = b.aV.length ∧ a.aH = b.aH ∧ a.bn.length = b.bn.length
 rotate_left
 ·rw [decide_eq_false q, Bool.not_false, cond_true, decide_eq_false (fun e => q (by rw [e]; simp))]
 rw [decide_eq_true q, Bool.not_true, cond_false]
 obtain ⟨q1, q2, q3, q4, q5⟩ := q
 refine Oq (ZR a.aV b.aV kg ajA q3 (fun i h1 h2 => ?_) ?_) ?_
 ·show (bif _ then _ else _) = _
  rw [av (by omega), bL h1, ay, bL h2, ay, bO (by omega)]
  cases kg a.aV[i] b.aV[i] <;> rfl
 ·show (bif _ then _ else _) = _
  rw [aC (by omega)]
 by_cases e1 : a.aV = b.aV
 rotate_left
 ·rw [if_neg e1, decide_eq_false (fun e => e1 (by rw [e]))]; rfl
 rw [if_pos e1, Sum.elim_inl]
 have hil := h.idxs
 refine Oq (ZR a.bn b.bn IC (fun x y => rfl) q5 (fun i h1 h2 => ?_) ?_) ?_
 ·have hm := h.idx _ (List.getElem_mem h1)
  show (bif _ then _ else _) = _
  rw [av (by omega), bL h1, bL h2, bO (by omega)]
  generalize hx : a.bn[i] = x at hm ⊢
  generalize hy : b.bn[i] = y
  obtain ⟨m1, m2, m3⟩ := hm
  have key : ∀ (o : Option (Unit ⊕ Bool)), o = some (if IC x y = true then .inl () else .inr false) → eu o (fun _ => some (Sum.inl ((i + 1 : Nat) : Int))) (fun e => some (Sum.inr (Sum.inr e))) = some (if IC x y = true then .inl ((i + 1 : Nat) : Int) else .inr (.inr false) : Int ⊕ (Unit ⊕ Bool)) := by
   intro o ho
   subst ho
   cases IC x y <;> rfl
  refine key _ ?_
  rw [ay, ay]
  refine bo (a := !decide (x.Name = y.Name ∧ x.Unique = y.Unique ∧ x.Ready = y.Ready ∧ x.Tree = y.Tree ∧ x.Extra = y.Extra ∧ x.Parts.length = y.Parts.length)) ?_ ?_
  ·by_cases k1 : x.Name = y.Name
   rotate_left
   ·rw [show (x.Name != y.Name) = true by simpa using k1]; simp [k1]
   rw [show (x.Name != y.Name) = false by simpa using k1, cond_false]
   by_cases k2 : x.Unique = y.Unique
   rotate_left
   ·rw [show (x.Unique != y.Unique) = true by simpa using k2]; simp [k2]
   rw [show (x.Unique != y.Unique) = false by simpa using k2, cond_false]
   by_cases k3 : x.Ready = y.Ready
   rotate_left
   ·rw [show (x.Ready != y.Ready) = true by simpa using k3]; simp [k3]
   rw [show (x.Ready != y.Ready) = false by simpa using k3, cond_false]
   by_cases k4 : x.Tree = y.Tree
   rotate_left
   ·rw [show (x.Tree != y.Tree) = true by simpa using k4]; simp [k4]
   rw [show (x.Tree != y.Tree) = false by simpa using k4, cond_false, vw _ _ m3, ay]
   by_cases k5 : x.Extra = y.Extra
   rotate_left
   ·rw [decide_eq_false k5]; simp [k5]
   rw [decide_eq_true k5, Bool.not_true, cond_false, nat_ne]
   by_cases k6 : x.Parts.length = y.Parts.length
   ·simp [k1, k2, k3, k4, k5, k6]
   ·rw [show (x.Parts.length != y.Parts.length) = true by simpa using k6]; simp [k6]
  by_cases k : x.Name = y.Name ∧ x.Unique = y.Unique ∧ x.Ready = y.Ready ∧ x.Tree = y.Tree ∧ x.Extra = y.Extra ∧ x.Parts.length = y.Parts.length
  rotate_left
  ·rw [decide_eq_false k, Bool.not_false, cond_true, IC, decide_eq_false (fun e => k (by rw [e]; simp))]; rfl
  rw [decide_eq_true k, Bool.not_true, cond_false]
  obtain ⟨k1, k2, k3, k4, k5, k6⟩ := k
  refine ao8 (ZR x.Parts y.Parts oU afo k6 (fun j j1 j2 => ?_) ?_) ?_
  ·show (bif _ then _ else _) = _
   rw [av (by omega), bL j1, ay, bL j2, ay, bO (by omega)]
   cases oU x.Parts[j] y.Parts[j] <;> rfl
  ·show (bif _ then _ else _) = _
   rw [aC (by omega)]
  ·have : IC x y = decide (x.Parts = y.Parts) := by
    unfold IC
    refine Rv ⟨fun e => by rw [e], fun e => ?_⟩
    cases x; cases y; simp_all
   rw [this]
   by_cases p : x.Parts = y.Parts <;> simp [p]
 ·show (bif _ then _ else _) = _
  rw [aC (by omega)]
 ·by_cases e2 : a.bn = b.bn
  ·rw [if_pos e2, decide_eq_true]; · rfl
   cases a; cases b; simp_all
  ·rw [if_neg e2, decide_eq_false (fun e => e2 (by rw [e]))]; rfl
theorem aad (t : aP) (r : Right t) : qz t = some t.bn := by
 unfold qz
 have h1 := r.len
 have h2 := r.pri
 have h3 := r.ixs
 rw [av (by rw [dB]; simp; omega), av (by rw [dB]; simp; omega)]
 refine Df (w := t.bn) (Dc (fun i => (t.bn.take i, (i : Int))) t.bn.length (fun i hi => ?_) ?_ rfl) rfl
 ·have rx := Og.of (r.idx _ (List.getElem_mem hi))
  have k1 := rx.par
  have k2 := LW rx.ext
  show (bif _ then _ else _) = _
  rw [av (by omega), bL hi, ay, av (by rw [dB]; simp; omega), av (by rw [dB]; simp; omega), av (by rw [dB]; simp; omega), bO (by omega), List.take_succ_eq_append_getElem hi]
  rfl
 ·show (bif _ then _ else _) = _
  rw [aC (by omega), List.take_length]
end Lv
namespace Lv
open Go Go.Proofs
variable [bJ]
end Lv
namespace Lv
open Go Go.Proofs
variable [bJ]
def eO (n : aA) : Nat := if n.Kind = 4 ∨ n.Kind = 5 then 2 else if n.Kind = 6 then 1 else 0
theorem pz (n : aA) : fT n = some (eO n : Int) := by
 unfold fT eO
 refine bo (a := decide (n.Kind = 4 ∨ n.Kind = 5)) ?_ ?_
 ·by_cases h : n.Kind = 4
  ·simp [h]
  ·rw [show (n.Kind == 4) = false by simpa using h]; simp [h, Bool.beq_eq_decide_eq]
 ·by_cases h : n.Kind = 4 ∨ n.Kind = 5
  ·rw [decide_eq_true h, if_pos h]; rfl
  ·rw [decide_eq_false h, if_neg h]
   by_cases k : n.Kind = 6
   ·rw [show (n.Kind == 6) = true by simpa using k, if_pos k]; rfl
   ·rw [show (n.Kind == 6) = false by simpa using k, if_neg k]; rfl
theorem xM (n : aA) : eO n ≤ 2 := by unfold eO; split <;> (try split) <;> omega
inductive PT where
 | leaf (n : aA)
 | un (n : aA) (a : PT)
 | bin (n : aA) (a b : PT)
def flat : PT → List aA
 | .leaf n => [n]
 | .un n a => flat a ++ [n]
 | .bin n a b => flat a ++ (flat b ++ [n])
def BM : PT → Prop
 | .leaf n => eO n = 0
 | .un n a => eO n = 1 ∧ BM a
 | .bin n a b => eO n = 2 ∧ BM a ∧ BM b
def JM : List PT → List aA
 | [] => []
 | t :: ts => JM ts ++ flat t
def stk : List aA → Nat → Option Nat
 | [], k => some k
 | n :: r, k => if eO n ≤ k then stk r (k - eO n + 1) else none
theorem Bj : ∀ (p : List aA) (ts : List PT) (k : Nat), (∀ t ∈ ts, BM t) → stk p ts.length = some k → ∃ us : List PT, (∀ t ∈ us, BM t) ∧ us.length = k ∧ JM us = JM ts ++ p
 | [], ts, k, h, hs => by
  simp only [stk, Option.some.injEq] at hs
  exact ⟨ts, h, hs, by simp⟩
 | n :: r, ts, k, h, hs => by
  rw [stk] at hs
  split at hs
  ·rename_i hle
   have h2 := xM n
   rcases (by omega : eO n = 0 ∨ eO n = 1 ∨ eO n = 2) with e | e | e
   ·obtain ⟨us, h1, h2, h3⟩ := Bj r (.leaf n :: ts) k (fun t ht => by
     rcases List.mem_cons.1 ht with rfl | ht
     ·exact e
     ·exact h t ht) (by rw [e] at hs; simpa using hs)
    exact ⟨us, h1, h2, by rw [h3]; simp [JM, flat]⟩
   ·match ts, h, hs, hle with
    | a :: ts, h, hs, _ =>
     obtain ⟨us, h1, h2, h3⟩ := Bj r (.un n a :: ts) k (fun t ht => by
      rcases List.mem_cons.1 ht with rfl | ht
      ·exact ⟨e, h a (by simp)⟩
      ·exact h t (by simp [ht])) (by rw [e] at hs; simpa using hs)
     exact ⟨us, h1, h2, by rw [h3]; simp [JM, flat]⟩
    | [], _, _, hle => simp at hle; omega
   ·match ts, h, hs, hle with
    | b :: a :: ts, h, hs, _ =>
     obtain ⟨us, h1, h2, h3⟩ := Bj r (.bin n a b :: ts) k (fun t ht => by
      rcases List.mem_cons.1 ht with rfl | ht
      ·exact ⟨e, h a (by simp), h b (by simp)⟩
      ·exact h t (by simp [ht])) (by rw [e] at hs; simpa using hs)
     exact ⟨us, h1, h2, by rw [h3]; simp [JM, flat]⟩
    | [_], _, _, hle => simp at hle; omega
    | [], _, _, hle => simp at hle; omega
  ·cases hs
theorem VQ {p : List aA} (h : stk p 0 = some 1) : ∃ t, BM t ∧ flat t = p := by
 obtain ⟨us, h1, h2, h3⟩ := Bj p [] 1 (by simp) h
 match us, h2 with
 | [t], _ => exact ⟨t, h1 t (by simp), by simpa [JM] using h3⟩
theorem mP : ∀ t : PT, 0 < (flat t).length
 | .leaf n => by simp [flat]
 | .un n a => by simp [flat]
 | .bin n a b => by simp [flat] <;> omega
def lS (n : aA) (c : Int) : Bool :=
 if n.Kind = 2 then decide (0 ≤ n.Col ∧ n.Col < c ∧ 1 ≤ n.Op ∧ n.Op ≤ 6)
 else if n.Kind = 3 then decide (0 ≤ n.Col ∧ n.Col < c ∧ n.Op = 0 ∧ n.Val = ⟨0, 0, []⟩)
 else decide ((n.Kind = 1 ∨ n.Kind = 4 ∨ n.Kind = 5 ∨ n.Kind = 6) ∧ n = ⟨n.Kind, 0, 0, ⟨0, 0, []⟩⟩)
theorem XV (v w : ak) : dw v w = decide (v = w) := by
 cases v; cases w
 rw [Bool.eq_iff_iff]
 simp [dw]
theorem ajz (v w : aA) : oD v w = decide (v = w) := by
 cases v; cases w
 rw [Bool.eq_iff_iff]
 simp [oD, XV]
theorem Nz (n : aA) (c : Int) : jS n c = some (lS n c) := by
 unfold jS lS
 by_cases h2 : n.Kind = 2
 ·rw [show (n.Kind == 2) = true by simpa using h2, if_pos h2]
  refine bo (a := decide (0 ≤ n.Col ∧ n.Col < c ∧ 1 ≤ n.Op ∧ n.Op ≤ 6)) ?_ rfl
  by_cases a1 : n.Col ≥ 0
  ·by_cases a2 : n.Col < c
   ·by_cases a3 : n.Op ≥ 1
    ·rw [av a1, av a2, av a3]; congr 1; exact Rv (by omega)
    ·rw [av a1, av a2, aC a3]; congr 1; exact (decide_eq_false (by omega)).symm
   ·rw [av a1, aC a2]; congr 1; exact (decide_eq_false (by omega)).symm
  ·rw [aC a1]; congr 1; exact (decide_eq_false (by omega)).symm
 rw [show (n.Kind == 2) = false by simpa using h2, if_neg h2]
 refine bf rfl ?_
 by_cases h3 : n.Kind = 3
 ·rw [show (n.Kind == 3) = true by simpa using h3, if_pos h3]
  refine bo (a := decide (0 ≤ n.Col ∧ n.Col < c ∧ n.Op = 0 ∧ n.Val = ⟨0, 0, []⟩)) ?_ rfl
  by_cases a1 : n.Col ≥ 0
  ·by_cases a2 : n.Col < c
   ·by_cases a3 : n.Op = 0
    ·rw [av a1, av a2, show (n.Op == 0) = true by simpa using a3]
     refine bt rfl ?_
     rw [XV]; congr 1; exact Rv (by simp [a1, a2, a3])
    ·rw [av a1, av a2, show (n.Op == 0) = false by simpa using a3]; refine bf rfl ?_; congr 1; symm; rw [decide_eq_false_iff_not]; rintro ⟨_, _, q, _⟩; exact a3 q
   ·rw [av a1, aC a2]; congr 1; symm; rw [decide_eq_false_iff_not]; rintro ⟨_, q, _⟩; exact a2 q
  ·rw [aC a1]; congr 1; symm; rw [decide_eq_false_iff_not]; rintro ⟨q, _⟩; exact a1 q
 rw [show (n.Kind == 3) = false by simpa using h3, if_neg h3]
 refine bf rfl ?_
 refine bo (a := decide (n.Kind = 1 ∨ n.Kind = 4 ∨ n.Kind = 5 ∨ n.Kind = 6)) ?_ ?_
 ·by_cases b1 : n.Kind = 1
  ·simp [b1]
  by_cases b4 : n.Kind = 4
  ·simp [b4]
  by_cases b5 : n.Kind = 5
  ·simp [b5]
  rw [show (n.Kind == 1) = false by simpa using b1, show (n.Kind == 4) = false by simpa using b4, show (n.Kind == 5) = false by simpa using b5]
  simp [b1, b4, b5, Bool.beq_eq_decide_eq]
 ·by_cases q : n.Kind = 1 ∨ n.Kind = 4 ∨ n.Kind = 5 ∨ n.Kind = 6
  ·rw [decide_eq_true q]
   refine bt rfl ?_
   rw [ajz]; congr 1; exact Rv (by simp [q])
  ·rw [decide_eq_false q]; refine bf rfl ?_; congr 1; symm; rw [decide_eq_false_iff_not]; rintro ⟨r, _⟩; exact q r
def afv (d9 : List aB) (i : Int) : Int := ((d9[i.toNat]?).map aB.Kind).getD 0
def u6 (d9 : List aB) (n : aA) : Bool := decide (n.Kind = 2 ∧ (val n.Val = false ∨ n.Val.Kind = 0 ∨ n.Val.Kind ≠ afv d9 n.Col))
def yE (l : List Int) : Int := l.foldl max 0
def wT (d9 : List aB) (s : List Int) (n : aA) : List Int ⊕ (List Int ⊕ Int) :=
 if lS n d9.length = false ∨ s.length < eO n then .inr (.inr 1)
 else if u6 d9 n = true then .inr (.inr 8)
 else .inl (s.take (s.length - eO n) ++ [yE (s.drop (s.length - eO n)) + 1])
def sG (d9 : List aB) (p : List aA) : Int :=
 if p.length > 200 then 7 else match zi (wT d9) .inl [] p with
  | .inr e => e
  | .inl s => if s.length ≠ 1 then 1 else if s.headD 0 > 24 then 7 else 0
def OkN (n : aA) : Prop := n.Val.S.length < 4611686018427387904
theorem H6 {l : List Int} {b : Int} (hb : 0 ≤ b) (h : ∀ d ∈ l, d ≤ b) : 0 ≤ yE l ∧ yE l ≤ b := by
 unfold yE
 have : ∀ (l : List Int) (a : Int), 0 ≤ a → a ≤ b → (∀ d ∈ l, d ≤ b) → 0 ≤ l.foldl max a ∧ l.foldl max a ≤ b := by
  intro l
  induction l with
  | nil => intro a h1 h2 _; exact ⟨h1, h2⟩
  | cons x l ih =>
   intro a h1 h2 h3
   rw [List.foldl_cons]
   have := h3 x (by simp)
   exact ih _ (by omega) (by omega) (fun d hd => h3 d (by simp [hd]))
 exact this l 0 (by omega) hb h
theorem Nv {α : Type} {xs : List α} {off len i : Nat} (h : i < len) (h2 : off + i < xs.length) : sD xs off len (i : Int) = some xs[off + i] := by
 unfold sD
 rw [if_pos (by omega), Int.toNat_natCast, List.getElem?_eq_getElem h2]
theorem MN {a b : Nat} (h : b ≤ a) (ha : a < 9223372036854775808) : bF ((a : Int) - (b : Int)) = ((a - b : Nat) : Int) := by
 rw [show ((a : Int) - (b : Int)) = ((a - b : Nat) : Int) by omega]
 exact Y5 (by omega)
theorem Yr (d9 : List aB) (p : List aA) (hc : d9.length < 4611686018427387904) (hp : ∀ n ∈ p, OkN n) : oq d9 p = some (sG d9 p) := by
  unfold oq sG
  by_cases h2 : p.length > 200
  · rw [av (by omega), if_pos h2]
  rw [aC (by omega), if_neg h2]
  refine Oq (lq4 p (fun i s => (s, (i : Int))) (wT d9) .inl (fun i s => s.length ≤ i ∧ ∀ d ∈ s, 0 ≤ d ∧ d ≤ i) [] (fun i s hi hI => ⟨?_, fun s' hs => ?_⟩) (fun s hI => ?_) ⟨by simp, by simp⟩ rfl) ?_
  · obtain ⟨I1, I2⟩ := hI
    show (bif _ then _ else _) = _
    rw [av (by omega)]
    have hn := hp _ (List.getElem_mem hi)
    generalize hn' : p[i] = n at hn
    have ht := xM n
    have tyq : lS n d9.length = true → (bif (n.Kind == (2 : Int)) then
                    Option.bind (j3 n.Val) fun Ck =>
                    bif (!Ck) then
                      some true
                    else
                      bif (n.Val.Kind == (0 : Int)) then
                        some true
                      else
                        Option.bind (bG d9 n.Col) fun Ca =>
                        some (n.Val.Kind != Ca.Kind)
                  else
                    some false) = some (u6 d9 n) := by
      intro hf
      unfold u6
      by_cases k2 : n.Kind = 2
      · rw [show (n.Kind == 2) = true by simpa using k2, zN n.Val hn]
        refine bt rfl ?_
        rw [ay]
        cases hv : val n.Val with
        | false => simp [k2]
        | true =>
          refine bf rfl ?_
          by_cases k0 : n.Val.Kind = 0
          · simp [k2, k0]
          · rw [show (n.Val.Kind == 0) = false by simpa using k0]
            refine bf rfl ?_
            unfold lS at hf
            rw [if_pos k2, decide_eq_true_eq] at hf
            have hl : n.Col.toNat < d9.length := by omega
            have hg : bG d9 n.Col = some d9[n.Col.toNat] := by
              unfold bG
              rw [if_pos hf.1, List.getElem?_eq_getElem hl]
            rw [hg, ay]
            congr 1
            unfold afv
            rw [List.getElem?_eq_getElem hl]
            simp [k2, k0, bne, Bool.beq_eq_decide_eq]
      · rw [show (n.Kind == 2) = false by simpa using k2]
        refine bf rfl ?_
        simp [k2]
    have hk : ∀ {R : Type} {f : aA → Option R} {r : Option R}, f n = r → Option.bind (bG p (i : Int)) f = r := fun h => bo (by rw [bL hi, hn']) h
    have hw : bF ((s.length : Int) - (eO n : Int)) = (s.length : Int) - (eO n : Int) := dF (by omega) (by omega)
    unfold wT
    by_cases q : lS n d9.length = false ∨ s.length < eO n
    · rw [if_pos q]
      refine beE (x := 1) ?_ rfl
      refine hk ?_
      refine bo (pz n) ?_
      refine bo (a := true) ?_ rfl
      refine bo (Nz n _) ?_
      rcases q with q | q
      · rw [q]; rfl
      · cases lS n d9.length with
        | false => rfl
        | true =>
          refine bf rfl ?_
          rw [hw, decide_eq_true (by omega)]
    · rw [if_neg q]
      simp only [not_or, Bool.not_eq_false, Nat.not_lt] at q
      have tyq := tyq q.1
      by_cases ty : u6 d9 n = true
      · rw [if_pos ty]
        refine beE (x := 8) ?_ rfl
        refine hk ?_
        refine bo (pz n) ?_
        refine bo (a := false) ?_ ?_
        · refine bo (Nz n _) ?_
          rw [q.1]
          refine bf rfl ?_
          rw [hw, decide_eq_false (by omega)]
        refine bf rfl ?_
        refine bo (a := true) ?_ rfl
        exact (tyq.trans (by rw [ty]))
      · rw [if_neg ty]
        have ty' : u6 d9 n = false := by simpa using ty
        generalize XC : s.take (s.length - eO n) ++ [yE (s.drop (s.length - eO n)) + 1] = pile
        refine beY (y := pile) ?_ ?_
        · refine hk ?_
          refine bo (pz n) ?_
          refine bo (a := false) ?_ ?_
          · refine bo (Nz n _) ?_
            rw [q.1]
            refine bf rfl ?_
            rw [hw, decide_eq_false (by omega)]
          refine bf rfl ?_
          refine bo (a := false) (tyq.trans (by rw [ty'])) ?_
          refine bf rfl ?_
          rw [MN q.2 (by omega), Int.toNat_natCast]
          refine bo (a := yE (s.drop (s.length - eO n))) ?_ ?_
          · refine gt (by omega) ?_
            refine bo (a := yE (s.drop (s.length - eO n))) (Dc (fun j => (yE ((s.drop (s.length - eO n)).take j), (j : Int))) (eO n) (fun j hj => ?_) ?_ rfl) rfl
            · show (bif _ then _ else _) = _
              rw [av (by omega), Nv (by omega) (by omega), ay, bO (by omega)]
              have e1 : (s.drop (s.length - eO n)).take (j + 1) = (s.drop (s.length - eO n)).take j ++ [s[0 + (s.length - eO n) + j]] := by
                rw [List.take_add_one, List.getElem?_drop, List.getElem?_eq_getElem (by omega)]
                simp
              rw [e1]
              unfold yE
              rw [List.foldl_append]
              rfl
            · show (bif _ then _ else _) = _
              rw [aC (by omega), List.take_of_length_le (by simp; omega)]
          · have hm := H6 (l := s.drop (s.length - eO n)) (b := i) (by omega) fun d hd => (I2 d (List.mem_of_mem_drop hd)).2
            refine gt (by omega) ?_
            refine gt (by omega) ?_
            rw [dF (n := yE (s.drop (s.length - eO n)) + 1) (by omega) (by omega)]
            refine gt (by show (s.length - eO n + 1) * 8 ≤ room; rw [dB]; omega) ?_
            rw [List.drop_zero, XC]
        · show some (Sum.inl (_, _)) = _
          rw [bO (by omega)]; rfl
  · obtain ⟨I1, I2⟩ := hI
    unfold wT at hs
    split at hs
    · cases hs
    · rename_i q
      split at hs
      · cases hs
      · simp only [not_or, Bool.not_eq_false, Nat.not_lt] at q
        obtain rfl := Sum.inl.inj hs
        have ht := xM p[i]
        have hm := H6 (l := s.drop (s.length - eO p[i])) (b := i) (by omega) fun d hd => (I2 d (List.mem_of_mem_drop hd)).2
        refine ⟨by simp; omega, fun d hd => ?_⟩
        rcases List.mem_append.1 hd with hd | hd
        · have := I2 d (List.mem_of_mem_take hd); omega
        · obtain rfl : d = _ := by simpa using hd
          omega
  · show (bif _ then _ else _) = _
    rw [aC (by omega)]
  · cases zi (wT d9) .inl [] p with
    | inr e => rfl
    | inl s =>
      show (bif ((s.length : Int) != 1) then _ else _) = some (if s.length ≠ 1 then 1 else if s.headD 0 > 24 then 7 else 0)
      by_cases h1 : s.length ≠ 1
      · rw [if_pos h1, show ((s.length : Int) != 1) = true by simp; omega]; rfl
      · rw [if_neg h1, show ((s.length : Int) != 1) = false by simp; omega]
        refine bf rfl ?_
        match s, h1 with
        | [d], _ =>
          refine bo (a := d) rfl ?_
          show (bif decide (d > 24) then _ else _) = some (if d > 24 then 7 else 0)
          by_cases ZN : d > 24
          · rw [av ZN, if_pos ZN]
          · rw [aC ZN, if_neg ZN]
        | [], h1 => simp at h1
        | _ :: _ :: _, h1 => simp at h1
theorem PV (d9 : List aB) : ∀ (p : List aA) (s s' : List Int), zi (wT d9) (.inl : List Int → List Int ⊕ Int) s p = .inl s' → (∀ n ∈ p, lS n d9.length = true ∧ u6 d9 n = false) ∧ stk p s.length = some s'.length
 | [], s, s', h => by
  obtain rfl := Sum.inl.inj h
  exact ⟨by simp, rfl⟩
 | n :: p, s, s', h => by
  have ht := xM n
  unfold zi wT at h
  by_cases q : lS n d9.length = false ∨ s.length < eO n
  ·rw [if_pos q] at h; cases h
  rw [if_neg q] at h
  by_cases ty : u6 d9 n = true
  ·rw [if_pos ty] at h; cases h
  rw [if_neg ty] at h
  simp only [not_or, Bool.not_eq_false, Nat.not_lt] at q
  obtain ⟨h1, h2⟩ := PV d9 p _ s' h
  refine ⟨fun m hm => ?_, ?_⟩
  ·rcases List.mem_cons.1 hm with rfl | hm
   ·exact ⟨q.1, by simpa using ty⟩
   ·exact h1 m hm
  ·rw [stk, if_pos q.2, ← h2]
   congr 1
   rw [List.length_append, List.length_take, List.length_singleton]
   omega
theorem X6 {d9 : List aB} {p : List aA} (h : sG d9 p = 0) : p.length ≤ 200 ∧ (∀ n ∈ p, lS n d9.length = true ∧ u6 d9 n = false) ∧ ∃ t, BM t ∧ flat t = p := by
 unfold sG at h
 by_cases h2 : p.length > 200
 ·rw [if_pos h2] at h; cases h
 rw [if_neg h2] at h
 refine ⟨by omega, ?_⟩
 split at h
 ·rename_i e he
  have : ∀ (p : List aA) (s : List Int) (e : Int), zi (wT d9) (.inl : List Int → List Int ⊕ Int) s p = .inr e → e = 1 ∨ e = 8 := by
   intro p
   induction p with
   | nil => intro s e h; cases h
   | cons n p ih =>
    intro s e h
    unfold zi wT at h
    split at h
    ·exact .inl (Sum.inr.inj h).symm
    ·split at h
     ·exact .inr (Sum.inr.inj h).symm
     ·exact ih _ _ h
  have := this p [] e he
  omega
 ·rename_i s hs
  by_cases h1 : s.length ≠ 1
  ·rw [if_pos h1] at h; cases h
  obtain ⟨k1, k2⟩ := PV d9 p [] s hs
  have : s.length = 1 := by omega
  rw [this] at k2
  exact ⟨k1, VQ k2⟩
theorem EB (d : Array Int) (hs : ∀ (i j : Nat) (hij : i < j) (hj : j < d.size), d[i]'(by omega) ≤ d[j]'hj) : ∀ m, m ≤ d.size → (Go.Lib.compactUpTo d m).Pairwise (· < ·) ∧ (∀ x, x ∈ Go.Lib.compactUpTo d m ↔ ∃ i, ∃ h : i < d.size, i < m ∧ d[i] = x)
 | 0, _ => by
  refine ⟨by simp [Go.Lib.compactUpTo], fun x => ?_⟩
  simp [Go.Lib.compactUpTo]
 | m + 1, hm => by
  obtain ⟨p1, p2⟩ := EB d hs m (by omega)
  have hlt : m < d.size := by omega
  have eg : d[m]! = d[m] := getElem!_pos d m hlt
  rw [Go.Lib.compactUpTo_succ, eg]
  by_cases k : Go.Lib.keeps d m = true
  ·rw [if_pos k]
   refine ⟨?_, fun x => ?_⟩
   ·rw [List.pairwise_append]
    refine ⟨p1, by simp, fun x hx y hy => ?_⟩
    obtain rfl : y = d[m] := by simpa using hy
    obtain ⟨i, hi, him, rfl⟩ := (p2 x).1 hx
    have hm0 : 0 < m := by omega
    have eg1 : d[m - 1]! = d[m - 1]'(by omega) := getElem!_pos d (m - 1) (by omega)
    have hne : d[m] ≠ d[m - 1]'(by omega) := by
     intro e
     have := Go.Lib.keeps_neg (d := d) hm0 (by rw [eg, eg1]; exact e)
     rw [this] at k; cases k
    have h1 := hs (m - 1) m (by omega) hlt
    rcases Nat.lt_or_ge i (m - 1) with q | q
    ·have := hs i (m - 1) q (by omega)
     omega
    ·have : i = m - 1 := by omega
     subst this
     omega
   ·rw [List.mem_append, p2]
    constructor
    ·rintro (⟨i, hi, him, e⟩ | hx)
     ·exact ⟨i, hi, by omega, e⟩
     ·exact ⟨m, hlt, by omega, (by simpa using hx : x = d[m]).symm⟩
    ·rintro ⟨i, hi, him, e⟩
     rcases Nat.lt_or_ge i m with q | q
     ·exact .inl ⟨i, hi, q, e⟩
     ·have : i = m := by omega
      subst this
      exact .inr (by simp [e])
  ·rw [if_neg k, List.append_nil]
   refine ⟨p1, fun x => ?_⟩
   rw [p2]
   constructor
   ·rintro ⟨i, hi, him, e⟩
    exact ⟨i, hi, by omega, e⟩
   ·rintro ⟨i, hi, him, e⟩
    rcases Nat.lt_or_ge i m with q | q
    ·exact ⟨i, hi, q, e⟩
    ·have : i = m := by omega
     subst this
     have hm0 : 0 < i := by
      rcases Nat.eq_zero_or_pos i with h0 | h0
      ·subst h0
       exact absurd (Go.Lib.keeps_lt_one d 0 (by omega)) k
      ·exact h0
     have eg1 : d[i - 1]! = d[i - 1]'(by omega) := getElem!_pos d (i - 1) (by omega)
     by_cases q2 : d[i] = d[i - 1]'(by omega)
     ·exact ⟨i - 1, by omega, by omega, by rw [← q2]; exact e⟩
     ·exact absurd (Go.Lib.keeps_pos (by rw [eg, eg1]; exact q2)) k
def mI (l : List Int) : List Int := Go.Lib.compact (l.mergeSort fun x y => decide (x ≤ y))
theorem Nb (l : List Int) : (mI l).Pairwise (· < ·) ∧ ∀ x, x ∈ mI l ↔ x ∈ l := by
 have hp : (l.mergeSort fun x y => decide (x ≤ y)).Pairwise (fun x y => decide (x ≤ y) = true) := by
  refine List.pairwise_mergeSort (fun a b c h1 h2 => ?_) (fun a b => ?_) l
  ·simp only [decide_eq_true_eq] at *
   omega
  ·simp only [Bool.or_eq_true, decide_eq_true_eq]
   omega
 unfold mI
 generalize hs : (l.mergeSort fun x y => decide (x ≤ y)) = s at hp
 have hm : ∀ x, x ∈ s ↔ x ∈ l := by
  intro x
  rw [← hs]
  exact List.mem_mergeSort
 unfold Go.Lib.compact
 have key := EB s.toArray (fun i j hij hj => by
  have := List.pairwise_iff_getElem.1 hp i j (by simpa using (by omega : i < s.toArray.size)) (by simpa using hj) hij
  simpa using this) s.length (by simp)
 refine ⟨key.1, fun x => ?_⟩
 rw [key.2, ← hm]
 constructor
 ·rintro ⟨i, hi, _, e⟩
  rw [← e]
  simp
 ·intro hx
  obtain ⟨i, hi, e⟩ := List.mem_iff_getElem.1 hx
  exact ⟨i, by simpa using hi, hi, by simpa using e⟩
def uX (n : aA) : Bool := decide (n.Kind = 2 ∨ n.Kind = 3)
def kR (p : List aA) : List Int := (p.filter uX).map aA.Col
theorem NY (n : aA) : (bif (n.Kind == (2 : Int)) then some true else some (n.Kind == (3 : Int))) = some (uX n) := by
 unfold uX
 by_cases h : n.Kind = 2
 ·simp [h]
 ·rw [show (n.Kind == 2) = false by simpa using h]; simp [h, Bool.beq_eq_decide_eq]
theorem aae (p : List aA) (h : p.length ≤ 1000000) : qD p = some (mI (kR p)) := by
 unfold qD
 have hlen : ∀ i, ((p.take i).filter uX).length ≤ i := fun i => by
  have := List.length_filter_le uX (p.take i)
  rw [List.length_take] at this
  omega
 refine Df (w := kR p) (Dc (fun i => (kR (p.take i), (i : Int))) p.length (fun i hi => ?_) ?_ rfl) ?_
 ·show (bif _ then _ else _) = _
  rw [av (by omega)]
  refine bo (a := kR (p.take (i + 1))) ?_ ?_
  ·refine bo (bL hi) ?_
   refine bo (NY p[i]) ?_
   have e : p.take (i + 1) = p.take i ++ [p[i]] := by rw [List.take_add_one, List.getElem?_eq_getElem hi]; rfl
   have hl := hlen i
   cases hq : uX p[i] with
   | true =>
    refine bt rfl ?_
    refine gt (by unfold kR; rw [List.length_map, List.length_singleton, dB]; omega) ?_
    rw [e]; unfold kR; rw [List.filter_append, List.map_append]; simp [hq]
   | false =>
    refine bf rfl ?_
    rw [e]; unfold kR; rw [List.filter_append, List.map_append]; simp [hq]
  ·rw [bO (by omega)]
 ·show (bif _ then _ else _) = _
  rw [aC (by omega), List.take_length]
 ·have hl : (kR p).length ≤ p.length := by unfold kR; rw [List.length_map]; exact List.length_filter_le _ _
  refine bo (a := (kR p).mergeSort fun x y => decide (x ≤ y)) (by unfold wB; rw [if_pos (by omega)]) ?_
  refine bo (a := mI (kR p)) ?_ rfl
  unfold jW mI
  rw [if_pos ⟨rfl, by rw [List.length_mergeSort], by rw [List.length_mergeSort]; omega⟩]
theorem J8 {p : List aA} {c : Int} : c ∈ kR p ↔ ∃ n ∈ p, (n.Kind = 2 ∨ n.Kind = 3) ∧ n.Col = c := by
 unfold kR uX
 simp only [List.mem_map, List.mem_filter, decide_eq_true_eq]
 constructor
 ·rintro ⟨n, ⟨h1, h2⟩, h3⟩; exact ⟨n, h1, h2, h3⟩
 ·rintro ⟨n, h1, h2, h3⟩; exact ⟨n, ⟨h1, h2⟩, h3⟩
def fP : Bool → PT → List aA
 | m, .leaf n => if m = true ∧ (n.Kind = 2 ∨ n.Kind = 3) then [n] else []
 | _, .un _ _ => []
 | m, .bin n a b => fP (m && decide (n.Kind = 4)) a ++ fP (m && decide (n.Kind = 4)) b
theorem F3 : ∀ t : PT, fP false t = []
 | .leaf n => by simp [fP]
 | .un n a => rfl
 | .bin n a b => by simp [fP, F3 a, F3 b]
theorem Bw : ∀ (m : Bool) (t : PT), (fP m t).length ≤ (flat t).length
 | m, .leaf n => by unfold fP; split <;> simp [flat]
 | m, .un n a => by simp [fP]
 | m, .bin n a b => by
  have h1 := Bw (m && decide (n.Kind = 4)) a
  have h2 := Bw (m && decide (n.Kind = 4)) b
  simp only [fP, flat, List.length_append, List.length_singleton]
  omega
theorem Ib : ∀ (m : Bool) (t : PT), ∀ n ∈ fP m t, n ∈ flat t ∧ (n.Kind = 2 ∨ n.Kind = 3)
 | m, .leaf n, k, h => by
  unfold fP at h
  split at h
  ·rename_i q
   obtain rfl : k = n := by simpa using h
   exact ⟨by simp [flat], q.2⟩
  ·cases h
 | m, .un n a, k, h => by cases h
 | m, .bin n a b, k, h => by
  unfold fP at h
  rcases List.mem_append.1 h with h | h
  ·have := Ib _ a k h
   exact ⟨by simp [flat, this.1], this.2⟩
  ·have := Ib _ b k h
   exact ⟨by simp [flat, this.1], this.2⟩
theorem ZV : ∀ (t : PT), BM t → ∀ (fuel : Nat) (pre post p : List aA) (m : Bool), (flat t).length ≤ fuel → p = pre ++ (flat t ++ post) → p.length ≤ 1000000 →
  gB fuel p ((pre.length : Int) + (flat t).length - 1) m = some (fP m t, (pre.length : Int) - 1) := by
 intro t
 induction t with
 | leaf n =>
  intro ok fuel pre post p m hf hp hl
  obtain ⟨f, rfl⟩ : ∃ f, fuel = f + 1 := ⟨fuel - 1, by simp [flat] at hf; omega⟩
  have hi : pre.length < p.length := by rw [hp]; simp [flat]
  have hx : p[pre.length] = n := by simp [hp, flat]
  have ok : eO n = 0 := ok
  unfold gB
  rw [show ((pre.length : Int) + (flat (.leaf n)).length - 1) = (pre.length : Int) by simp [flat]]
  refine bo (bL hi) ?_
  rw [hx]
  refine bo (a := m) ?_ ?_
  ·cases m with
   | false => rfl
   | true =>
    refine bt rfl ?_
    refine bo (pz n) ?_
    rw [ok]; rfl
  ·refine bo (a := ([], (pre.length : Int) - 1)) ?_ ?_
   ·refine bo (pz n) ?_
    rw [ok]
    refine bo (a := ([], (pre.length : Int) - 1)) (dY ?_) rfl
    show (bif _ then _ else _) = _
    rw [aC (by omega), dF (by omega) (by omega)]
   ·refine bo (a := fP m (.leaf n)) ?_ rfl
    refine bo (a := decide (m = true ∧ (n.Kind = 2 ∨ n.Kind = 3))) ?_ ?_
    ·cases m with
     | false => simp
     | true =>
      refine bt rfl ?_
      by_cases h2 : n.Kind = 2
      ·simp [h2]
      ·rw [show (n.Kind == 2) = false by simpa using h2]; simp [h2, Bool.beq_eq_decide_eq]
    ·by_cases q : m = true ∧ (n.Kind = 2 ∨ n.Kind = 3)
     ·rw [decide_eq_true q]
      refine bt rfl ?_
      refine gt (by show (0 + 1) * 56 ≤ room; rw [dB]; omega) ?_
      unfold fP; rw [if_pos q]; rfl
     ·rw [decide_eq_false q]
      refine bf rfl ?_
      unfold fP; rw [if_neg q]
 | un n a ih =>
  intro ok fuel pre post p m hf hp hl
  have hpa := mP a
  obtain ⟨f, rfl⟩ : ∃ f, fuel = f + 1 := ⟨fuel - 1, by simp [flat] at hf; omega⟩
  have e' : p = pre ++ (flat a ++ ([n] ++ post)) := by rw [hp]; simp [flat]
  have hi : pre.length + (flat a).length < p.length := by rw [e']; simp
  have hx : p[pre.length + (flat a).length] = n := by
   have : p[(pre ++ flat a).length]'(by simpa using hi) = n := by simp [e']
   simpa using this
  have k1 : eO n = 1 := ok.1
  have kk : n.Kind ≠ 2 ∧ n.Kind ≠ 3 ∧ n.Kind ≠ 4 := by
   unfold eO at k1
   split at k1
   ·omega
   ·split at k1 <;> omega
  unfold gB
  rw [show ((pre.length : Int) + (flat (.un n a)).length - 1) = ((pre.length + (flat a).length : Nat) : Int) by simp [flat]; omega]
  refine bo (bL hi) ?_
  rw [hx]
  refine bo (a := false) ?_ ?_
  ·cases m with
   | false => rfl
   | true =>
    refine bt rfl ?_
    refine bo (pz n) ?_
    rw [k1]
    refine bf rfl ?_
    refine bt rfl ?_
    simp [kk.2.2]
  ·have hrec := ih ok.2 f pre ([n] ++ post) p false (by simp [flat] at hf; omega) e' hl
   rw [F3] at hrec
   refine bo (a := ([], (pre.length : Int) - 1)) ?_ rfl
   refine bo (pz n) ?_
   rw [k1]
   refine bo (a := ([], (pre.length : Int) - 1)) ?_ rfl
   refine (dV (y' := ([], (pre.length : Int) - 1, 1)) ?_).trans (dY ?_)
   ·show (bif _ then _ else _) = _
    rw [av (by omega), show bF (((pre.length + (flat a).length : Nat) : Int) - 1) = (pre.length : Int) + (flat a).length - 1 by rw [dF (by omega) (by omega)]; omega, hrec, ay]
    show (bif decide ((0 + 0) * 56 ≤ room) then _ else _) = _
    rw [av (by rw [dB]; omega)]; rfl
   ·show (bif _ then _ else _) = _
    rw [aC (by omega)]
 | bin n a b iha ihb =>
  intro ok fuel pre post p m hf hp hl
  have hpa := mP a
  have hpb := mP b
  obtain ⟨f, rfl⟩ : ∃ f, fuel = f + 1 := ⟨fuel - 1, by simp [flat] at hf; omega⟩
  have e1 : p = pre ++ (flat a ++ (flat b ++ ([n] ++ post))) := by rw [hp]; simp [flat]
  have e2 : p = (pre ++ flat a) ++ (flat b ++ ([n] ++ post)) := by rw [e1]; simp
  have hi : pre.length + (flat a).length + (flat b).length < p.length := by rw [e1]; simp; omega
  have hx : p[pre.length + (flat a).length + (flat b).length] = n := by
   have : p[((pre ++ flat a) ++ flat b).length]'(by simp; omega) = n := by simp [e2]
   simpa [Nat.add_assoc] using this
  have hle : p.length = pre.length + (flat a).length + (flat b).length + 1 + post.length := by rw [e1]; simp; omega
  have k2 : eO n = 2 := ok.1
  have kk : n.Kind ≠ 2 ∧ n.Kind ≠ 3 := by
   unfold eO at k2
   split at k2
   ·omega
   ·split at k2 <;> omega
  unfold gB
  rw [show ((pre.length : Int) + (flat (.bin n a b)).length - 1) = ((pre.length + (flat a).length + (flat b).length : Nat) : Int) by simp [flat]; omega]
  refine bo (bL hi) ?_
  rw [hx]
  refine bo (a := m && decide (n.Kind = 4)) ?_ ?_
  ·cases m with
   | false => rfl
   | true =>
    refine bt rfl ?_
    refine bo (pz n) ?_
    rw [k2]
    refine bf rfl ?_
    refine bt rfl ?_
    simp [Bool.beq_eq_decide_eq]
  ·generalize hm : (m && decide (n.Kind = 4)) = m'
   have r1 := ihb ok.2.2 f (pre ++ flat a) ([n] ++ post) p m' (by simp [flat] at hf; omega) e2 hl
   have r2 := iha ok.2.1 f pre (flat b ++ ([n] ++ post)) p m' (by simp [flat] at hf; omega) e1 hl
   have c1 := Bw m' a
   have c2 := Bw m' b
   refine bo (a := (fP m' a ++ fP m' b, (pre.length : Int) - 1)) ?_ ?_
   ·refine bo (pz n) ?_
    rw [k2]
    refine bo (a := (fP m' a ++ fP m' b, (pre.length : Int) - 1)) ?_ rfl
    refine (dV (y' := (fP m' b, (pre.length : Int) + (flat a).length - 1, 1)) ?_).trans ((dV (y' := (fP m' a ++ fP m' b, (pre.length : Int) - 1, 2)) ?_).trans (dY ?_))
    ·show (bif _ then _ else _) = _
     rw [av (by omega), show bF (((pre.length + (flat a).length + (flat b).length : Nat) : Int) - 1) = ((pre ++ flat a).length : Int) + (flat b).length - 1 by rw [dF (by omega) (by omega), List.length_append]; omega, r1, ay]
     show (bif decide (((fP m' b).length + 0) * 56 ≤ room) then _ else _) = _
     rw [av (by rw [dB]; omega), List.append_nil, List.length_append]
     show some (Sum.inl (_, _, _)) = some (Sum.inl (_, _, _))
     rw [show (((pre.length + (flat a).length : Nat) : Int) - 1) = (pre.length : Int) + (flat a).length - 1 by omega]; rfl
    ·show (bif _ then _ else _) = _
     rw [av (by omega), r2, ay]
     show (bif decide (((fP m' a).length + (fP m' b).length) * 56 ≤ room) then _ else _) = _
     rw [av (by rw [dB]; omega)]; rfl
    ·show (bif _ then _ else _) = _
     rw [aC (by omega)]
   ·refine bo (a := fP m' a ++ fP m' b) ?_ (by show some (fP m' a ++ fP m' b, _) = some (fP (m && decide (n.Kind = 4)) a ++ fP (m && decide (n.Kind = 4)) b, _); rw [hm])
    refine bo (a := false) ?_ rfl
    cases m' with
    | false => rfl
    | true =>
     refine bt rfl ?_
     refine bf (by simpa using kk.1) ?_
     simp [kk.2]
def wF (c : Int) (n : aA) : Bool := decide (n.Col = c ∧ (n.Kind = 3 ∨ n.Op = 3))
theorem XT (n : aA) (c : Int) : lg n c = some (wF c n) := by
 unfold lg wF
 refine bo (a := decide (n.Col = c ∧ (n.Kind = 3 ∨ n.Op = 3))) ?_ rfl
 by_cases h : n.Col = c
 ·rw [show (n.Col == c) = true by simpa using h]
  refine bt rfl ?_
  by_cases k : n.Kind = 3
  ·simp [h, k]
  ·rw [show (n.Kind == 3) = false by simpa using k]; simp [h, k, Bool.beq_eq_decide_eq]
 ·rw [show (n.Col == c) = false by simpa using h]; simp [h]
theorem Rf (l : List aA) (x : aI) (hl : l.length ≤ 1000000) : dh l x = some (Nr (wF x.Col) l) := by
 unfold dh
 refine lqX l (wF x.Col) (fun i hi => ?_) ?_
 ·show (bif _ then _ else _) = _
  rw [av (by omega), bL hi, ay]
  refine bo (a := wF x.Col l[i]) (bo (XT _ _) rfl) ?_
  rw [bO (by omega)]
  cases wF x.Col l[i] <;> rfl
 ·show (bif _ then _ else _) = _
  rw [aC (by omega)]
theorem WC {α : Type} (p : α → Bool) (l : List α) : match l.find? p with
  | some x => 0 ≤ Nr p l ∧ bG l (Nr p l) = some x
  | none => Nr p l < 0 := by
 unfold Nr
 have key : ∀ (r pre : List α), l = pre ++ r → match r.find? p with
   | some x => ∃ i : Nat, eH (fun i x => if p x = true then some (i : Int) else none) pre.length r = some (i : Int) ∧ bG l (i : Int) = some x
   | none => eH (fun i x => if p x = true then some (i : Int) else none) pre.length r = none := by
  intro r
  induction r with
  | nil => intro pre h; rfl
  | cons x r ih =>
   intro pre h
   rw [List.find?_cons]
   cases hq : p x with
   | true =>
    refine ⟨pre.length, by rw [eH, if_pos hq], ?_⟩
    rw [bL (by rw [h]; simp)]
    simp [h]
   | false =>
    have := ih (pre ++ [x]) (by rw [h]; simp)
    rw [List.length_append, List.length_singleton] at this
    have e : eH (fun i x => if p x = true then some (i : Int) else none) pre.length (x :: r) = eH (fun i x => if p x = true then some (i : Int) else none) (pre.length + 1) r := by
     rw [eH, if_neg (by rw [hq]; simp)]
    rw [e]
    exact this
 have := key l [] rfl
 split
 ·rename_i x hx
  rw [hx] at this
  obtain ⟨i, h1, h2⟩ := this
  rw [show ([] : List α).length = 0 from rfl] at h1
  rw [h1]
  exact ⟨by show (0 : Int) ≤ (i : Int); omega, h2⟩
 ·rename_i hx
  rw [hx] at this
  rw [show eH (fun i x => if p x = true then some (i : Int) else none) 0 l = none from this]
  show (-1 : Int) < 0
  omega
def nT (v : ak) (d : Bool) : List UInt8 := turn d (enc v)
theorem Wu (v : ak) (d : Bool) (h : val v = true) : pred_one v d = some (nT v d) := by
 unfold pred_one
 have hs := Fp h
 have he := xC h
 refine bo (Lf [v] [d] ⟨by simp, fun x hx => by
  obtain rfl : x = v := by simpa using hx
  omega⟩) ?_
 unfold encS
 have h1 : ([v].any bad) = false := by simp [bad, h]
 have h2 : wI [v] [d] = nT v d := by simp [wI, nT]
 have h3 : (nT v d).length ≤ 137 := by unfold nT; rw [zQ]; exact he
 rw [if_pos (show [v].length = [d].length from rfl), h1, if_neg (by simp), h2, if_neg (by omega)]
theorem rT {v : ak} {d : Bool} (h : val v = true) : (nT v d).length ≤ 137 := by unfold nT; rw [zQ]; exact xC h
def Lg (s : List UInt8) : List UInt8 := (iU s).getD []
theorem Rp (s : List UInt8) (h : s.length ≤ 1000000) : nP s = some (Lg s) := by
 unfold nP Lg
 refine bo (Qr s (by omega)) ?_
 cases iU s <;> rfl
def iI (con : List aA) : List aI → List (aA × aI)
 | [] => []
 | x :: r => match con.find? (wF x.Col) with
  | some n => (n, x) :: iI con r
  | none => []
def uy (l : List (aA × aI)) : List UInt8 := (l.map fun q => nT q.1.Val q.2.Down).flatten
def Ce (x : aI) (n : aA) : Bool := decide (n.Kind ≠ 2 ∨ n.Col ≠ x.Col ∨ n.Op = 3 ∨ n.Op = 6)
def kU (x : aI) (pre : List UInt8) (s : Bool × aW) (n : aA) : Bool × aW :=
 if Ce x n = true then s else
  if decide (n.Op = 4 ∨ n.Op = 5) = x.Down then
   (if n.Op = 4 ∨ n.Op = 2 then (true, ⟨s.2.Lo, minS s.2.Hi (Lg (pre ++ nT n.Val x.Down)), s.2.Open⟩) else (true, ⟨s.2.Lo, minS s.2.Hi (pre ++ nT n.Val x.Down), s.2.Open⟩))
  else (if n.Op = 4 ∨ n.Op = 2 then (true, ⟨maxS s.2.Lo (pre ++ nT n.Val x.Down), s.2.Hi, s.2.Open⟩) else (true, ⟨maxS s.2.Lo (Lg (pre ++ nT n.Val x.Down)), s.2.Hi, s.2.Open⟩))
def u7 (x : aI) (pre : List UInt8) : aW := if x.Down = true then ⟨pre, Lg (pre ++ [254]), false⟩ else ⟨pre ++ [1], Lg (pre ++ [1]), false⟩
def oG (x : aI) (con : List aA) (pre : List UInt8) : Bool × aW := con.foldl (kU x pre) (false, u7 x pre)
def dz (ps : List aI) (con : List aA) : Int × Bool × aW :=
 match ps[(iI con ps).length]? with
 | some x => if (oG x con (uy (iI con ps))).1 = true then ((iI con ps).length, true, (oG x con (uy (iI con ps))).2) else ((iI con ps).length, false, OL (uy (iI con ps)))
 | none => ((iI con ps).length, false, OL (uy (iI con ps)))
theorem ao4 (o : Int) : (bif (o == (4 : Int)) then some true else some (o == (5 : Int))) = some (decide (o = 4 ∨ o = 5)) := by
 by_cases h : o = 4
 ·simp [h]
 ·rw [show (o == 4) = false by simpa using h]; simp [h, Bool.beq_eq_decide_eq]
theorem Rx (x : aI) (con : List aA) (pre : List UInt8) (hc : con.length ≤ 1000000) (hv : ∀ n ∈ con, val n.Val = true) (hp : pre.length ≤ 100000) : kF x con pre = some (oG x con pre) := by
 unfold kF
 refine gt (by show pre.length + 1 ≤ _; omega) ?_
 refine gt (by show pre.length + 1 ≤ _; omega) ?_
 refine bo (Rp (pre ++ [1]) (by simp; omega)) ?_
 refine bo (a := u7 x pre) ?_ ?_
 ·unfold u7
  cases x.Down with
  | true =>
   refine bt rfl ?_
   refine gt (by show pre.length + 1 ≤ _; omega) ?_
   exact bo (Rp (pre ++ [254]) (by simp; omega)) rfl
  | false => rfl
 ·refine Df (w := oG x con pre) (Dc (fun i => (((con.take i).foldl (kU x pre) (false, u7 x pre)).1, (i : Int), ((con.take i).foldl (kU x pre) (false, u7 x pre)).2)) con.length (fun i hi => ?_) ?_ rfl) rfl
  ·show (bif _ then _ else _) = _
   rw [av (by omega)]
   have e : con.take (i + 1) = con.take i ++ [con[i]] := by rw [List.take_add_one, List.getElem?_eq_getElem hi]; rfl
   have hn := hv _ (List.getElem_mem hi)
   rw [e, List.foldl_append]
   generalize (con.take i).foldl (kU x pre) (false, u7 x pre) = s
   show _ = some (Sum.inl ((kU x pre s con[i]).1, ((i + 1 : Nat) : Int), (kU x pre s con[i]).2))
   refine bo (a := kU x pre s con[i]) ?_ (by rw [bO (by omega)])
   refine bo (bL hi) ?_
   generalize con[i] = n at hn
   refine bo (a := Ce x n) ?_ ?_
   ·unfold Ce
    by_cases h1 : n.Kind ≠ 2
    ·rw [show (n.Kind != 2) = true by simpa using h1]; simp [h1]
    rw [show (n.Kind != 2) = false by simpa using h1]
    refine bf rfl ?_
    by_cases h2 : n.Col ≠ x.Col
    ·rw [show (n.Col != x.Col) = true by simpa using h2]; simp [h2]
    rw [show (n.Col != x.Col) = false by simpa using h2]
    refine bf rfl ?_
    by_cases h3 : n.Op = 3
    ·rw [show (n.Op == 3) = true by simpa using h3]; simp [h3]
    rw [show (n.Op == 3) = false by simpa using h3]
    refine bf rfl ?_
    simp only [ne_eq, Decidable.not_not] at h1 h2
    simp [h1, h2, h3, Bool.beq_eq_decide_eq]
   ·unfold kU
    cases hq : Ce x n with
    | true => rfl
    | false =>
     refine bf rfl ?_
     rw [if_neg (by simp)]
     refine bo (Wu n.Val x.Down hn) ?_
     have hel := rT (d := x.Down) hn
     refine gt (by omega) ?_
     refine bo (ao4 n.Op) ?_
     have en := Rp (pre ++ nT n.Val x.Down) (by rw [List.length_append]; omega)
     by_cases r : decide (n.Op = 4 ∨ n.Op = 5) = x.Down
     ·rw [if_pos r, show (decide (n.Op = 4 ∨ n.Op = 5) == x.Down) = true by simpa using r]
      refine bo (a := decide (n.Op = 4 ∨ n.Op = 2)) ?_ ?_
      ·refine bt rfl ?_
       by_cases h : n.Op = 4
       ·simp [h]
       ·rw [show (n.Op == 4) = false by simpa using h]; simp [h, Bool.beq_eq_decide_eq]
      ·by_cases q : n.Op = 4 ∨ n.Op = 2
       ·rw [decide_eq_true q, if_pos q]
        refine bt rfl ?_
        exact bo en rfl
       ·rw [decide_eq_false q, if_neg q]; rfl
     ·rw [if_neg r, show (decide (n.Op = 4 ∨ n.Op = 5) == x.Down) = false by simpa using r]
      refine bo (a := false) rfl ?_
      refine bf rfl ?_
      refine bf rfl ?_
      refine bo (a := decide (n.Op = 4 ∨ n.Op = 2)) ?_ ?_
      ·by_cases h : n.Op = 4
       ·simp [h]
       ·rw [show (n.Op == 4) = false by simpa using h]; simp [h, Bool.beq_eq_decide_eq]
      ·by_cases q : n.Op = 4 ∨ n.Op = 2
       ·rw [decide_eq_true q, if_pos q]; rfl
       ·rw [decide_eq_false q, if_neg q]
        refine bf rfl ?_
        exact bo en rfl
  ·show (bif _ then _ else _) = _
   rw [aC (by omega), List.take_length]; rfl
theorem EJ (con : List aA) : ∀ ps : List aI, (iI con ps).length ≤ ps.length
 | [] => by simp [iI]
 | x :: r => by
  have := EJ con r
  unfold iI
  split
  ·simp; omega
  ·simp
theorem JN {con : List aA} (hv : ∀ n ∈ con, val n.Val = true) : ∀ ps : List aI, ∀ q ∈ iI con ps, val q.1.Val = true
 | [], q, h => by cases h
 | x :: r, q, h => by
  unfold iI at h
  split at h
  ·rename_i n hn
   rcases List.mem_cons.1 h with rfl | h
   ·exact hv _ (List.mem_of_find?_eq_some hn)
   ·exact JN hv r q h
  ·cases h
theorem Pj {l : List (aA × aI)} (h : ∀ q ∈ l, val q.1.Val = true) : (uy l).length ≤ 137 * l.length := by
 induction l with
 | nil => simp [uy]
 | cons q l ih =>
  have h1 := ih fun x hx => h x (by simp [hx])
  have h2 := rT (d := q.2.Down) (h q (by simp))
  unfold uy at h1 ⊢
  simp only [List.map_cons, List.flatten_cons, List.length_append, List.length_cons]
  omega
theorem Mj (ps : List aI) (t : PT) (ht : BM t) (hps : ps.length ≤ 100) (hl : (flat t).length ≤ 1000) (hv : ∀ n ∈ fP true t, val n.Val = true) : iX ps (flat t) = some (dz ps (fP true t)) := by
 unfold iX
 have hpos := mP t
 have h0 := ZV t ht 1000 [] [] (flat t) true hl (by simp) (by omega)
 rw [show ((([] : List aA).length : Int) + (flat t).length - 1) = ((flat t).length : Int) - 1 by simp] at h0
 rw [dF (n := ((flat t).length : Int) - 1) (by omega) (by omega)]
 refine bo h0 ?_
 have hcl := Bw true t
 generalize fP true t = con at hv hcl
 have hfl := EJ con ps
 have hfv := JN hv ps
 have hpl := Pj hfv
 refine Df (w := (uy (iI con ps), ((iI con ps).length : Int))) (nmB fun B hB => ?_) ?_
 ·have key : ∀ (r pre : List aI) (s : List UInt8), ps = pre ++ r → s.length + 137 * r.length ≤ 100000 → loop B (s, (pre.length : Int)) = some (s ++ uy (iI con r), ((pre.length + (iI con r).length : Nat) : Int)) := by
   intro r
   induction r with
   | nil =>
    intro pre s e hs
    rw [show iI con [] = [] from rfl]
    refine dY ?_
    rw [hB]
    show (bif _ then _ else _) = _
    rw [aC (by rw [e]; simp)]
    simp [uy]
   | cons x r ih =>
    intro pre s e hs
    have hi : pre.length < ps.length := by rw [e]; simp
    have hx : ps[pre.length] = x := by simp [e]
    have hf := WC (wF x.Col) con
    have hb : B (s, (pre.length : Int)) = (match con.find? (wF x.Col) with | some n => some (.inl (s ++ nT n.Val x.Down, ((pre.length + 1 : Nat) : Int))) | none => some (.inr (s, (pre.length : Int)))) := by
     rw [hB]
     show (bif _ then _ else _) = _
     rw [av (by omega)]
     refine bo (bL hi) ?_
     rw [hx]
     refine bo (Rf con x (by omega)) ?_
     cases hq : con.find? (wF x.Col) with
     | none =>
      rw [hq] at hf
      have hf : Nr (wF x.Col) con < 0 := hf
      rw [av hf]
     | some n =>
      rw [hq] at hf
      obtain ⟨f1, f2⟩ := hf
      rw [aC (by omega)]
      refine bo f2 ?_
      have S9 := hv _ (List.mem_of_find?_eq_some hq)
      refine bo (Wu n.Val x.Down S9) ?_
      have := rT (d := x.Down) S9
      simp only [List.length_cons] at hs
      rw [av (by omega), bO (by omega)]
    cases hq : con.find? (wF x.Col) with
    | none =>
     rw [hq] at hb
     rw [dY hb]
     unfold iI
     rw [hq]
     simp [uy]
    | some n =>
     rw [hq] at hb
     have S9 := hv _ (List.mem_of_find?_eq_some hq)
     have := rT (d := x.Down) S9
     simp only [List.length_cons] at hs
     have ih' := ih (pre ++ [x]) (s ++ nT n.Val x.Down) (by rw [e]; simp) (by rw [List.length_append]; omega)
     rw [List.length_append, List.length_singleton] at ih'
     rw [dV hb, ih']
     have ef : iI con (x :: r) = (n, x) :: iI con r := by
      show (match con.find? (wF x.Col) with | some n => (n, x) :: iI con r | none => []) = _
      rw [hq]
     rw [ef]
     congr 2
     ·simp [uy]
     ·simp; omega
  have := key ps [] [] rfl (by simp; omega)
  simpa using this
 ·unfold dz
  by_cases hlt : (iI con ps).length < ps.length
  ·rw [List.getElem?_eq_getElem hlt]
   refine (show eu _ _ _ = _ from ?_)
   rw [av (by omega), bL hlt, ay, Rx _ con _ (by omega) hv (by omega), ay]
   generalize hbs : oG ps[(iI con ps).length] con (uy (iI con ps)) = bs
   obtain ⟨b, sp⟩ := bs
   show _ = some (if (oG ps[(iI con ps).length] con (uy (iI con ps))).1 = true then (((iI con ps).length : Int), true, (oG ps[(iI con ps).length] con (uy (iI con ps))).2) else ((iI con ps).length, false, OL (uy (iI con ps))))
   rw [hbs]
   cases b with
   | true => rfl
   | false =>
    refine beY (y := ()) rfl ?_
    exact bo (Km _ (by omega)) rfl
  ·rw [List.getElem?_eq_none (by omega)]
   refine (show eu _ _ _ = _ from ?_)
   rw [aC (by omega)]
   refine beY (y := ()) rfl ?_
   exact bo (Km _ (by omega)) rfl
theorem ZW {d9 : List aB} {t : PT} (h : ∀ n ∈ flat t, lS n d9.length = true ∧ u6 d9 n = false) : ∀ n ∈ fP true t, val n.Val = true := by
 intro n hn
 obtain ⟨h1, h2⟩ := Ib true t n hn
 obtain ⟨h3, h4⟩ := h n h1
 unfold lS at h3
 unfold u6 at h4
 rw [decide_eq_false_iff_not] at h4
 rcases h2 with h2 | h2
 ·cases hv : val n.Val with
  | true => rfl
  | false => exact absurd ⟨h2, .inl hv⟩ h4
 ·rw [if_neg (by omega), if_pos h2, decide_eq_true_eq] at h3
  rw [h3.2.2.2]; decide
end Lv
namespace Lv
open Go Go.Proofs
variable [bJ]
end Lv
namespace Lv
open Go Go.Proofs
variable [bJ]
theorem Es (a : List UInt8) : AA a a = false := Jt a
theorem SS (a : List UInt8) : AA a [] = false := by cases a <;> simp [AA, Op.bytesLess]
theorem Jr (x y : UInt8) (a b : List UInt8) : AA (x :: a) (y :: b) = (decide (x < y) || (x == y && AA a b)) := by
 by_cases h : x < y
 ·simp [AA, Op.bytesLess, h]
 ·by_cases k : x = y
  ·subst k; simp [AA, Op.bytesLess, h]
  ·simp [AA, Op.bytesLess, h, k]
theorem L6 : ∀ {a b c : List UInt8}, AA a b = true → AA b c = true → AA a c = true
 | a, b, [], _, h => by rw [SS] at h; cases h
 | a, [], z :: c, h, _ => by rw [SS] at h; cases h
 | [], y :: b, z :: c, _, _ => by simp [AA, Op.bytesLess]
 | x :: a, y :: b, z :: c, h, k => by
  rw [Jr] at h k ⊢
  simp only [Bool.or_eq_true, decide_eq_true_eq, Bool.and_eq_true, beq_iff_eq] at h k ⊢
  rcases h with h | ⟨rfl, h⟩
  ·rcases k with k | ⟨rfl, k⟩
   ·exact .inl (UInt8.lt_iff_toNat_lt.2 (Nat.lt_trans (UInt8.lt_iff_toNat_lt.1 h) (UInt8.lt_iff_toNat_lt.1 k)))
   ·exact .inl h
  ·rcases k with k | ⟨rfl, k⟩
   ·exact .inl k
   ·exact .inr ⟨rfl, L6 h k⟩
theorem Nh : ∀ (a b : List UInt8), AA a b = true ∨ a = b ∨ AA b a = true
 | [], [] => .inr (.inl rfl)
 | [], y :: b => .inl (by simp [AA, Op.bytesLess])
 | x :: a, [] => .inr (.inr (by simp [AA, Op.bytesLess]))
 | x :: a, y :: b => by
  rw [Jr, Jr]
  rcases adw x y with h | h | h
  ·exact .inl (by simp [h])
  ·exact .inr (.inr (by simp [h]))
  ·subst h
   rcases Nh a b with h | h | h
   ·exact .inl (by simp [h])
   ·exact .inr (.inl (by rw [h]))
   ·exact .inr (.inr (by simp [h]))
theorem Et {a b : List UInt8} (h : AA a b = true) : AA b a = false := by
 cases k : AA b a with
 | false => rfl
 | true => have := L6 h k; rw [Es] at this; cases this
def within (K : List UInt8) (s : aW) : Prop := AA K s.Lo = false ∧ AA K s.Hi = true ∧ s.Open = false
theorem yQ (ps : List aI) (con : List aA) : 0 ≤ (dz ps con).1 ∧ (dz ps con).1 ≤ ps.length := by
 have := EJ con ps
 unfold dz
 split
 ·split
  ·exact ⟨by show (0 : Int) ≤ ((iI con ps).length : Int); omega, by show ((iI con ps).length : Int) ≤ _; omega⟩
  ·exact ⟨by show (0 : Int) ≤ ((iI con ps).length : Int); omega, by show ((iI con ps).length : Int) ≤ _; omega⟩
 ·exact ⟨by show (0 : Int) ≤ ((iI con ps).length : Int); omega, by show ((iI con ps).length : Int) ≤ _; omega⟩
end Lv
namespace Lv
open Go Go.Proofs
section
variable {κ : Type} [BEq κ] [LawfulBEq κ]
end
variable [bJ]
theorem contains_eq (l : List Int) (x : Int) (h : l.length < 4611686018427387904) : dS l x = some (oC l x) := by
 unfold dS gL
 refine bo (a := Nr (fun c => c == x) l) (lqX l _ (fun i hi => ?_) ?_) (by rw [EA]; rfl)
 ·rw [av (by omega), bL hi, ay, bO (by omega), show (x == l[i]) = (l[i] == x) from BEq.comm]
  cases l[i] == x <;> rfl
 ·rw [aC (by omega)]
def OkY (x : bE) : Prop := OkX x ∧ x.Parts.length * 8 ≤ room
end Lv
namespace Lv
open Go
variable [bJ]
omit [bJ] in
theorem Zz {R : Nat} (hR : R ≤ 140737488355328) {x : bE} (h : yx R x) : OkY x := by
 obtain ⟨k1, k2, k3, _⟩ := h
 have q2 := k2.1
 have q3 := k3.1
 exact ⟨⟨by omega, by omega, by omega⟩, by rw [dB]; omega⟩
omit [bJ] in
theorem ZA {R : Nat} (hR : R ≤ 140737488355328) {t : aP} (h : CZ R t) : OkT t := by
 obtain ⟨h1, h2, h3, h4, h5, _⟩ := h
 have q2 := h2.1
 have q3 := h3.1
 have q4 := h4.1
 refine ⟨by omega, ⟨by omega, fun c hc => ?_⟩, by omega, by omega, fun x hx => (Zz hR (h4.2 x hx)).1⟩
 obtain ⟨k1, k2, k3, k4, k5, _⟩ := h2.2 c hc
 exact ⟨by omega, by have := k5.2.2.1; omega⟩
end Lv
namespace Lv
open Go Go.Proofs
variable [bJ]
def Nn : Nat → Int
 | 0 => 1000
 | n + 1 => Int.tdiv (Nn n) 10
theorem AB : ∀ n, 0 ≤ Nn n ∧ Nn n ≤ 1000
 | 0 => by simp [Nn]
 | n + 1 => by
  have := AB n
  unfold Nn
  rw [Int.tdiv_eq_ediv_of_nonneg this.1]
  omega
def nC (f : Int) (b one : Bool) : Int := if one = true then 1 else max (if b = true then Int.tdiv (Nn f.toNat) 3 else Nn f.toNat) 1
theorem D7 (f : Int) (b one : Bool) : 1 ≤ nC f b one ∧ nC f b one ≤ 1000 := by
 have := AB f.toNat
 unfold nC
 split
 ·omega
 ·split
  ·rw [Int.tdiv_eq_ediv_of_nonneg this.1]; omega
  ·omega
theorem MS (p : aG) (one : Bool) (h : 0 ≤ p.Fixed ∧ p.Fixed ≤ 1000) : ni p one = some (nC p.Fixed p.Bounded one) := by
 unfold ni
 have hf : ((p.Fixed.toNat : Nat) : Int) = p.Fixed := by omega
 refine Df (w := Nn p.Fixed.toNat) (Dc (fun i => (Nn i, (i : Int))) p.Fixed.toNat (fun i hi => ?_) ?_ rfl) ?_
 ·show (bif _ then _ else _) = _
  have h1 := AB i
  have h2 := AB (i + 1)
  rw [av (by omega), bO (by omega)]
  show some (Sum.inl (bF (Nn (i + 1)), _)) = _
  rw [dF (by omega) (by omega)]
 ·show (bif _ then _ else _) = _
  rw [aC (by omega)]
 ·have h1 := AB p.Fixed.toNat
  refine bo (a := if p.Bounded = true then Int.tdiv (Nn p.Fixed.toNat) 3 else Nn p.Fixed.toNat) ?_ ?_
  ·cases p.Bounded with
   | true =>
    refine bt rfl ?_
    rw [dF (by rw [Int.tdiv_eq_ediv_of_nonneg h1.1]; omega) (by rw [Int.tdiv_eq_ediv_of_nonneg h1.1]; omega)]; rfl
   | false => rfl
  ·unfold nC
   cases one <;> rfl
theorem qw {α : Type} (l : List α) (i : Nat) (hi : i < l.length) : l.take (i + 1) = l.take i ++ [l[i]] := by
 rw [List.take_add_one, List.getElem?_eq_getElem hi]; rfl
theorem Pp (q : bP) (h : q.Order.length * 16 ≤ 140737488351232) : fD q = some (cZ q.Order) := by
 unfold fD
 refine Df (w := cZ q.Order) (Dc (fun i => (cZ (q.Order.take i), (i : Int))) q.Order.length (fun i hi => ?_) ?_ rfl) rfl
 ·show (bif _ then _ else _) = _
  rw [av (by omega)]
  refine bo (bL hi) ?_
  refine gt (by unfold cZ; rw [List.length_map, List.length_take, List.length_singleton, dB]; omega) ?_
  rw [bO (by omega), qw _ i hi]
  unfold cZ
  rw [List.map_append]; rfl
 ·show (bif _ then _ else _) = _
  rw [aC (by omega), List.take_length]
theorem ZO (n : Nat) (h : n ≤ 1000000) : ig (n : Int) = some () := by
 unfold ig
 refine bo (a := ()) (by rw [aC (by omega)]) ?_
 have e : bF ((n : Int) - bF ((0 : Int) - (0 : Int))) = (n : Int) := by
  rw [show bF ((0 : Int) - (0 : Int)) = 0 by rw [dF (by omega) (by omega)]; rfl, dF (by omega) (by omega)]; omega
 rw [e]
 refine bo (a := ()) ?_ rfl
 by_cases h0 : n = 0
 ·rw [aC (by omega)]
 ·rw [av (by omega)]
  refine gt rfl ?_
  refine gt (by omega) ?_
  exact gt (by omega) rfl
theorem Uw (l : List (List Int)) (h : l.flatten.length ≤ 100000) (hl : l.length ≤ 1000) : fG l = some l.flatten := by
 unfold fG
 have hle : ∀ i, ((l.take i).flatten).length ≤ l.flatten.length := by
  intro i
  have : l.flatten = (l.take i).flatten ++ (l.drop i).flatten := by rw [← List.flatten_append, List.take_append_drop]
  rw [this, List.length_append]; omega
 refine Df (w := (l.flatten.length : Int)) (Dc (fun i => ((((l.take i).flatten).length : Int), (i : Int))) l.length (fun i hi => ?_) ?_ rfl) ?_
 ·show (bif _ then _ else _) = _
  rw [av (by omega)]
  have h2 := hle (i + 1)
  have e : ((l.take (i + 1)).flatten).length = ((l.take i).flatten).length + l[i].length := by rw [qw l i hi]; simp only [List.flatten_append, List.flatten_cons, List.flatten_nil, List.append_nil, List.length_append]
  have ew : bF ((((l.take i).flatten).length : Int) + (l[i].length : Int)) = (((l.take (i + 1)).flatten).length : Int) := by
   rw [dF (by omega) (by omega)]; omega
  refine bo (a := (((l.take (i + 1)).flatten).length : Int)) ?_ (by rw [bO (by omega)])
  refine bo (bL hi) ?_
  show (bif decide (bF ((((l.take i).flatten).length : Int) + (l[i].length : Int)) < 0) then _ else _) = _
  rw [ew, aC (by omega)]
 ·show (bif _ then _ else _) = _
  rw [aC (by omega), List.take_length]
 ·refine bo (ZO _ (by omega)) ?_
  refine Df (w := l.flatten) (Dc (fun i => ((l.take i).flatten, (i : Int))) l.length (fun i hi => ?_) ?_ rfl) rfl
  ·show (bif _ then _ else _) = _
   rw [av (by omega)]
   refine bo (bL hi) ?_
   have h2 := hle (i + 1)
   have e : (l.take (i + 1)).flatten = (l.take i).flatten ++ l[i] := by rw [qw l i hi]; simp only [List.flatten_append, List.flatten_cons, List.flatten_nil, List.append_nil]
   have e2 := congrArg List.length e
   rw [List.length_append] at e2
   refine gt (by rw [dB]; omega) ?_
   rw [bO (by omega), e]
  ·show (bif _ then _ else _) = _
   rw [aC (by omega), List.take_length]
def jU (q : bP) : List Int := mI [mI (kR q.Pred), q.aV, cZ q.Order].flatten
theorem Fz (l : List Int) : (mI l).length ≤ l.length := by
 have : ∀ (a : Array Int) (m : Nat), (Go.Lib.compactUpTo a m).length ≤ m := by
  intro a m
  induction m with
  | zero => simp [Go.Lib.compactUpTo]
  | succ m ih =>
   rw [Go.Lib.compactUpTo_succ, List.length_append]
   split <;> simp <;> omega
 unfold mI Go.Lib.compact
 have h := this (l.mergeSort fun x y => decide (x ≤ y)).toArray (l.mergeSort fun x y => decide (x ≤ y)).length
 rw [List.length_mergeSort] at h ⊢
 exact h
theorem P9 (p : List aA) : (kR p).length ≤ p.length := by unfold kR; rw [List.length_map]; exact List.length_filter_le _ _
theorem Qn (q : bP) (h1 : q.Pred.length ≤ 1000) (h2 : q.aV.length ≤ 1000) (h3 : q.Order.length ≤ 1000) : kI q = some (jU q) := by
 unfold kI jU
 have a1 := Fz (kR q.Pred)
 have a2 := P9 q.Pred
 refine bo (aae q.Pred (by omega)) ?_
 refine bo (Pp q (by omega)) ?_
 have hf : ([mI (kR q.Pred), q.aV, cZ q.Order].flatten).length ≤ 3000 := by simp [cZ]; omega
 refine bo (Uw _ (by omega) (by simp)) ?_
 generalize [mI (kR q.Pred), q.aV, cZ q.Order].flatten = l at hf
 refine bo (a := l.mergeSort fun x y => decide (x ≤ y)) (by unfold wB; rw [if_pos (by omega)]) ?_
 refine bo (a := mI l) ?_ rfl
 unfold jW mI
 rw [if_pos ⟨rfl, by rw [List.length_mergeSort], by rw [List.length_mergeSort]; omega⟩]
theorem FB (q : bP) (h1 : q.Pred.length ≤ 1000) (h2 : q.aV.length ≤ 1000) (h3 : q.Order.length ≤ 1000) : (jU q).length ≤ 3000 := by
 unfold jU
 have a0 := Fz [mI (kR q.Pred), q.aV, cZ q.Order].flatten
 have a1 := Fz (kR q.Pred)
 have a2 := P9 q.Pred
 have hf : ([mI (kR q.Pred), q.aV, cZ q.Order].flatten).length ≤ 3000 := by simp [cZ]; omega
 omega
def Gm (t : aP) (x : bE) (c : Int) : Bool := !(x.Parts.any fun p => p.Col == c) && (!oC x.Extra c && !oC t.aH c)
theorem TJ (c : Int) (x : bE) (t : aP) (h1 : x.Parts.length < 4611686018427387904) (h2 : x.Extra.length < 4611686018427387904) (h3 : t.aH.length < 4611686018427387904) : kG c x t = some (Gm t x c) := by
 unfold kG Gm
 refine bo (a := x.Parts.any fun p => p.Col == c) ?_ ?_
 ·unfold dA dJ
  refine bo (lqX x.Parts (fun p => p.Col == c) (fun i hi => ?_) ?_) (by rw [EA])
  ·show (bif _ then _ else _) = _
   rw [av (by omega), bL hi, ay]
   refine bo (a := ()) rfl ?_
   rw [bO (by omega)]
   cases x.Parts[i].Col == c <;> rfl
  ·show (bif _ then _ else _) = _
   rw [aC (by omega)]
 ·refine bo (a := !(x.Parts.any fun p => p.Col == c) && (!oC x.Extra c && !oC t.aH c)) ?_ rfl
  cases x.Parts.any fun p => p.Col == c with
  | true => rfl
  | false =>
   refine bt rfl ?_
   refine bo (contains_eq x.Extra c h2) ?_
   cases oC x.Extra c with
   | true => rfl
   | false =>
    refine bt rfl ?_
    exact bo (contains_eq t.aH c h3) rfl
def sI (t : aP) (x : bE) (needs : List Int) : Bool := !(needs.any (Gm t x))
theorem VO (t : aP) (x : bE) (needs : List Int) (hn : needs.length ≤ 10000) (h1 : x.Parts.length < 4611686018427387904) (h2 : x.Extra.length < 4611686018427387904) (h3 : t.aH.length < 4611686018427387904) : ou t x needs = some (sI t x needs) := by
 unfold ou sI
 refine bo (a := needs.any (Gm t x)) ?_ rfl
 unfold dU eP
 refine bo (lqX needs (Gm t x) (fun i hi => ?_) ?_) (by rw [EA])
 ·show (bif _ then _ else _) = _
  rw [av (by omega), bL hi, ay]
  refine bo (TJ _ x t h1 h2 h3) ?_
  rw [bO (by omega)]
  cases Gm t x needs[i] <;> rfl
 ·show (bif _ then _ else _) = _
  rw [aC (by omega)]
def PZ (cov : Bool) (n : Int) : Int := if cov = true then 1 + n else 2 + 4 * n
def Pn (t : aP) (con : List aA) (needs : List Int) (i : Int) (x : bE) : aG :=
 aG.mk i (dz x.Parts con).2.2 (dz x.Parts con).1 (dz x.Parts con).2.1 (sI t x needs)
  (PZ (sI t x needs) (nC (dz x.Parts con).1 (dz x.Parts con).2.1 (x.Unique && decide ((dz x.Parts con).1 = x.Parts.length))))
def zA (t : aP) (con : List aA) (needs : List Int) : Int → List bE → List aG
 | _, [] => []
 | i, x :: l => if x.Ready = true then Pn t con needs i x :: zA t con needs (i + 1) l else zA t con needs (i + 1) l
theorem FP (t : aP) (con : List aA) (needs : List Int) (x : bE) : ∀ (l : List bE) (i : Int), zA t con needs i (l ++ [x]) = zA t con needs i l ++ (if x.Ready = true then [Pn t con needs (i + l.length) x] else [])
 | [], i => by
  show (if x.Ready = true then _ else _) = _
  simp [zA]
 | y :: l, i => by
  have ih := FP t con needs x l (i + 1)
  have e : i + 1 + (l.length : Int) = i + ((y :: l).length : Int) := by simp; omega
  rw [e] at ih
  rw [List.cons_append, zA, zA]
  split
  ·rw [ih]; rfl
  ·rw [ih]
def XK : aG := aG.mk (-1) (OL []) 0 false false 2000
def abS (t : aP) (con : List aA) : aG :=
 aG.mk (-2) (dz (q8 t.aH) con).2.2 (dz (q8 t.aH) con).1 (dz (q8 t.aH) con).2.1 false
  (1 + 2 * nC (dz (q8 t.aH) con).1 (dz (q8 t.aH) con).2.1 (decide ((dz (q8 t.aH) con).1 = t.aH.length)))
def Cu (t : aP) (con : List aA) : List aG :=
 if (dz (q8 t.aH) con).1 > 0 ∨ (dz (q8 t.aH) con).2.1 = true then [XK, abS t con] else [XK]
def CW (t : aP) (con : List aA) (needs : List Int) : List aG := Cu t con ++ zA t con needs 0 t.bn
theorem Ez (t : aP) (con : List aA) (needs : List Int) : ∀ (l : List bE) (i : Int), (zA t con needs i l).length ≤ l.length
 | [], i => by simp [zA]
 | x :: l, i => by
  have := Ez t con needs l (i + 1)
  unfold zA
  split
  ·simp; omega
  ·simp; omega
theorem FQ (t : aP) (con : List aA) : (Cu t con).length ≤ 2 := by unfold Cu; split <;> simp
theorem Yp (t : aP) (q : bP) (tr : PT) (ht : BM tr) (hq : flat tr = q.Pred) (hl : q.Pred.length ≤ 200) (hv : ∀ n ∈ fP true tr, val n.Val = true) (h1 : t.aH.length ≤ 100) (h2 : t.bn.length ≤ 1000)
  (h3 : ∀ x ∈ t.bn, x.Parts.length ≤ 100 ∧ x.Extra.length < 4611686018427387904) (h4 : q.aV.length ≤ 1000) (h5 : q.Order.length ≤ 1000) : mF t q = some (CW t (fP true tr) (jU q)) := by
 unfold mF
 refine bo (Km [] (by simp)) ?_
 refine Df (w := q8 t.aH) (Dc (fun i => (q8 (t.aH.take i), (i : Int))) t.aH.length (fun i hi => ?_) ?_ rfl) ?_
 ·show (bif _ then _ else _) = _
  rw [av (by omega)]
  refine bo (bL hi) ?_
  refine gt (by unfold q8; rw [List.length_map, List.length_take, List.length_singleton, dB]; omega) ?_
  rw [bO (by omega), qw _ i hi]
  unfold q8
  rw [List.map_append]; rfl
 ·show (bif _ then _ else _) = _
  rw [aC (by omega), List.take_length]
 have hup : (q8 t.aH).length = t.aH.length := by simp [q8]
 have hB := Mj (q8 t.aH) tr ht (by omega) (by rw [hq]; omega) hv
 have hn := yQ (q8 t.aH) (fP true tr)
 rw [hq] at hB
 have apD := FB q (by omega) h4 h5
 rcases hbs : dz (q8 t.aH) (fP true tr) with ⟨f, b, sp⟩
 rw [hbs] at hB hn
 refine (show Option.bind (iX (q8 t.aH) q.Pred) _ = _ from ?_)
 rw [hB, ay]
 have r1 := D7 f b (decide (f = t.aH.length))
 refine bo (a := Cu t (fP true tr)) ?_ ?_
 ·unfold Cu abS
  rw [hbs]
  have hn : 0 ≤ f ∧ f ≤ (q8 t.aH).length := hn
  refine bo (a := decide (f > 0 ∨ b = true)) ?_ ?_
  ·by_cases q : f > 0
   ·rw [av q]; simp [q]
   ·rw [aC q]; simp [q]
  ·show _ = some (if f > 0 ∨ b = true then _ else _)
   by_cases q : f > 0 ∨ b = true
   ·rw [decide_eq_true q, if_pos q]
    refine bt rfl ?_
    refine bo (MS _ _ (by show 0 ≤ f ∧ f ≤ 1000; omega)) ?_
    have e : (f == ((q8 t.aH).length : Int)) = decide (f = t.aH.length) := by rw [hup, Bool.beq_eq_decide_eq]
    rw [e]
    show (bif decide ((1 + 1) * 72 ≤ room) then _ else _) = _
    rw [av (by rw [dB]; omega)]
    show some ([XK] ++ [aG.mk (-2) sp f b false (bF (1 + bF (2 * nC f b (decide (f = t.aH.length)))))]) = _
    rw [dF (n := 2 * nC f b (decide (f = t.aH.length))) (by omega) (by omega), dF (by omega) (by omega)]
    rfl
   ·rw [decide_eq_false q, if_neg q]; rfl
 refine bo (Qn q (by omega) h4 h5) ?_
 have hh := FQ t (fP true tr)
 unfold CW
 generalize Cu t (fP true tr) = hd at hh
 refine Df (w := hd ++ zA t (fP true tr) (jU q) 0 t.bn) (Dc (fun i => (hd ++ zA t (fP true tr) (jU q) 0 (t.bn.take i), (i : Int))) t.bn.length (fun i hi => ?_) ?_ (by simp [zA])) ?_
 ·show (bif _ then _ else _) = _
  rw [av (by omega)]
  have hx := h3 _ (List.getElem_mem hi)
  have hil := Ez t (fP true tr) (jU q) (t.bn.take i) 0
  rw [List.length_take] at hil
  rw [qw _ i hi, FP, List.length_take, Nat.min_eq_left (by omega), ← List.append_assoc]
  generalize hout : hd ++ zA t (fP true tr) (jU q) 0 (t.bn.take i) = out
  have hol : out.length ≤ 2 + i := by rw [← hout, List.length_append]; omega
  refine bo (a := out ++ (if t.bn[i].Ready = true then [Pn t (fP true tr) (jU q) (0 + (i : Int)) t.bn[i]] else [])) ?_ (by rw [bO (by omega)])
  refine bo (bL hi) ?_
  generalize t.bn[i] = x at hx
  cases hr : x.Ready with
  | false =>
   refine bt rfl ?_
   simp
  | true =>
   refine bf rfl ?_
   have hBx := Mj x.Parts tr ht (by omega) (by rw [hq]; omega) hv
   rw [hq] at hBx
   have hnx := yQ x.Parts (fP true tr)
   refine bo (VO t x _ (by omega) (by omega) hx.2 (by omega)) ?_
   rcases hbx : dz x.Parts (fP true tr) with ⟨f, b, sp⟩
   rw [hbx] at hBx hnx
   refine (show Option.bind (iX x.Parts q.Pred) _ = _ from ?_)
   rw [hBx, ay, if_pos rfl, Int.zero_add]
   unfold Pn
   rw [hbx]
   generalize sI t x (jU q) = cov
   have hnx : 0 ≤ f ∧ f ≤ x.Parts.length := hnx
   have hr1 := D7 f b (x.Unique && decide (f = x.Parts.length))
   refine bo (a := nC f b (x.Unique && decide (f = x.Parts.length))) ?_ ?_
   ·cases x.Unique with
    | true =>
     refine bt rfl ?_
     refine bo (MS _ _ (by show 0 ≤ f ∧ f ≤ 1000; omega)) ?_
     rw [Bool.true_and, Bool.beq_eq_decide_eq]
    | false =>
     refine bf rfl ?_
     exact bo (MS _ _ (by show 0 ≤ f ∧ f ≤ 1000; omega)) rfl
   ·generalize nC f b (x.Unique && decide (f = x.Parts.length)) = nr at hr1
    refine bo (a := aG.mk (i : Int) sp f b cov (PZ cov nr)) ?_ ?_
    ·cases cov with
     | true =>
      refine bt rfl ?_
      rw [dF (by omega) (by omega)]; rfl
     | false =>
      refine bf rfl ?_
      rw [dF (n := 4 * nr) (by omega) (by omega), dF (by omega) (by omega)]; rfl
    ·exact gt (by rw [List.length_singleton, dB]; omega) rfl
 ·show (bif _ then _ else _) = _
  rw [aC (by omega), List.take_length]
 ·rfl
theorem OE {t : aP} (r : Right t) : ∀ x ∈ t.bn, x.Parts.length ≤ 100 ∧ x.Extra.length < 4611686018427387904 := fun x hx => by
 have rx := Og.of (r.idx x hx)
 have h1 := rx.par
 have h2 := LW rx.ext
 have h3 := r.len
 exact ⟨by omega, by omega⟩
theorem FH {Y W : Type} {B : Y → Option (Y ⊕ W)} (I : Y → Prop) (Q : W → Prop) (μ : Y → Nat) (h : ∀ y, I y → (∃ y', B y = some (.inl y') ∧ I y' ∧ μ y' < μ y) ∨ ∃ w, B y = some (.inr w) ∧ Q w) : ∀ y, I y → ∃ w, loop B y = some w ∧ Q w := by
 have key : ∀ (n : Nat) (y : Y), μ y < n → I y → ∃ w, loop B y = some w ∧ Q w := by
  intro n
  induction n with
  | zero => intro y h; omega
  | succ n ih =>
   intro y hn hy
   rcases h y hy with ⟨y', e, i', m'⟩ | ⟨w, e, q⟩
   ·rw [dV e]
    exact ih y' (by omega) i'
   ·exact ⟨w, dY e, q⟩
 exact fun y hy => key (μ y + 1) y (by omega) hy
theorem ao7 {Y W : Type} {B : Y → Option (Y ⊕ W)} {y0 : Y} (I : Y → Prop) (T : W → Prop) (μ : Y → Nat) (h : ∀ y, I y → (∃ y', B y = some (.inl y') ∧ I y' ∧ μ y' < μ y) ∨ ∃ w, B y = some (.inr w) ∧ T w) (i : I y0) :
  ∃ r, Option.bind (loop B y0) (fun e => some e) = some r ∧ T r := by
 obtain ⟨w, hw, q⟩ := FH I T μ h y0 i
 exact ⟨w, by rw [hw]; rfl, q⟩
theorem adU {Y W R : Type} {B : Y → Option (Y ⊕ W)} {y0 : Y} {K : W → Option R} {T : R → Prop} (I : Y → Prop) (Q : W → Prop) (μ : Y → Nat) (h : ∀ y, I y → (∃ y', B y = some (.inl y') ∧ I y' ∧ μ y' < μ y) ∨ ∃ w, B y = some (.inr w) ∧ Q w) (i : I y0) (k : ∀ w, Q w → ∃ r, K w = some r ∧ T r) :
  ∃ r, Option.bind (Option.bind (loop B y0) (fun e => some e)) K = some r ∧ T r := by
 obtain ⟨w, hw, q⟩ := FH I Q μ h y0 i
 obtain ⟨r, hr, t⟩ := k w q
 exact ⟨r, by rw [hw]; exact hr, t⟩
def gI (p : List aG) (a : Int) : Int := ((p[a.toNat]?).map (fun x => x.jL)).getD 0
omit [bJ] in
def qW (c : Int → Int) (x y : Int) : Prop := c x < c y ∨ c x = c y ∧ x < y
instance (c : Int → Int) (x y : Int) : Decidable (qW c x y) := inferInstanceAs (Decidable (_ ∨ _))
def vO (c : Int → Int) (a : Nat → Int) (n : Nat) : Prop := ∀ k, 0 < k → k < n → ¬ qW c (a k) (a ((k - 1) / 2))
theorem XH {c : Int → Int} {a : Nat → Int} {n : Nat} (h : vO c a n) : ∀ k, k < n → ¬ qW c (a k) (a 0) := by
 intro k
 induction k using Nat.strongRecOn with
 | ind k ih =>
  intro hk
  rcases Nat.eq_zero_or_pos k with rfl | k0
  ·unfold qW; omega
  ·have h1 := h k k0 hk
   have h2 := ih ((k - 1) / 2) (by omega) (by omega)
   unfold qW at h1 h2 ⊢
   omega
theorem VL {c : Int → Int} {a a' : Nat → Int} {n j i : Nat} (hi : i = (j - 1) / 2) (hj : 0 < j) (e1 : a' i = a j) (e2 : a' j = a i) (e3 : ∀ k, k ≠ j → k ≠ i → a' k = a k) (lt : qW c (a j) (a i))
  (H1 : ∀ k, 0 < k → k < n → k ≠ j → ¬ qW c (a k) (a ((k - 1) / 2))) (H2 : ∀ k, 0 < k → k < n → (k - 1) / 2 = j → ¬ qW c (a k) (a i)) :
  (∀ k, 0 < k → k < n → k ≠ i → ¬ qW c (a' k) (a' ((k - 1) / 2))) ∧ (∀ k, 0 < k → k < n → (k - 1) / 2 = i → ∀ g, g = (i - 1) / 2 → 0 < i → ¬ qW c (a' k) (a' g)) := by
 refine ⟨fun k k0 kn ki => ?_, fun k k0 kn kp g hg i0 => ?_⟩
 ·by_cases kj : k = j
  ·subst kj
   rw [← hi, e1, e2]
   unfold qW at lt ⊢; omega
  ·rw [e3 k kj ki]
   generalize hq : (k - 1) / 2 = q
   by_cases qj : q = j
   ·subst qj
    rw [e2]
    exact H2 k k0 kn hq
   ·by_cases qi : q = i
    ·subst qi
     rw [e1]
     have := H1 k k0 kn kj
     rw [hq] at this
     unfold qW at lt this ⊢; omega
    ·rw [e3 q qj qi, ← hq]
     exact H1 k k0 kn kj
 ·rw [e3 g (by omega) (by omega)]
  by_cases kj : k = j
  ·subst kj
   rw [e2, hg]
   exact H1 i i0 (by omega) (by omega)
  ·rw [e3 k kj (by omega)]
   have h1 := H1 k k0 kn kj
   have h2 := H1 i i0 (by omega) (by omega)
   rw [kp] at h1
   rw [← hg] at h2
   unfold qW at h1 h2 ⊢; omega
theorem Rt {c : Int → Int} {a a' : Nat → Int} {n j i : Nat} (hi : (j - 1) / 2 = i) (hj : 0 < j) (hjn : j < n) (e1 : a' i = a j) (e2 : a' j = a i) (e3 : ∀ k, k ≠ j → k ≠ i → a' k = a k) (lt : qW c (a j) (a i))
  (hm : ∀ k, 0 < k → k < n → (k - 1) / 2 = i → ¬ qW c (a k) (a j))
  (D1 : ∀ k, 0 < k → k < n → (k - 1) / 2 ≠ i → ¬ qW c (a k) (a ((k - 1) / 2))) (D2 : ∀ k, 0 < k → k < n → (k - 1) / 2 = i → 0 < i → ¬ qW c (a k) (a ((i - 1) / 2))) :
  (∀ k, 0 < k → k < n → (k - 1) / 2 ≠ j → ¬ qW c (a' k) (a' ((k - 1) / 2))) ∧ (∀ k, 0 < k → k < n → (k - 1) / 2 = j → 0 < j → ¬ qW c (a' k) (a' ((j - 1) / 2))) := by
 refine ⟨fun k k0 kn kp => ?_, fun k k0 kn kp _ => ?_⟩
 ·by_cases pi : (k - 1) / 2 = i
  ·rw [pi, e1]
   by_cases kj : k = j
   ·subst kj
    rw [e2]
    unfold qW at lt ⊢; omega
   ·rw [e3 k kj (by omega)]
    exact hm k k0 kn pi
  ·rw [e3 _ kp pi]
   by_cases ki : k = i
   ·subst ki
    rw [e1]
    exact D2 j hj hjn hi k0
   ·rw [e3 k (by omega) ki]
    exact D1 k k0 kn pi
 ·rw [hi, e1, e3 k (by omega) (by omega)]
  have := D1 k k0 kn (by omega)
  rw [kp] at this
  exact this
def gz (z : List Int) (k : Nat) : Int := z.getD k 0
theorem AQ {z : List Int} {k : Nat} (h : k < z.length) : gz z k = z[k] := by unfold gz; simp [List.getD_eq_getElem?_getD, h]
theorem XI {z : List Int} {k : Nat} (h : k < z.length) : gz z k ∈ z := by rw [AQ h]; exact List.getElem_mem h
def ML (z : List Int) (i j : Nat) : List Int := (z.set i (gz z j)).set j (gz z i)
theorem pE (z : List Int) (i j : Nat) : (ML z i j).length = z.length := by unfold ML; simp
theorem QK {z : List Int} {i j : Nat} (hi : i < z.length) (hj : j < z.length) : gz (ML z i j) i = gz z j ∧ gz (ML z i j) j = gz z i ∧ ∀ k, k ≠ j → k ≠ i → gz (ML z i j) k = gz z k := by
 refine ⟨?_, ?_, fun k kj ki => ?_⟩
 ·rw [AQ (by rw [pE]; exact hi)]
  unfold ML
  rw [List.getElem_set]
  split
  ·rename_i e; subst e; rfl
  ·rw [List.getElem_set_self]
 ·rw [AQ (by rw [pE]; exact hj)]
  unfold ML
  rw [List.getElem_set_self]
 ·unfold ML
  rw [show ∀ l : List Int, gz l k = l[k]?.getD 0 from fun l => by unfold gz; rw [List.getD_eq_getElem?_getD]]
  rw [show gz z k = z[k]?.getD 0 by unfold gz; rw [List.getD_eq_getElem?_getD]]
  rw [List.getElem?_set_ne (fun e => kj e.symm), List.getElem?_set_ne (fun e => ki e.symm)]
theorem zT {z : List Int} {i j n : Nat} (hi : i < n) (hj : j < n) (hn : n ≤ z.length) : ((ML z i j).take n).Perm (z.take n) := by
 have h1 : i < (z.take n).length := by rw [List.length_take]; omega
 have h2 : j < (z.take n).length := by rw [List.length_take]; omega
 have := List.set_set_perm h1 h2
 unfold ML
 rw [List.take_set, List.take_set, AQ (by omega), AQ (by omega)]
 rw [List.getElem_take, List.getElem_take] at this
 exact this
theorem L8 {z : List Int} {n : Nat} {i : Nat} (hi : i < n) (hn : n ≤ z.length) : sD z 0 n (i : Int) = some (gz z i) := by
 rw [Nv hi (by omega), AQ (by omega)]
 simp
theorem Te {p : List aG} {a : Int} (h : 0 ≤ a ∧ a < p.length) : ∃ x, bG p a = some x ∧ x.jL = gI p a := by
 obtain ⟨k, rfl⟩ : ∃ k : Nat, a = (k : Int) := ⟨a.toNat, by omega⟩
 have hk : k < p.length := by omega
 refine ⟨p[k], bL hk, ?_⟩
 unfold gI
 simp [hk]
def YD (p : List aG) (z : List Int) : Prop := ∀ a ∈ z, 0 ≤ a ∧ a < p.length
theorem Oi {p : List aG} {z : List Int} {n i j : Nat} (hn : n ≤ z.length) (hz : YD p z) (hi : i < n) (hj : j < n) :
  dX p z 0 n (i : Int) (j : Int) = some (decide (qW (gI p) (gz z i) (gz z j))) := by
 unfold dX
 refine bo (L8 hi hn) ?_
 refine bo (L8 hj hn) ?_
 obtain ⟨x, hx, cx⟩ := Te (hz _ (XI (by omega : i < z.length)))
 obtain ⟨y, hy, cy⟩ := Te (hz _ (XI (by omega : j < z.length)))
 refine bo hx ?_
 refine bo hy ?_
 by_cases e : x.jL = y.jL
 ·refine bf (by simp [e]) ?_
  have : (qW (gI p) (gz z i) (gz z j)) ↔ gz z i < gz z j := by unfold qW; omega
  exact congrArg some (decide_eq_decide.2 this.symm)
 ·refine bt (by simpa using e) ?_
  refine bo hx ?_
  refine bo hy ?_
  have : (qW (gI p) (gz z i) (gz z j)) ↔ x.jL < y.jL := by unfold qW; omega
  exact congrArg some (decide_eq_decide.2 this.symm)
theorem Oe {p : List aG} {z : List Int} {n i j : Nat} (hn : n ≤ z.length) (hi : i < n) (hj : j < n) :
  eT p z 0 n (i : Int) (j : Int) = some (ML z i j) := by
 unfold eT
 refine bo (L8 hj hn) ?_
 refine bo (L8 hi hn) ?_
 refine bo (L8 hi hn) ?_
 refine bo (Nv hj (by rw [List.length_set]; omega)) ?_
 unfold ML
 simp
theorem ahz {j : Nat} (h : j < 1000000000) : bF (Int.tdiv (bF ((j : Int) - 1)) 2) = (((j - 1) / 2 : Nat) : Int) := by
 rw [dF (n := (j : Int) - 1) (by omega) (by omega)]
 rcases Nat.eq_zero_or_pos j with rfl | h0
 ·decide
 ·rw [Int.tdiv_eq_ediv_of_nonneg (by omega), dF (by omega) (by omega)]
  omega
theorem agU {p : List aG} {z : List Int} {n j : Nat} (hz : YD p z) (hn : z.length = n) (hs : n < 1000000000) (hj : j < n)
  (H1 : ∀ k, 0 < k → k < n → k ≠ j → ¬ qW (gI p) (gz z k) (gz z ((k - 1) / 2))) (H2 : ∀ k, 0 < k → k < n → (k - 1) / 2 = j → 0 < j → ¬ qW (gI p) (gz z k) (gz z ((j - 1) / 2))) :
  ∃ z', gX (j : Int) p z = some z' ∧ z'.length = n ∧ z'.Perm z ∧ vO (gI p) (gz z') n := by
 unfold gX
 exact ao7
   (fun (y : Int × List Int) => ∃ j : Nat, y.1 = j ∧ j < n ∧ y.2.length = n ∧ y.2.Perm z ∧ (∀ k, 0 < k → k < n → k ≠ j → ¬ qW (gI p) (gz y.2 k) (gz y.2 ((k - 1) / 2))) ∧ (∀ k, 0 < k → k < n → (k - 1) / 2 = j → 0 < j → ¬ qW (gI p) (gz y.2 k) (gz y.2 ((j - 1) / 2))))
   (fun (w : List Int) => w.length = n ∧ w.Perm z ∧ vO (gI p) (gz w) n)
   (fun (y : Int × List Int) => y.1.toNat)
   (by
    rintro ⟨_, y⟩ ⟨j, rfl, hj, hl, hp, h1, h2⟩
    show (∃ y', Option.bind _ _ = _ ∧ _) ∨ ∃ w, Option.bind _ _ = _ ∧ _
    have hzy : YD p y := fun a ha => hz a (hp.mem_iff.1 ha)
    replace hl : y.length = n := hl
    simp only [ahz (show j < 1000000000 by omega), hn]
    rcases Nat.eq_zero_or_pos j with rfl | j0
    ·exact .inr ⟨y, rfl, hl, hp, fun k k0 kn => h1 k k0 kn (by omega)⟩
    ·have hne : ((((j - 1) / 2 : Nat) : Int) == (j : Int)) = false := by simp; omega
     rw [hne]
     simp only [Bool.cond_false]
     rw [Oi (by omega) hzy hj (by omega)]
     by_cases lt : qW (gI p) (gz y j) (gz y ((j - 1) / 2))
     ·left
      obtain ⟨e1, e2, e3⟩ := QK (z := y) (i := (j - 1) / 2) (j := j) (by omega) (by omega)
      obtain ⟨s1, s2⟩ := VL (n := n) rfl j0 e1 e2 e3 lt h1 (fun k k0 kn kp => h2 k k0 kn kp j0)
      refine ⟨((((j - 1) / 2 : Nat) : Int), ML y ((j - 1) / 2) j), ?_, ⟨(j - 1) / 2, rfl, by omega, by rw [pE]; exact hl, ?_, s1, fun k k0 kn kp i0 => s2 k k0 kn kp _ rfl i0⟩, ?_⟩
      ·rw [decide_eq_true lt]
       show Option.bind _ _ = _
       rw [Oe (by omega) (by omega) hj]; rfl
      ·have := zT (z := y) (i := (j - 1) / 2) (j := j) (n := n) (by omega) hj (by omega)
       rw [List.take_of_length_le (by rw [pE]; omega), List.take_of_length_le (by omega)] at this
       exact this.trans hp
      ·show (((j - 1) / 2 : Nat) : Int).toNat < (j : Int).toNat
       omega
     ·right
      refine ⟨y, ?_, hl, hp, fun k k0 kn => ?_⟩
      ·rw [decide_eq_false lt]; rfl
      ·by_cases kj : k = j
       ·subst kj; exact lt
       ·exact h1 k k0 kn kj)
   ⟨j, rfl, hj, hn, List.Perm.refl _, H1, H2⟩
theorem ap4 {i : Nat} (h : i < 1000000000) : bF (bF ((2 : Int) * (i : Int)) + 1) = ((2 * i + 1 : Nat) : Int) ∧ bF (((2 * i + 1 : Nat) : Int) + 1) = ((2 * i + 2 : Nat) : Int) := by
 rw [dF (n := (2 : Int) * (i : Int)) (by omega) (by omega)]
 refine ⟨?_, ?_⟩
 ·rw [dF (by omega) (by omega)]; omega
 ·rw [dF (by omega) (by omega)]; omega
theorem ZU {p : List aG} {z : List Int} {n m : Nat} (hz : YD p z) (hm : m ≤ z.length) (hs : m < 1000000000) (hn : n ≤ m)
    (D1 : ∀ k, 0 < k → k < n → (k - 1) / 2 ≠ 0 → ¬ qW (gI p) (gz z k) (gz z ((k - 1) / 2))) :
    ∃ b z', fE 0 (n : Int) p z 0 m = some (b, z') ∧ z'.length = z.length ∧ z'.Perm z ∧ (z'.take n).Perm (z.take n) ∧ (∀ k, n ≤ k → gz z' k = gz z k) ∧ vO (gI p) (gz z') n := by
  have main : ∃ r : Bool × List Int, fE 0 (n : Int) p z 0 m = some r ∧ (r.2.length = z.length ∧ r.2.Perm z ∧ (r.2.take n).Perm (z.take n) ∧ (∀ k, n ≤ k → gz r.2 k = gz z k) ∧ vO (gI p) (gz r.2) n) := by
   unfold fE
   exact adU
      (fun (y : Int × List Int) => ∃ i : Nat, y.1 = i ∧ (i < n ∨ n = 0 ∧ i = 0) ∧ y.2.length = z.length ∧ y.2.Perm z ∧ (y.2.take n).Perm (z.take n) ∧ (∀ k, n ≤ k → gz y.2 k = gz z k) ∧ (∀ k, 0 < k → k < n → (k - 1) / 2 ≠ i → ¬ qW (gI p) (gz y.2 k) (gz y.2 ((k - 1) / 2))) ∧ (∀ k, 0 < k → k < n → (k - 1) / 2 = i → 0 < i → ¬ qW (gI p) (gz y.2 k) (gz y.2 ((i - 1) / 2))))
      (fun (w : Int × List Int) => w.2.length = z.length ∧ w.2.Perm z ∧ (w.2.take n).Perm (z.take n) ∧ (∀ k, n ≤ k → gz w.2 k = gz z k) ∧ vO (gI p) (gz w.2) n)
      (fun (y : Int × List Int) => n - y.1.toNat)
      (by
        rintro ⟨_, y⟩ ⟨i, rfl, hi, hl, hp, ht, hk, d1, d2⟩
        show (∃ y', Option.bind _ _ = _ ∧ _) ∨ ∃ w, Option.bind _ _ = _ ∧ _
        replace hl : y.length = z.length := hl
        have hzy : YD p y := fun a ha => hz a (hp.mem_iff.1 ha)
        obtain ⟨w1, w2⟩ := ap4 (show i < 1000000000 by omega)
        simp only [w1, w2]
        by_cases g : 2 * i + 1 < n
        rotate_left
        · right
          refine ⟨((i : Int), y), ?_, hl, hp, ht, hk, fun k k0 kn => d1 k k0 kn (by omega)⟩
          rw [av (by omega)]; rfl
        have hin : i < n := by omega
        rw [aC (by omega)]
        rw [decide_eq_false (show ¬ (((2 * i + 1 : Nat)) : Int) < 0 by omega)]
        simp only [Option.bind_some, Bool.cond_false]
        have hj : ∃ j : Nat, (j = 2 * i + 1 ∨ j = 2 * i + 2) ∧ j < n ∧ (∀ k, 0 < k → k < n → (k - 1) / 2 = i → ¬ qW (gI p) (gz y k) (gz y j)) ∧ (Option.bind (α := Bool) (bif (decide (((2 * i + 2 : Nat) : Int) < (n : Int))) then Option.bind (dX p y 0 m ((2 * i + 2 : Nat) : Int) ((2 * i + 1 : Nat) : Int)) fun z3 => some z3 else some false) fun z4 => bif z4 then some ((2 * i + 2 : Nat) : Int) else some ((2 * i + 1 : Nat) : Int)) = some (j : Int) := by
          by_cases g2 : 2 * i + 2 < n
          · rw [av (by omega), Oi (by omega) hzy (by omega) (by omega)]
            by_cases lt : qW (gI p) (gz y (2 * i + 2)) (gz y (2 * i + 1))
            · refine ⟨2 * i + 2, .inr rfl, g2, fun k k0 kn kp => ?_, ?_⟩
              · rcases (show k = 2 * i + 1 ∨ k = 2 * i + 2 by omega) with rfl | rfl
                · unfold qW at lt ⊢; omega
                · unfold qW; omega
              · rw [decide_eq_true lt]; rfl
            · refine ⟨2 * i + 1, .inl rfl, by omega, fun k k0 kn kp => ?_, ?_⟩
              · rcases (show k = 2 * i + 1 ∨ k = 2 * i + 2 by omega) with rfl | rfl
                · unfold qW; omega
                · exact lt
              · rw [decide_eq_false lt]; rfl
          · rw [aC (by omega)]
            refine ⟨2 * i + 1, .inl rfl, by omega, fun k k0 kn kp => ?_, rfl⟩
            obtain rfl : k = 2 * i + 1 := by omega
            unfold qW; omega
        obtain ⟨j, hj1, hjn, hmn, hj2⟩ := hj
        rw [hj2]
        simp only [Option.bind_some]
        rw [Oi (by omega) hzy (by omega) (by omega)]
        by_cases lt : qW (gI p) (gz y j) (gz y i)
        · left
          obtain ⟨e1, e2, e3⟩ := QK (z := y) (i := i) (j := j) (by omega) (by omega)
          obtain ⟨s1, s2⟩ := Rt (n := n) (by omega : (j - 1) / 2 = i) (by omega) hjn e1 e2 e3 lt hmn d1 d2
          refine ⟨((j : Int), ML y i j), ?_, ⟨j, rfl, .inl hjn, by rw [pE]; exact hl, ?_, ?_, ?_, s1, s2⟩, ?_⟩
          · rw [decide_eq_true lt]
            show Option.bind _ _ = _
            rw [Oe (by omega) (by omega) (by omega)]; rfl
          · have := zT (z := y) (i := i) (j := j) (n := y.length) (by omega) (by omega) (Nat.le_refl _)
            rw [List.take_of_length_le (by rw [pE]; omega), List.take_of_length_le (Nat.le_refl _)] at this
            exact this.trans hp
          · exact (zT (z := y) (i := i) (j := j) (n := n) (by omega) (by omega) (by omega)).trans ht
          · intro k kn
            rw [show gz (ML y i j) k = gz y k from e3 k (by omega) (by omega)]
            exact hk k kn
          · show n - (j : Int).toNat < n - (i : Int).toNat
            omega
        · right
          refine ⟨((i : Int), y), ?_, hl, hp, ht, hk, fun k k0 kn => ?_⟩
          · rw [decide_eq_false lt]; rfl
          · by_cases kp : (k - 1) / 2 = i
            · have := hmn k k0 kn kp
              show ¬ qW (gI p) (gz y k) (gz y ((k - 1) / 2))
              rw [kp]
              unfold qW at this lt ⊢; omega
            · exact d1 k k0 kn kp)
      ⟨0, rfl, by omega, rfl, List.Perm.refl _, List.Perm.refl _, fun k _ => rfl, D1, fun k _ _ _ h => absurd h (by omega)⟩
      (fun w q => ⟨_, rfl, q⟩)
  obtain ⟨⟨b, z'⟩, h1, h2⟩ := main
  exact ⟨b, z', h1, h2⟩
def rI (n : Nat) : List Int := (List.range n).map fun (i : Nat) => (i : Int)
theorem SF (n : Nat) : rI (n + 1) = rI n ++ [(n : Int)] := by unfold rI; rw [List.range_succ, List.map_append]; rfl
theorem MV (n : Nat) : (rI n).length = n := by unfold rI; simp
theorem FE {n : Nat} {a : Int} : a ∈ rI n ↔ 0 ≤ a ∧ a < n := by
 unfold rI
 rw [List.mem_map]
 refine ⟨fun ⟨i, hi, e⟩ => ?_, fun h => ⟨a.toNat, ?_, by omega⟩⟩
 ·have := List.mem_range.1 hi; omega
 ·rw [List.mem_range]; omega
theorem Pv (n : Nat) : (rI n).Nodup := by
 unfold rI
 exact List.Pairwise.map _ (fun a b (h : a ≠ b) => by omega) List.nodup_range
theorem Z9 {p : List aG} {z : List Int} {n : Nat} (hl : z.length = n) (hn : n < p.length) (hs : p.length ≤ 1000000) (hp : z.Perm (rI n)) (hh : vO (gI p) (gz z) n) :
  ∃ z', fH (n : Int) p z 0 n = some z' ∧ z'.length = n + 1 ∧ z'.Perm (rI (n + 1)) ∧ vO (gI p) (gz z') (n + 1) := by
 have e : List.take n (List.drop 0 z) ++ [(n : Int)] = z ++ [(n : Int)] := by rw [List.drop_zero, List.take_of_length_le (by omega)]
 have el : (z ++ [(n : Int)]).length = n + 1 := by simp [hl]
 have hpp : (z ++ [(n : Int)]).Perm (rI (n + 1)) := by rw [SF]; exact hp.append_right _
 have ga : ∀ k, k < n → gz (z ++ [(n : Int)]) k = gz z k := fun k hk => by
  rw [AQ (by omega), AQ (by omega), List.getElem_append_left (by omega)]
 obtain ⟨z', h1, h2, h3, h4⟩ := agU (p := p) (z := z ++ [(n : Int)]) (n := n + 1) (j := n) (fun a ha => by have := FE.1 (hpp.mem_iff.1 ha); omega) el (by omega) (by omega)
  (fun k k0 kn kj => by rw [ga k (by omega), ga _ (by omega)]; exact hh k k0 (by omega)) (fun k k0 kn kp _ => by omega)
 refine ⟨z', ?_, h2, h3.trans hpp, h4⟩
 unfold fH
 refine bo (a := ()) ?_ ?_
 ·unfold jE
  rw [decide_eq_true (by omega), decide_eq_true (by rw [dB]; simp; omega)]; rfl
 refine bo (a := ()) rfl ?_
 rw [e, el, show bF (((n + 1 : Nat) : Int) - 1) = (n : Int) by rw [dF (by omega) (by omega)]; omega]
 exact bo h1 rfl
theorem afR {p : List aG} {z : List Int} {n : Nat} (hz : YD p z) (hn : n + 1 ≤ z.length) (hs : n + 1 < 1000000000) (hh : vO (gI p) (gz z) (n + 1)) :
  ∃ z', gK p z 0 (n + 1) = some (gz z 0, z') ∧ z'.length = z.length ∧ YD p z' ∧ (z'.take n ++ [gz z 0]).Perm (z.take (n + 1)) ∧ vO (gI p) (gz z') n := by
 have hz1 : YD p (ML z 0 n) := fun a ha => by
  have := zT (z := z) (i := 0) (j := n) (n := z.length) (by omega) (by omega) (Nat.le_refl _)
  rw [List.take_of_length_le (by rw [pE]; omega), List.take_of_length_le (Nat.le_refl _)] at this
  exact hz a (this.mem_iff.1 ha)
 obtain ⟨e1, e2, e3⟩ := QK (z := z) (i := 0) (j := n) (by omega) (by omega)
 obtain ⟨b, z', h1, h2, h3, h4, h5, h6⟩ := ZU (p := p) (z := ML z 0 n) (n := n) (m := n + 1) hz1 (by rw [pE]; omega) hs (by omega)
  (fun k k0 kn kp => by rw [e3 k (by omega) (by omega), e3 _ (by omega) (by omega)]; exact hh k k0 (by omega))
 rw [pE] at h2
 have hx : gz z' n = gz z 0 := by rw [h5 n (Nat.le_refl _), e2]
 refine ⟨z', ?_, h2, fun a ha => hz1 a (h3.mem_iff.1 ha), ?_, h6⟩
 ·unfold gK
  have en : bF (((n + 1 : Nat) : Int) - 1) = (n : Int) := by rw [dF (by omega) (by omega)]; omega
  refine bo (a := ()) rfl ?_
  rw [en]
  refine bo (Oe (p := p) (z := z) (n := n + 1) (i := 0) (j := n) hn (by omega) (by omega)) ?_
  refine bo h1 ?_
  show Option.bind _ _ = _
  refine bo (a := gz z 0) ?_ rfl
  unfold mD
  rw [en]
  refine bo (L8 (n := n + 1) (i := n) (by omega) (by omega)) ?_
  rw [decide_eq_true (by omega), hx]; rfl
 ·have k1 : z'.take (n + 1) = z'.take n ++ [gz z 0] := by rw [qw _ n (by omega), ← hx, AQ (by omega)]
  have k2 : (ML z 0 n).take (n + 1) = (ML z 0 n).take n ++ [gz z 0] := by rw [qw _ n (by rw [pE]; omega), ← AQ (by rw [pE]; omega), e2]
  refine (h4.append_right _).trans ?_
  rw [← k2]
  exact zT (by omega) (by omega) hn
theorem aaf (p : List aG) (hs : p.length ≤ 1000000) : ∃ out, oL p = some out ∧ (out.Perm (rI p.length) ∧ out.Pairwise (qW (gI p))) := by
 unfold oL
 refine adU
  (fun (y : Int × List Int × Nat) => ∃ n : Nat, y.1 = n ∧ y.2.2 = n ∧ n ≤ p.length ∧ y.2.1.length = n ∧ y.2.1.Perm (rI n) ∧ vO (gI p) (gz y.2.1) n)
  (fun (w : List Int × Nat) => w.2 = p.length ∧ w.1.length = p.length ∧ w.1.Perm (rI p.length) ∧ vO (gI p) (gz w.1) p.length)
  (fun (y : Int × List Int × Nat) => p.length - y.1.toNat) ?_ ⟨0, rfl, rfl, by omega, rfl, List.Perm.refl [], fun k _ h => by omega⟩ ?_
 ·rintro ⟨_, z, m⟩ ⟨n, rfl, hm, hn, hl, hp, hh⟩
  replace hm : n = m := Eq.symm hm
  subst hm
  replace hl : z.length = n := hl
  show (∃ y', (bif _ then _ else _) = _ ∧ _) ∨ ∃ w, (bif _ then _ else _) = _ ∧ _
  by_cases g : n < p.length
  ·left
   obtain ⟨z', h1, h2, h3, h4⟩ := Z9 hl g hs hp hh
   refine ⟨(((n + 1 : Nat) : Int), z', n + 1), ?_, ⟨n + 1, rfl, rfl, g, h2, h3, h4⟩, ?_⟩
   ·rw [av (by omega), h1, bO (by omega)]
    show some (Sum.inl (_, z', (_ : List Int).length)) = _
    rw [List.length_append, List.length_take, List.drop_zero, List.length_singleton, hl, Nat.min_self]
   ·show p.length - ((n + 1 : Nat) : Int).toNat < p.length - (n : Int).toNat
    omega
  ·right
   obtain rfl : n = p.length := by omega
   exact ⟨(z, p.length), by rw [aC (by omega)], rfl, hl, hp, hh⟩
 ·rintro ⟨z0, _⟩ ⟨rfl, hl0, hp0, hh0⟩
  refine adU (T := fun (out : List Int) => out.Perm (rI p.length) ∧ out.Pairwise (qW (gI p)))
   (fun (y : List Int × List Int × Nat) => y.2.1.length = p.length ∧ YD p y.2.1 ∧ y.2.2 ≤ p.length ∧ vO (gI p) (gz y.2.1) y.2.2 ∧ (y.1 ++ y.2.1.take y.2.2).Perm (rI p.length) ∧ y.1.Pairwise (qW (gI p)) ∧ (∀ a ∈ y.1, ∀ b ∈ y.2.1.take y.2.2, qW (gI p) a b))
   (fun (w : List Int) => w.Perm (rI p.length) ∧ w.Pairwise (qW (gI p)))
   (fun (y : List Int × List Int × Nat) => y.2.2) ?_ ?_ ?_
  rotate_left
  ·refine ⟨hl0, fun a ha => FE.1 (hp0.mem_iff.1 ha), Nat.le_refl _, hh0, ?_, List.Pairwise.nil, fun a ha => by cases ha⟩
   show (z0.take p.length).Perm _
   rw [List.take_of_length_le (Nat.le_of_eq hl0)]; exact hp0
  ·exact fun w q => ⟨w, rfl, q⟩
  rintro ⟨out, z, n⟩ ⟨hl, hz, hn, hh, hp, hw, ho⟩
  replace hl : z.length = p.length := hl
  replace hn : n ≤ p.length := hn
  replace hp : (out ++ z.take n).Perm (rI p.length) := hp
  show (∃ y', (bif _ then _ else _) = _ ∧ _) ∨ ∃ w, (bif _ then _ else _) = _ ∧ _
  cases n with
  | zero =>
   right
   refine ⟨out, rfl, ?_, hw⟩
   rw [List.take_zero, List.append_nil] at hp
   exact hp
  | succ n =>
   left
   replace hz : YD p z := hz
   replace hh : vO (gI p) (gz z) (n + 1) := hh
   obtain ⟨z', h1, h2, h3, h4, h5⟩ := afR hz (by omega) (by omega) hh
   have hlen := hp.length_eq
   rw [List.length_append, List.length_take, MV] at hlen
   have hx : gz z 0 ∈ z.take (n + 1) := h4.mem_iff.1 (by simp)
   have hnd : (z'.take n ++ [gz z 0]).Nodup := h4.nodup_iff.2 (List.nodup_append.1 (hp.nodup_iff.2 (Pv _))).2.1
   refine ⟨(out ++ [gz z 0], z', n), ?_, ⟨by rw [h2, hl], h3, (by show n ≤ p.length; omega), h5, ?_, ?_, ?_⟩, Nat.lt_succ_self n⟩
   ·rw [av (by omega), h1]
    show (bif _ then _ else _) = _
    rw [av (by rw [dB]; simp; omega)]
    rw [show bF (((n + 1 : Nat) : Int) - 1) = (n : Int) by rw [dF (by omega) (by omega)]; omega]
    rfl
   ·show ((out ++ [gz z 0]) ++ z'.take n).Perm _
    rw [List.append_assoc]
    exact ((List.perm_append_comm.trans h4).append_left out).trans hp
   ·show (out ++ [gz z 0]).Pairwise _
    exact List.pairwise_append.2 ⟨hw, List.pairwise_singleton _ _, fun a ha b hb => by rw [List.mem_singleton.1 hb]; exact ho a ha _ hx⟩
   ·intro a ha b hb
    have hb' : b ∈ z.take (n + 1) := h4.mem_iff.1 (List.mem_append.2 (.inl hb))
    rcases List.mem_append.1 ha with ha | ha
    ·exact ho a ha b hb'
    ·rw [List.mem_singleton.1 ha]
     have hne : b ≠ gz z 0 := (List.nodup_append.1 hnd).2.2 b hb _ (by simp)
     obtain ⟨k, hk, e⟩ := List.getElem_of_mem hb'
     rw [List.length_take] at hk
     rw [List.getElem_take] at e
     have hk' : k < n + 1 := Nat.lt_of_lt_of_le hk (Nat.min_le_left _ _)
     have := XH hh k hk'
     rw [show gz z k = b by rw [AQ (by omega)]; exact e] at this
     unfold qW at this ⊢
     omega
end Lv
namespace Lv
open Go Go.Proofs
variable [bJ]
end Lv
namespace Lv
open Go Go.Proofs
variable [bJ]
def qN (n : aA) : bq := bq.mk n.Kind n.Col n.Op n.Val
def Kv (p : List aA) : List bq := p.map qN
theorem Bp (p : List aA) : (Kv p).length = p.length := by unfold Kv; simp
theorem Bq {p : List aA} {i : Nat} (h : i < p.length) : bG (Kv p) (i : Int) = some (qN p[i]) := by
 rw [bL (by rw [Bp]; exact h)]
 unfold Kv
 rw [List.getElem_map]
theorem Wn (q : bP) (h : q.Pred.length * 56 ≤ 140737488351232) : oO q = some (Kv q.Pred) := by
 unfold oO
 refine Df (w := Kv q.Pred) (Dc (fun i => ((i : Int), Kv (q.Pred.take i))) q.Pred.length (fun i hi => ?_) ?_ (by simp [Kv])) rfl
 ·show (bif _ then _ else _) = _
  rw [av (by omega)]
  refine bo (bL hi) ?_
  refine bo (bL hi) ?_
  refine bo (bL hi) ?_
  refine bo (bL hi) ?_
  refine gt (by rw [Bp, List.length_take, List.length_singleton, dB]; omega) ?_
  rw [bO (by omega), qw _ i hi]
  unfold Kv
  rw [List.map_append]; rfl
 ·show (bif _ then _ else _) = _
  rw [aC (by omega), List.take_length]
theorem sW (n : aA) : dO n.Kind = some (eO n : Int) := by
 unfold dO eO
 by_cases h6 : n.Kind = 6
 ·rw [show (n.Kind == 6) = true by simpa using h6, if_neg (by omega), if_pos h6]; rfl
 ·rw [show (n.Kind == 6) = false by simpa using h6]
  by_cases h4 : n.Kind = 4
  ·rw [show (n.Kind == 4) = true by simpa using h4, if_pos (.inl h4)]; rfl
  ·rw [show (n.Kind == 4) = false by simpa using h4]
   by_cases h5 : n.Kind = 5
   ·rw [show (n.Kind == 5) = true by simpa using h5, if_pos (.inr h5)]; rfl
   ·rw [show (n.Kind == 5) = false by simpa using h5, if_neg (by omega), if_neg h6]; rfl
theorem Wp : ∀ {a b : List Int}, a.Pairwise (· < ·) → b.Pairwise (· < ·) → (∀ x, x ∈ a ↔ x ∈ b) → a = b
 | [], [], _, _, _ => rfl
 | [], y :: b, _, _, h => absurd ((h y).2 (by simp)) (by simp)
 | x :: a, [], _, _, h => absurd ((h x).1 (by simp)) (by simp)
 | x :: a, y :: b, ha, hb, h => by
  obtain ⟨a1, a2⟩ := List.pairwise_cons.1 ha
  obtain ⟨b1, b2⟩ := List.pairwise_cons.1 hb
  have e : x = y := by
   have h1 := (h x).1 (by simp)
   have h2 := (h y).2 (by simp)
   rcases List.mem_cons.1 h1 with h1 | h1
   ·exact h1
   ·rcases List.mem_cons.1 h2 with h2 | h2
    ·exact h2.symm
    ·have := a1 _ h2
     have := b1 _ h1
     omega
  subst e
  refine congrArg _ (Wp a2 b2 fun z => ⟨fun hz => ?_, fun hz => ?_⟩)
  ·rcases List.mem_cons.1 ((h z).1 (by simp [hz])) with q | q
   ·have := a1 _ hz; omega
   ·exact q
  ·rcases List.mem_cons.1 ((h z).2 (by simp [hz])) with q | q
   ·have := b1 _ hz; omega
   ·exact q
theorem ahy (n : Nat) : (rI n).Pairwise (· < ·) := by
 unfold rI
 exact List.Pairwise.map _ (fun a b (h : a < b) => by omega) List.pairwise_lt_range
theorem BA (l : List aA) (n : aA) (c : Int) : c ∈ kR (l ++ [n]) ↔ c ∈ kR l ∨ ((n.Kind = 2 ∨ n.Kind = 3) ∧ n.Col = c) := by
 rw [J8, J8]
 constructor
 ·rintro ⟨m, hm, h⟩
  rcases List.mem_append.1 hm with hm | hm
  ·exact .inl ⟨m, hm, h⟩
  ·rw [List.mem_singleton.1 hm] at h
   exact .inr h
 ·rintro (⟨m, hm, h⟩ | h)
  ·exact ⟨m, List.mem_append.2 (.inl hm), h⟩
  ·exact ⟨n, by simp, h⟩
def sK (l : List Int) (n : Nat) : List Int := (rI n).filter fun c => decide (c ∈ l)
theorem JR (l : List Int) (n : Nat) : sK l (n + 1) = sK l n ++ (if (n : Int) ∈ l then [(n : Int)] else []) := by
 unfold sK
 rw [SF, List.filter_append]
 split <;> simp [*]
theorem F4 (l : List Int) (n : Nat) : (sK l n).length ≤ n := by
 unfold sK
 have := List.length_filter_le (fun c => decide (c ∈ l)) (rI n)
 rw [MV] at this
 exact this
theorem QN (p : List aA) (h : p.length ≤ 1000000) : tZ (Kv p) = some (sK (kR p) 24) := by
 unfold tZ
 refine Df (w := sK (kR p) 24) (Dc (fun c => (sK (kR p) c, (c : Int))) 24 (fun c hc => ?_) ?_ rfl) rfl
 ·show (bif _ then _ else _) = _
  rw [av (by omega)]
  refine bo (a := sK (kR p) (c + 1)) ?_ ?_
  ·refine Df (w := decide ((c : Int) ∈ kR p)) (Dc (fun j => (decide ((c : Int) ∈ kR (p.take j)), (j : Int))) p.length (fun j hj => ?_) ?_ ?_) ?_
   ·show (bif _ then _ else _) = _
    rw [av (by rw [Bp]; omega), qw _ j hj, bO (by omega)]
    by_cases k : (c : Int) ∈ kR (p.take j)
    ·rw [decide_eq_true k, decide_eq_true ((BA _ _ _).2 (.inl k))]; rfl
    ·rw [decide_eq_false k]
     refine bf rfl ?_
     refine bo (Bq hj) ?_
     by_cases k2 : p[j].Kind = 2
     ·refine bt (by show (p[j].Kind == 2) = true; simpa using k2) ?_
      refine bo (Bq hj) ?_
      refine congrArg (fun x => some (Sum.inl (x, _))) ?_
      show (p[j].Col == (c : Int)) = _
      rw [Bool.beq_eq_decide_eq]
      refine decide_eq_decide.2 ?_
      rw [BA]
      exact ⟨fun e => .inr ⟨.inl k2, e⟩, fun e => (e.resolve_left k).2⟩
     ·refine bf (by show (p[j].Kind == 2) = false; simpa using k2) ?_
      refine bo (Bq hj) ?_
      by_cases k3 : p[j].Kind = 3
      ·refine bt (by show (p[j].Kind == 3) = true; simpa using k3) ?_
       refine bo (Bq hj) ?_
       refine congrArg (fun x => some (Sum.inl (x, _))) ?_
       show (p[j].Col == (c : Int)) = _
       rw [Bool.beq_eq_decide_eq]
       refine decide_eq_decide.2 ?_
       rw [BA]
       exact ⟨fun e => .inr ⟨.inr k3, e⟩, fun e => (e.resolve_left k).2⟩
      ·refine bf (by show (p[j].Kind == 3) = false; simpa using k3) ?_
       rw [decide_eq_false]
       rw [BA]
       rintro (e | ⟨e | e, _⟩)
       ·exact k e
       ·exact k2 e
       ·exact k3 e
   ·show (bif _ then _ else _) = _
    rw [aC (by rw [Bp]; omega), List.take_length]
   ·rw [decide_eq_false (by simp [kR])]; rfl
   ·show (bif _ then _ else _) = _
    have := F4 (kR p) c
    rw [JR]
    by_cases k : (c : Int) ∈ kR p
    ·rw [decide_eq_true k, if_pos k]
     refine gt (by rw [dB]; simp; omega) rfl
    ·rw [decide_eq_false k, if_neg k, List.append_nil]; rfl
  ·show some (Sum.inl (_, bF ((c : Int) + 1))) = _
   rw [bO (by omega)]
 ·rfl
theorem ED (l : List Int) (x : Int) : oC l x = decide (x ∈ l) := by
 unfold oC
 rw [Bool.eq_iff_iff, List.any_eq_true, decide_eq_true_eq]
 constructor
 ·rintro ⟨y, hy, e⟩
  rw [← (by simpa using e : y = x)]; exact hy
 ·exact fun h => ⟨x, h, by simp⟩
theorem O6 (q : bP) (h1 : q.Pred.length ≤ 1000) (h2 : q.aV.length ≤ 1000) (h3 : q.Order.length ≤ 1000) (ha : ∀ c ∈ kR q.Pred, 0 ≤ c ∧ c < 24) (hc : ∀ c ∈ q.aV, 0 ≤ c ∧ c < 24) (ho : ∀ c ∈ cZ q.Order, 0 ≤ c ∧ c < 24) :
  mh (bT.mk (Kv q.Pred) q.aV q.Order q.Limit) = some (jU q) := by
 unfold mh
 have l1 := F4 (kR q.Pred) 24
 have l2 : (cZ q.Order).length = q.Order.length := by simp [cZ]
 refine bo (QN q.Pred (by omega)) ?_
 refine gt (by show (_ + q.aV.length) * 8 ≤ _; rw [dB]; omega) ?_
 refine bo (nO q.Order (by omega)) ?_
 refine gt (by show ((_ ++ q.aV).length + _) * 8 ≤ _; rw [dB, List.length_append, l2]; omega) ?_
 have hall : ∃ all, all = (sK (kR q.Pred) 24 ++ q.aV) ++ cZ q.Order := ⟨_, rfl⟩
 obtain ⟨all, hall⟩ := hall
 have hlen : all.length ≤ 100000 := by rw [hall, List.length_append, List.length_append, l2]; omega
 have e : sK all 24 = jU q := by
  obtain ⟨o1, o2⟩ := Nb [mI (kR q.Pred), q.aV, cZ q.Order].flatten
  refine Wp (List.Pairwise.filter _ (ahy 24)) o1 fun x => ?_
  unfold jU
  rw [o2]
  unfold sK
  rw [List.mem_filter, FE, decide_eq_true_eq, hall]
  simp only [List.flatten_cons, List.flatten_nil, List.append_nil, List.mem_append, (Nb (kR q.Pred)).2]
  unfold sK
  rw [List.mem_filter, FE, decide_eq_true_eq]
  constructor
  ·rintro ⟨_, h⟩
   rcases h with (h | h) | h
   ·exact .inl h.2
   ·exact .inr (.inl h)
   ·exact .inr (.inr h)
  ·rintro (h | h | h)
   ·exact ⟨by have := ha x h; omega, .inl (.inl ⟨by have := ha x h; omega, h⟩)⟩
   ·exact ⟨by have := hc x h; omega, .inl (.inr h)⟩
   ·exact ⟨by have := ho x h; omega, .inr h⟩
 refine Df (w := sK all 24) (Dc (fun c => (sK all c, (c : Int))) 24 (fun c hc => ?_) ?_ rfl) (by rw [e])
 ·show (bif _ then _ else _) = _
  rw [av (by omega)]
  refine bo (a := sK all (c + 1)) ?_ ?_
  ·refine bo (a := oC all (c : Int)) ?_ ?_
   ·rw [hall]; exact iQ _ _ (by rw [← hall]; omega)
   ·have := F4 all c
    rw [JR]
    by_cases k : (c : Int) ∈ all
    ·rw [show oC all (c : Int) = true by rw [ED]; exact decide_eq_true k, if_pos k]
     refine bt rfl ?_
     exact gt (by rw [dB]; simp; omega) rfl
    ·rw [show oC all (c : Int) = false by rw [ED]; exact decide_eq_false k, if_neg k, List.append_nil]; rfl
  ·rw [bO (by omega)]
 ·rfl
theorem CO (f : Int) (b one : Bool) (h : 0 ≤ f ∧ f ≤ 1000) : og f b one = some (nC f b one) := by
 unfold og nC
 cases one with
 | true => rfl
 | false =>
  rw [if_neg (by simp)]
  refine bf rfl ?_
  have hf : ((f.toNat : Nat) : Int) = f := by omega
  have h1 := AB f.toNat
  refine Df (w := Nn f.toNat) (Dc (fun i => (Nn i, (i : Int))) f.toNat (fun i hi => ?_) ?_ rfl) ?_
  ·show (bif _ then _ else _) = _
   have h1 := AB i
   have h2 := AB (i + 1)
   rw [av (by omega), bO (by omega)]
   show some (Sum.inl (bF (Nn (i + 1)), _)) = _
   rw [dF (by omega) (by omega)]
  ·show (bif _ then _ else _) = _
   rw [aC (by omega)]
  ·refine bo (a := if b = true then Int.tdiv (Nn f.toNat) 3 else Nn f.toNat) ?_ ?_
   ·cases b with
    | true =>
     refine bt rfl ?_
     rw [dF (by rw [Int.tdiv_eq_ediv_of_nonneg h1.1]; omega) (by rw [Int.tdiv_eq_ediv_of_nonneg h1.1]; omega)]; rfl
    | false => rfl
   ·generalize (if b = true then Int.tdiv (Nn f.toNat) 3 else Nn f.toNat) = v
    by_cases k : v < 1
    ·rw [av k]; congr 1; omega
    ·rw [aC k]; congr 1; omega
theorem ao6 {Y W R : Type} {B : Y → Option (Y ⊕ W)} {y0 : Y} {K : W → Option R} {r : Option R} (I : Y → Prop) (Q : W → Prop) (μ : Y → Nat) (h : ∀ y, I y → (∃ y', B y = some (.inl y') ∧ I y' ∧ μ y' < μ y) ∨ ∃ w, B y = some (.inr w) ∧ Q w) (i : I y0) (k : ∀ w, Q w → K w = r) :
  Option.bind (Option.bind (loop B y0) (fun e => some e)) K = r := by
 obtain ⟨w, hw, q⟩ := FH I Q μ h y0 i
 rw [hw]; exact k w q
def U8 (c : Int → Int) (t : List Int) (r : Nat) (b : Int) : Prop :=
 (b = -1 ∧ ∀ k : Nat, k < r → (k : Int) ∈ t) ∨ ∃ m : Nat, b = (m : Int) ∧ m < r ∧ ¬ (m : Int) ∈ t ∧ ∀ k : Nat, k < r → ¬ (k : Int) ∈ t → k ≠ m → qW c (m : Int) (k : Int)
theorem Yb {c : Int → Int} {t : List Int} {r : Nat} {b : Int} (h : U8 c t r b) (k : (r : Int) ∈ t) : U8 c t (r + 1) b := by
 rcases h with ⟨e, h⟩ | ⟨m, e, h1, h2, h3⟩
 ·refine .inl ⟨e, fun j hj => ?_⟩
  rcases Nat.lt_or_ge j r with q | q
  ·exact h j q
  ·rw [show j = r by omega]; exact k
 ·refine .inr ⟨m, e, by omega, h2, fun j hj hjt hjm => ?_⟩
  rcases Nat.lt_or_ge j r with q | q
  ·exact h3 j q hjt hjm
  ·rw [show j = r by omega] at hjt; exact absurd k hjt
theorem QO {p : List aG} {l : List aD} {out : List Int} (hs : p.length ≤ 1000000) (hl : l.length = p.length) (hc : ∀ i : Nat, i < p.length → ∃ g, bG l (i : Int) = some g ∧ g.jL = gI p (i : Int)) (hp : out.Perm (rI p.length)) (hw : out.Pairwise (qW (gI p))) : tY l = some out := by
 unfold tY
 have hlen : out.length = p.length := by rw [hp.length_eq, MV]
 have hnd : out.Nodup := hp.nodup_iff.2 (Pv _)
 have hin : ∀ k : Nat, k < p.length → (k : Int) ∈ out := fun k hk => hp.mem_iff.2 (FE.2 (by omega))
 refine Df (w := out) (Dc (fun i => out.take i) p.length (fun i hi => ?_) ?_ rfl) rfl
 ·show (bif _ then _ else _) = _
  have tl : (out.take i).length = i := by rw [List.length_take]; omega
  rw [av (by rw [tl]; omega)]
  have hio : i < out.length := by omega
  obtain ⟨n, hn, hnN⟩ : ∃ n : Nat, out[i] = (n : Int) ∧ n < p.length := by
   have := FE.1 (hp.mem_iff.1 (List.getElem_mem hio))
   exact ⟨out[i].toNat, by omega, by omega⟩
  have hnt : ¬ (n : Int) ∈ out.take i := by
   rw [← hn]
   intro hm
   obtain ⟨j, hj, e⟩ := List.getElem_of_mem hm
   rw [tl] at hj
   rw [List.getElem_take] at e
   have := (List.getElem_inj hnd).1 e
   omega
  refine ao6 (fun (y : Int × Int) => ∃ r : Nat, y.2 = r ∧ r ≤ p.length ∧ U8 (gI p) (out.take i) r y.1) (fun b => U8 (gI p) (out.take i) p.length b) (fun y => p.length - y.2.toNat) ?_ ⟨0, rfl, by omega, .inl ⟨rfl, fun k hk => by omega⟩⟩ ?_
  ·rintro ⟨b, _⟩ ⟨r, rfl, hr, hb⟩
   replace hb : U8 (gI p) (out.take i) r b := hb
   show (∃ y', (bif _ then _ else _) = _ ∧ _) ∨ ∃ w, (bif _ then _ else _) = _ ∧ _
   by_cases g : r < p.length
   rotate_left
   ·right
    obtain rfl : r = p.length := by omega
    exact ⟨b, by rw [aC (by omega)], hb⟩
   left
   have key : ∃ b', U8 (gI p) (out.take i) (r + 1) b' ∧ Option.bind (α := Bool) (Option.bind (gM (out.take i) (r : Int)) fun z3 => bif (!z3) then bif (decide (b < (0 : Int))) then some true else Option.bind (bG l (r : Int)) fun z4 => Option.bind (bG l b) fun z5 => some (decide (z4.jL < z5.jL)) else some false) (fun z6 => bif z6 then some (r : Int) else some b) = some b' := by
    have hh := iQ (out.take i) (r : Int) (by omega)
    rw [ED] at hh
    by_cases k : (r : Int) ∈ out.take i
    ·refine ⟨b, Yb hb k, ?_⟩
     refine bo (a := false) ?_ rfl
     refine bo hh ?_
     rw [decide_eq_true k]; rfl
    ·rw [decide_eq_false k] at hh
     obtain ⟨gr, g1, g2⟩ := hc r g
     rcases hb with ⟨rfl, h⟩ | ⟨m, rfl, h1, h2, h3⟩
     ·exact ⟨(r : Int), .inr ⟨r, rfl, by omega, k, fun j hj hjt hjm => absurd (h j (by omega)) hjt⟩, bo (a := true) (bo hh rfl) rfl⟩
     ·obtain ⟨gm, g3, g4⟩ := hc m (by omega)
      by_cases lt : gr.jL < gm.jL
      ·refine ⟨(r : Int), .inr ⟨r, rfl, by omega, k, fun j hj hjt hjm => ?_⟩, ?_⟩
       ·by_cases jm : j = m
        ·subst jm; unfold qW; omega
        ·have := h3 j (by omega) hjt jm
         unfold qW at this ⊢; omega
       ·refine bo (a := true) ?_ rfl
        refine bo hh ?_
        refine bt rfl ?_
        rw [aC (by omega)]
        refine bo g1 ?_
        refine bo g3 ?_
        rw [decide_eq_true lt]
      ·refine ⟨(m : Int), .inr ⟨m, rfl, by omega, h2, fun j hj hjt hjm => ?_⟩, ?_⟩
       ·rcases Nat.lt_or_ge j r with q | q
        ·exact h3 j q hjt hjm
        ·obtain rfl : j = r := by omega
         unfold qW; omega
       ·refine bo (a := false) ?_ rfl
        refine bo hh ?_
        refine bt rfl ?_
        rw [aC (by omega)]
        refine bo g1 ?_
        refine bo g3 ?_
        rw [decide_eq_false lt]
   obtain ⟨b', hb', hk⟩ := key
   refine ⟨(b', ((r + 1 : Nat) : Int)), ?_, ⟨r + 1, rfl, g, hb'⟩, ?_⟩
   ·rw [av (by omega)]
    refine bo hk ?_
    rw [bO (by omega)]
   ·show p.length - ((r + 1 : Nat) : Int).toNat < p.length - (r : Int).toNat
    omega
  ·intro b hb
   have e : b = out[i] := by
    rcases hb with ⟨_, h⟩ | ⟨m, rfl, h1, h2, h3⟩
    ·exact absurd (h n hnN) hnt
    ·by_cases nm : n = m
     ·rw [hn, nm]
     ·have c1 := h3 n hnN hnt nm
      obtain ⟨j, hj, e⟩ := List.getElem_of_mem (hin m h1)
      have hji : i < j := by
       rcases Nat.lt_trichotomy i j with q | q | q
       ·exact q
       ·subst q; rw [hn] at e; omega
       ·exact absurd (List.mem_iff_getElem.2 ⟨j, by rw [tl]; exact q, by rw [List.getElem_take]; exact e⟩) h2
      have c2 := List.pairwise_iff_getElem.1 hw i j hio hj hji
      rw [e, hn] at c2
      unfold qW at c1 c2
      omega
   refine gt (by rw [tl, dB, List.length_singleton]; omega) ?_
   rw [e, qw _ i hio]
 ·show (bif _ then _ else _) = _
  rw [aC (by rw [List.length_take]; omega), List.take_of_length_le (by omega)]
theorem Ru {p : Prop} [Decidable p] {q : Prop} [Decidable q] (h : p ↔ q) : some (decide p) = some (decide q) := congrArg some (decide_eq_decide.2 h)
theorem BG {P : Prop} [Decidable P] (h : P) : some true = some (decide P) := congrArg some (decide_eq_true h).symm
theorem X3 (n : aA) (L : Nat) (m : Nat) (hm : m < 1000000) :
  (bif (decide (n.Kind < (1 : Int))) then some true else bif (decide (n.Kind > (6 : Int))) then some true else bif uX n then bif (decide (n.Col < (0 : Int))) then some true else bif (decide (n.Col ≥ (L : Int))) then some true else bif (n.Kind == (2 : Int)) then bif (decide (n.Op < (1 : Int))) then some true else bif (decide (n.Op > (6 : Int))) then some true else some (decide ((eO n : Int) > (m : Int)))
   else bif (n.Op != (0 : Int)) then some true else bif (!(dw n.Val (ak.mk (0 : Int) (0 : UInt64) ([] : List UInt8)))) then some true else some (decide ((eO n : Int) > (m : Int)))
   else bif (n.Col != (0 : Int)) then some true else bif (n.Op != (0 : Int)) then some true else bif (!(dw n.Val (ak.mk (0 : Int) (0 : UInt64) ([] : List UInt8)))) then some true else some (decide ((eO n : Int) > (m : Int)))) = some (decide (lS n L = false ∨ m < eO n)) := by
 rw [XV]
 by_cases a : n.Kind = 2
 ·have hf : lS n L = decide (0 ≤ n.Col ∧ n.Col < L ∧ 1 ≤ n.Op ∧ n.Op ≤ 6) := by unfold lS; rw [if_pos a]
  have ht : eO n = 0 := by unfold eO; rw [if_neg (by omega), if_neg (by omega)]
  have ha : uX n = true := decide_eq_true (.inl a)
  rw [hf, ht, ha, show (n.Kind == 2) = true by simpa using a, aC (by omega), aC (by omega)]
  simp only [Bool.cond_true]
  by_cases c1 : n.Col < 0
  ·exact (av c1 _ _).trans (BG (.inl (decide_eq_false (by omega))))
  rw [aC c1]
  by_cases c2 : n.Col ≥ L
  ·exact (av c2 _ _).trans (BG (.inl (decide_eq_false (by omega))))
  rw [aC c2]
  by_cases c3 : n.Op < 1
  ·exact (av c3 _ _).trans (BG (.inl (decide_eq_false (by omega))))
  rw [aC c3]
  by_cases c4 : n.Op > 6
  ·exact (av c4 _ _).trans (BG (.inl (decide_eq_false (by omega))))
  rw [aC c4]
  refine Ru ⟨fun h => absurd h (by omega), fun h => ?_⟩
  rcases h with h | h
  ·have := of_decide_eq_false h; omega
  ·omega
 by_cases b : n.Kind = 3
 ·have hf : lS n L = decide (0 ≤ n.Col ∧ n.Col < L ∧ n.Op = 0 ∧ n.Val = ⟨0, 0, []⟩) := by unfold lS; rw [if_neg a, if_pos b]
  have ht : eO n = 0 := by unfold eO; rw [if_neg (by omega), if_neg (by omega)]
  have ha : uX n = true := decide_eq_true (.inr b)
  rw [hf, ht, ha, show (n.Kind == 2) = false by simpa using a, aC (by omega), aC (by omega)]
  simp only [Bool.cond_true, Bool.cond_false]
  by_cases c1 : n.Col < 0
  ·exact (av c1 _ _).trans (BG (.inl (decide_eq_false (by omega))))
  rw [aC c1]
  by_cases c2 : n.Col ≥ L
  ·exact (av c2 _ _).trans (BG (.inl (decide_eq_false (by omega))))
  rw [aC c2]
  by_cases c3 : n.Op = 0
  rotate_left
  ·exact bt (show (n.Op != 0) = true by simpa using c3) (BG (.inl (decide_eq_false (fun h => c3 h.2.2.1))))
  rw [show (n.Op != 0) = false by simpa using c3]
  refine bf rfl ?_
  by_cases c4 : n.Val = ⟨0, 0, []⟩
  rotate_left
  ·exact bt (by rw [decide_eq_false c4]; rfl) (BG (.inl (decide_eq_false (fun h => c4 h.2.2.2))))
  rw [decide_eq_true c4]
  refine bf rfl ?_
  refine Ru ⟨fun h => absurd h (by omega), fun h => ?_⟩
  rcases h with h | h
  ·exact absurd ⟨by omega, by omega, c3, c4⟩ (of_decide_eq_false h)
  ·omega
 have hf : lS n L = decide ((n.Kind = 1 ∨ n.Kind = 4 ∨ n.Kind = 5 ∨ n.Kind = 6) ∧ n = ⟨n.Kind, 0, 0, ⟨0, 0, []⟩⟩) := by unfold lS; rw [if_neg a, if_neg b]
 have ha : uX n = false := decide_eq_false (by omega)
 rw [hf, ha]
 by_cases c1 : n.Kind < 1
 ·exact (av c1 _ _).trans (BG (.inl (decide_eq_false (fun h => by omega))))
 rw [aC c1]
 by_cases c2 : n.Kind > 6
 ·exact (av c2 _ _).trans (BG (.inl (decide_eq_false (fun h => by omega))))
 rw [aC c2]
 refine bf rfl ?_
 have hk : n = ⟨n.Kind, 0, 0, ⟨0, 0, []⟩⟩ ↔ n.Col = 0 ∧ n.Op = 0 ∧ n.Val = ⟨0, 0, []⟩ := by
  obtain ⟨K, C, O, V⟩ := n
  simp
 by_cases c3 : n.Col = 0
 rotate_left
 ·exact bt (show (n.Col != 0) = true by simpa using c3) (BG (.inl (decide_eq_false (fun h => c3 (hk.1 h.2).1))))
 rw [show (n.Col != 0) = false by simpa using c3]
 refine bf rfl ?_
 by_cases c4 : n.Op = 0
 rotate_left
 ·exact bt (show (n.Op != 0) = true by simpa using c4) (BG (.inl (decide_eq_false (fun h => c4 (hk.1 h.2).2.1))))
 rw [show (n.Op != 0) = false by simpa using c4]
 refine bf rfl ?_
 by_cases c5 : n.Val = ⟨0, 0, []⟩
 rotate_left
 ·exact bt (by rw [decide_eq_false c5]; rfl) (BG (.inl (decide_eq_false (fun h => c5 (hk.1 h.2).2.2))))
 rw [decide_eq_true c5]
 refine bf rfl ?_
 refine Ru ⟨fun h => .inr (by omega), fun h => ?_⟩
 rcases h with h | h
 ·exact absurd ⟨by omega, hk.2 ⟨c3, c4, c5⟩⟩ (of_decide_eq_false h)
 ·omega
theorem O7 (d9 : List aB) (p : List aA) (hc : d9.length < 4611686018427387904) (hp : ∀ n ∈ p, OkN n) : rH d9 (Kv p) = some (sG d9 p) := by
  unfold rH sG
  rw [Bp]
  by_cases h2 : p.length > 200
  · rw [av (by omega), if_pos h2]
  rw [aC (by omega), if_neg h2]
  refine Oq (lq4 p (fun i s => (s, (i : Int))) (wT d9) .inl (fun i s => s.length ≤ i ∧ ∀ d ∈ s, 0 ≤ d ∧ d ≤ i) [] (fun i s hi hI => ⟨?_, fun s' hs => ?_⟩) (fun s hI => ?_) ⟨by simp, by simp⟩ rfl) ?_
  · obtain ⟨I1, I2⟩ := hI
    show (bif _ then _ else _) = _
    rw [av (by omega)]
    have hn := hp _ (List.getElem_mem hi)
    have hgi := Bq hi
    generalize p[i] = n at hn hgi
    have ht := xM n
    have hcond := X3 n d9.length s.length (by omega)
    have hk : ∀ {R : Type} {f : bq → Option R} {r : Option R}, f (qN n) = r → Option.bind (bG (Kv p) (i : Int)) f = r := fun h => bo hgi h
    have tyq : lS n d9.length = true → (bif ((qN n).Kind == (2 : Int)) then
                    Option.bind (j5 (qN n).Val) fun Ck =>
                    bif (!Ck) then
                      some true
                    else
                      bif ((qN n).Val.Kind == (0 : Int)) then
                        some true
                      else
                        Option.bind (bG d9 (qN n).Col) fun Ca =>
                        some ((qN n).Val.Kind != Ca.Kind)
                  else
                    some false) = some (u6 d9 n) := by
      intro hf
      unfold u6
      show (bif (n.Kind == (2 : Int)) then Option.bind (j5 n.Val) fun Ck => bif (!Ck) then some true else bif (n.Val.Kind == (0 : Int)) then some true else Option.bind (bG d9 n.Col) fun Ca => some (n.Val.Kind != Ca.Kind) else some false) = _
      by_cases k2 : n.Kind = 2
      · rw [show (n.Kind == 2) = true by simpa using k2, Ac n.Val hn]
        refine bt rfl ?_
        rw [ay]
        cases hv : val n.Val with
        | false => simp [k2]
        | true =>
          refine bf rfl ?_
          by_cases k0 : n.Val.Kind = 0
          · simp [k2, k0]
          · rw [show (n.Val.Kind == 0) = false by simpa using k0]
            refine bf rfl ?_
            unfold lS at hf
            rw [if_pos k2, decide_eq_true_eq] at hf
            have hl : n.Col.toNat < d9.length := by omega
            have hg : bG d9 n.Col = some d9[n.Col.toNat] := by
              unfold bG
              rw [if_pos hf.1, List.getElem?_eq_getElem hl]
            rw [hg, ay]
            congr 1
            unfold afv
            rw [List.getElem?_eq_getElem hl]
            simp [k2, k0, bne, Bool.beq_eq_decide_eq]
      · rw [show (n.Kind == 2) = false by simpa using k2]
        refine bf rfl ?_
        simp [k2]
    unfold wT
    have cond : ∀ {R : Type} {z : Option Bool} {b : Bool} {K : Bool → Option R} {r : Option R}, (lS n d9.length = false ∨ s.length < eO n ↔ b = true) → (z = some b) → K b = r → Option.bind z K = r := fun _ h k => bo h k
    by_cases q : lS n d9.length = false ∨ s.length < eO n
    · rw [if_pos q]
      rw [decide_eq_true q] at hcond
      refine beE (x := 1) ?_ rfl
      refine hk ?_
      refine bo (a := uX n) (NY n) ?_
      refine bo (a := true) ?_ rfl
      refine Eq.trans ?_ hcond
      simp only [qN, sW, ay]
      by_cases ha : n.Kind = 2 ∨ n.Kind = 3
      · rw [show uX n = true from decide_eq_true ha]
        by_cases a : n.Kind = 2
        · rw [show (n.Kind == 2) = true by simpa using a, show (n.Kind != 2) = false by simpa using a]; rfl
        · rw [show (n.Kind == 2) = false by simpa using a, show (n.Kind != 2) = true by simpa using a]; rfl
      · rw [show uX n = false from decide_eq_false ha, show (n.Kind == 2) = false by simp; omega, show (n.Kind != 2) = true by simp; omega]; rfl
    · rw [if_neg q]
      rw [decide_eq_false q] at hcond
      simp only [not_or, Bool.not_eq_false, Nat.not_lt] at q
      have step : ∀ {R : Type} {f : Bool → Bool → Option R}, f (uX n) false = f (uX n) false := fun {_ _} => rfl
      by_cases ty : u6 d9 n = true
      · rw [if_pos ty]
        refine beE (x := 8) ?_ rfl
        refine hk ?_
        refine bo (a := uX n) (NY n) ?_
        refine bo (a := false) ?_ ?_
        · refine Eq.trans ?_ hcond
          simp only [qN, sW, ay]
          by_cases ha : n.Kind = 2 ∨ n.Kind = 3
          · rw [show uX n = true from decide_eq_true ha]
            by_cases a : n.Kind = 2
            · rw [show (n.Kind == 2) = true by simpa using a, show (n.Kind != 2) = false by simpa using a]; rfl
            · rw [show (n.Kind == 2) = false by simpa using a, show (n.Kind != 2) = true by simpa using a]; rfl
          · rw [show uX n = false from decide_eq_false ha, show (n.Kind == 2) = false by simp; omega, show (n.Kind != 2) = true by simp; omega]; rfl
        refine bf rfl ?_
        exact bo (a := true) ((tyq q.1).trans (by rw [ty])) rfl
      · rw [if_neg ty]
        have ty' : u6 d9 n = false := by simpa using ty
        generalize XC : s.take (s.length - eO n) ++ [yE (s.drop (s.length - eO n)) + 1] = pile
        refine beY (y := pile) ?_ (by rw [bO (by omega)]; rfl)
        refine hk ?_
        refine bo (a := uX n) (NY n) ?_
        refine bo (a := false) ?_ ?_
        · refine Eq.trans ?_ hcond
          simp only [qN, sW, ay]
          by_cases ha : n.Kind = 2 ∨ n.Kind = 3
          · rw [show uX n = true from decide_eq_true ha]
            by_cases a : n.Kind = 2
            · rw [show (n.Kind == 2) = true by simpa using a, show (n.Kind != 2) = false by simpa using a]; rfl
            · rw [show (n.Kind == 2) = false by simpa using a, show (n.Kind != 2) = true by simpa using a]; rfl
          · rw [show uX n = false from decide_eq_false ha, show (n.Kind == 2) = false by simp; omega, show (n.Kind != 2) = true by simp; omega]; rfl
        refine bf rfl ?_
        refine bo (a := false) ((tyq q.1).trans (by rw [ty'])) ?_
        refine bf rfl ?_
        have hw : bF ((s.length : Int) - (eO n : Int)) = ((s.length - eO n : Nat) : Int) := MN q.2 (by omega)
        have hm := H6 (l := s.drop (s.length - eO n)) (b := i) (by omega) fun d hd => (I2 d (List.mem_of_mem_drop hd)).2
        refine bo (a := yE (s.drop (s.length - eO n))) ?_ ?_
        · refine bo (sW n) ?_
          rw [hw]
          refine bo (a := yE (s.drop (s.length - eO n))) (Dc (fun j => (yE ((s.drop (s.length - eO n)).take j), ((s.length - eO n + j : Nat) : Int))) (eO n) (fun j hj => ?_) ?_ rfl) rfl
          · show (bif _ then _ else _) = _
            have hj2 : s.length - eO n + j < s.length := by omega
            rw [av (by omega)]
            have e1 : (s.drop (s.length - eO n)).take (j + 1) = (s.drop (s.length - eO n)).take j ++ [s[s.length - eO n + j]] := by
              rw [List.take_add_one, List.getElem?_drop, List.getElem?_eq_getElem hj2]
              simp
            have e2 : yE ((s.drop (s.length - eO n)).take (j + 1)) = max (yE ((s.drop (s.length - eO n)).take j)) s[s.length - eO n + j] := by
              rw [e1]; unfold yE; rw [List.foldl_append]; rfl
            rw [e2]
            generalize yE ((s.drop (s.length - eO n)).take j) = v
            refine bo (a := max v s[s.length - eO n + j]) ?_ ?_
            · refine bo (bL hj2) ?_
              by_cases k : s[s.length - eO n + j] > v
              · rw [av k]
                refine bo (bL hj2) ?_
                congr 1; omega
              · rw [aC k]; congr 1; omega
            · rw [bO (by omega)]; rfl
          · show (bif _ then _ else _) = _
            rw [aC (by omega), List.take_of_length_le (by simp; omega)]
        · refine bo (sW n) ?_
          rw [hw, Int.toNat_natCast]
          refine gt (by omega) ?_
          refine gt (by omega) ?_
          rw [dF (n := yE (s.drop (s.length - eO n)) + 1) (by omega) (by omega)]
          refine gt (by rw [dB]; simp; omega) ?_
          rw [List.drop_zero, XC]
  · obtain ⟨I1, I2⟩ := hI
    unfold wT at hs
    split at hs
    · cases hs
    · rename_i q
      split at hs
      · cases hs
      · simp only [not_or, Bool.not_eq_false, Nat.not_lt] at q
        obtain rfl := Sum.inl.inj hs
        have ht := xM p[i]
        have hm := H6 (l := s.drop (s.length - eO p[i])) (b := i) (by omega) fun d hd => (I2 d (List.mem_of_mem_drop hd)).2
        refine ⟨by simp; omega, fun d hd => ?_⟩
        rcases List.mem_append.1 hd with hd | hd
        · have := I2 d (List.mem_of_mem_take hd); omega
        · obtain rfl : d = _ := by simpa using hd
          omega
  · show (bif _ then _ else _) = _
    rw [aC (by omega)]
  · cases zi (wT d9) .inl [] p with
    | inr e => rfl
    | inl s =>
      show (bif ((s.length : Int) != 1) then _ else _) = some (if s.length ≠ 1 then 1 else if s.headD 0 > 24 then 7 else 0)
      by_cases h1 : s.length ≠ 1
      · rw [if_pos h1, show ((s.length : Int) != 1) = true by simp; omega]; rfl
      · rw [if_neg h1, show ((s.length : Int) != 1) = false by simp; omega]
        refine bf rfl ?_
        match s, h1 with
        | [d], _ =>
          refine bo (a := d) rfl ?_
          show (bif decide (d > 24) then _ else _) = some (if d > 24 then 7 else 0)
          by_cases ZN : d > 24
          · rw [av ZN, if_pos ZN]
          · rw [aC ZN, if_neg ZN]
        | [], h1 => simp at h1
        | _ :: _ :: _, h1 => simp at h1
def mH (n : Nat) (c : Int) : Bool := decide (c < 0 ∨ c ≥ n)
theorem Gx (t : aP) (l : List Int) (h : l.length ≤ 1000) : bW l t = some (l.any (mH t.aV.length)) := by
 unfold bW dN
 refine bo (lqX l (mH t.aV.length) (fun i hi => ?_) ?_) (by rw [EA])
 ·show (bif _ then _ else _) = _
  rw [av (by omega), bL hi, ay]
  refine bo (a := mH t.aV.length l[i]) ?_ ?_
  ·unfold pY
   refine bo (a := mH t.aV.length l[i]) ?_ rfl
   unfold mH
   by_cases q : l[i] < 0
   ·rw [av q]; simp [q]
   ·rw [aC q]; simp [q]
  ·rw [bO (by omega)]
   cases mH t.aV.length l[i] <;> rfl
 ·show (bif _ then _ else _) = _
  rw [aC (by omega)]
theorem Bu : ∀ {a l : List Int}, a.Nodup → (∀ x ∈ a, x ∈ l) → l.length ≤ a.length → l.Nodup ∧ ∀ x ∈ l, x ∈ a
 | [], l, _, _, hl => by
  have : l = [] := List.length_eq_zero_iff.1 (by simpa using hl)
  subst this; simp
 | x :: a, l, hn, hs, hl => by
  have hx : x ∈ l := hs x (by simp)
  have hp := List.perm_cons_erase hx
  obtain ⟨n1, n2⟩ := List.nodup_cons.1 hn
  have hle : (l.erase x).length ≤ a.length := by
   have := hp.length_eq
   simp only [List.length_cons] at this hl
   omega
  obtain ⟨k1, k2⟩ := Bu n2 (fun y hy => (List.mem_erase_of_ne (fun e => n1 (by rw [← e]; exact hy))).2 (hs y (by simp [hy]))) hle
  refine ⟨hp.nodup_iff.2 (List.nodup_cons.2 ⟨fun h => n1 (k2 x h), k1⟩), fun y hy => ?_⟩
  rcases List.mem_cons.1 (hp.mem_iff.1 hy) with e | e
  ·simp [e]
  ·exact List.mem_cons_of_mem _ (k2 y e)
theorem Q6 (l : List Int) : (mI l).length < l.length ↔ ¬ l.Nodup := by
 obtain ⟨o1, o2⟩ := Nb l
 have on : (mI l).Nodup := o1.imp fun h => by omega
 constructor
 ·intro h hn
  have := (Bu on (fun x hx => (o2 x).1 hx) (by
   have := (Bu (a := l) (l := mI l) hn (fun x hx => (o2 x).2 hx) (by omega)).1
   exact (List.perm_ext_iff_of_nodup hn on |>.2 fun x => (o2 x).symm).length_eq ▸ Nat.le_refl _)).1
  have e := (List.perm_ext_iff_of_nodup hn on |>.2 fun x => (o2 x).symm).length_eq
  omega
 ·intro h
  rcases Nat.lt_or_ge (mI l).length l.length with q | q
  ·exact q
  ·exact absurd (Bu on (fun x hx => (o2 x).1 hx) q).1 h
def pcS (t : aP) (q : bP) : Int :=
 if sG t.aV q.Pred ≠ 0 then sG t.aV q.Pred
 else if q.aV.length > 24 ∨ q.Order.length > 4 ∨ q.Limit < -1 then 1
 else if q.aV.any (mH t.aV.length) = true ∨ (cZ q.Order).any (mH t.aV.length) = true ∨ ¬ (cZ q.Order).Nodup then 1 else 0
theorem OT (a b : Nat) (c : Int) : (bif (decide ((a : Int) > (24 : Int))) then some true else bif (decide ((b : Int) > (4 : Int))) then some true else some (decide (c < (-1 : Int)))) = some (decide (a > 24 ∨ b > 4 ∨ c < -1)) := by
 by_cases g1 : a > 24
 ·rw [av (by omega), decide_eq_true (.inl g1)]
 rw [aC (by omega)]
 by_cases g2 : b > 4
 ·rw [av (by omega), decide_eq_true (.inr (.inl g2))]
 rw [aC (by omega)]
 exact Ru ⟨fun h => .inr (.inr h), fun h => by omega⟩
theorem U7 (t : aP) (q : bP) (hc : t.aV.length < 4611686018427387904) (hp : ∀ n ∈ q.Pred, OkN n) (ho : q.Order.length * 16 ≤ 140737488351232) : mG t q = some (pcS t q) := by
 unfold mG pcS
 refine bo (Yr t.aV q.Pred hc hp) ?_
 have hol : (cZ q.Order).length = q.Order.length := by simp [cZ]
 by_cases h0 : sG t.aV q.Pred ≠ 0
 ·rw [if_pos h0]; exact bt (by simpa using h0) rfl
 rw [if_neg h0]
 refine bf (by simpa using h0) ?_
 refine bo (Pp q ho) ?_
 refine bo (OT _ _ _) ?_
 rw [hol]
 by_cases g : q.aV.length > 24 ∨ q.Order.length > 4 ∨ q.Limit < -1
 ·rw [if_pos g, av g]
 rw [if_neg g, aC g]
 refine bo (a := q.aV.any (mH t.aV.length) || (cZ q.Order).any (mH t.aV.length)) ?_ ?_
 ·refine bo (Gx t q.aV (by omega)) ?_
  cases q.aV.any (mH t.aV.length) with
  | true => rfl
  | false =>
   refine bf rfl ?_
   exact bo (Gx t (cZ q.Order) (by omega)) rfl
 ·cases k1 : q.aV.any (mH t.aV.length) with
  | true => rw [if_pos (.inl rfl)]; rfl
  | false =>
   cases k2 : (cZ q.Order).any (mH t.aV.length) with
   | true => rw [if_pos (.inr (.inl rfl))]; rfl
   | false =>
    refine bf rfl ?_
    refine bo (a := (cZ q.Order).mergeSort fun x y => decide (x ≤ y)) (by unfold wB; rw [if_pos (by omega)]) ?_
    refine bo (a := mI (cZ q.Order)) (by
     unfold jW mI
     rw [if_pos ⟨rfl, by rw [List.length_mergeSort, hol], by rw [List.length_mergeSort]; omega⟩]) ?_
    have hs := Q6 (cZ q.Order)
    rw [hol] at hs
    by_cases nd : (cZ q.Order).Nodup
    ·rw [if_neg (by simp [nd]), aC (by intro h; exact hs.1 (by omega) nd)]
    ·rw [if_pos (.inr (.inr nd)), av (by have := hs.2 nd; omega)]
theorem adV {P : Nat → Prop} : ∀ {n : Nat}, P n → ∃ i, i ≤ n ∧ P i ∧ ∀ j, j < i → ¬ P j := by
 intro n
 induction n using Nat.strongRecOn with
 | ind n ih =>
  intro h
  rcases Classical.em (∃ j, j < n ∧ P j) with ⟨j, hj, hp⟩ | q
  ·obtain ⟨i, h1, h2, h3⟩ := ih j hj hp
   exact ⟨i, by omega, h2, h3⟩
  ·exact ⟨n, Nat.le_refl _, h, fun j hj hp => q ⟨j, hj, hp⟩⟩
theorem KM (t : aP) (q : bP) (hc : t.aV.length < 4611686018427387904) (hp : ∀ n ∈ q.Pred, OkN n) (ho : q.Order.length * 16 ≤ 140737488351232) : rG t (bT.mk (Kv q.Pred) q.aV q.Order q.Limit) = some (pcS t q) := by
 unfold rG pcS
 refine bo (O7 t.aV q.Pred hc hp) ?_
 have hol : (cZ q.Order).length = q.Order.length := by simp [cZ]
 by_cases h0 : sG t.aV q.Pred ≠ 0
 ·rw [if_pos h0]; exact bt (by simpa using h0) rfl
 rw [if_neg h0]
 refine bf (by simpa using h0) ?_
 refine bo (OT _ _ _) ?_
 by_cases g : q.aV.length > 24 ∨ q.Order.length > 4 ∨ q.Limit < -1
 ·rw [if_pos g]; exact av g _ _
 rw [if_neg g]
 refine (aC g _ _).trans ?_
 refine Oq (w := if q.aV.any (mH t.aV.length) = true then .inr 1 else .inl ()) (lq3 q.aV (mH t.aV.length) _ _ (fun i => (i : Int)) (fun i hi => ?_) ?_ rfl) ?_
 ·show (bif _ then _ else _) = _
  rw [av (by show (i : Int) < (q.aV.length : Int); omega)]
  refine bo (a := mH t.aV.length q.aV[i]) ?_ ?_
  ·refine bo (bL hi) ?_
   unfold mH
   by_cases k : q.aV[i] < 0
   ·rw [av k, decide_eq_true (.inl k)]
   ·rw [aC k]
    refine bo (bL hi) ?_
    exact Ru ⟨fun h => .inr h, fun h => h.resolve_left k⟩
  ·rw [bO (by omega)]
   cases mH t.aV.length q.aV[i] <;> rfl
 ·show (bif _ then _ else _) = _
  rw [aC (by show ¬ (q.aV.length : Int) < (q.aV.length : Int); omega)]
 cases k1 : q.aV.any (mH t.aV.length) with
 | true => rw [if_pos rfl, if_pos (.inl rfl)]; rfl
 | false =>
  rw [if_neg (by simp)]
  show eu _ _ _ = _
  have hstep : ∀ i (hi : i < q.Order.length), (Option.bind (bG q.Order (i : Int)) fun z7 => Option.bind (α := Bool) (bif (decide (z7.Col < (0 : Int))) then some true else bif (decide (z7.Col ≥ (t.aV.length : Int))) then some true else bif decide (0 ≤ (i : Int) ∧ (i : Int) ≤ (q.Order.length : Int)) then Option.bind (jI (List.take (i : Int).toNat q.Order)) fun z8 => Option.bind (gM z8 z7.Col) fun z9 => some z9 else none) fun z10 => bif z10 then some (Sum.inr (Sum.inr (1 : Int))) else some (Sum.inl (bF ((i : Int) + (1 : Int))))) = some (if mH t.aV.length q.Order[i].Col = true ∨ q.Order[i].Col ∈ (cZ q.Order).take i then (Sum.inr (Sum.inr (1 : Int)) : Int ⊕ (Unit ⊕ Int)) else .inl ((i + 1 : Nat) : Int)) := by
   intro i hi
   refine bo (bL hi) ?_
   refine bo (a := decide (mH t.aV.length q.Order[i].Col = true ∨ q.Order[i].Col ∈ (cZ q.Order).take i)) ?_ ?_
   ·unfold mH
    by_cases c1 : q.Order[i].Col < 0
    ·exact (av c1 _ _).trans (BG (.inl (decide_eq_true (.inl c1))))
    rw [aC c1]
    by_cases c2 : q.Order[i].Col ≥ t.aV.length
    ·exact (av c2 _ _).trans (BG (.inl (decide_eq_true (.inr c2))))
    rw [aC c2]
    refine gt (by omega) ?_
    refine bo (nO _ (by rw [List.length_take]; omega)) ?_
    refine bo (iQ _ _ (by unfold cZ; rw [List.length_map, List.length_take]; omega)) ?_
    rw [ED]
    have e : cZ (List.take (i : Int).toNat q.Order) = (cZ q.Order).take i := by unfold cZ; rw [Int.toNat_natCast, List.map_take]
    rw [e]
    refine Ru ⟨.inr, fun h => ?_⟩
    rcases h with h | h
    ·have := of_decide_eq_true h; omega
    ·exact h
   ·rw [bO (by omega)]
    by_cases k : mH t.aV.length q.Order[i].Col = true ∨ q.Order[i].Col ∈ (cZ q.Order).take i
    ·rw [decide_eq_true k, if_pos k]; rfl
    ·rw [decide_eq_false k, if_neg k]; rfl
  have gco : ∀ i (hi : i < q.Order.length), (cZ q.Order)[i]'(by omega) = q.Order[i].Col := fun i hi => by simp [cZ]
  rcases Classical.em (∃ i, i < q.Order.length ∧ ∃ hi : i < q.Order.length, (mH t.aV.length q.Order[i].Col = true ∨ q.Order[i].Col ∈ (cZ q.Order).take i)) with ⟨i0, hi0, hb⟩ | none
  ·obtain ⟨i, h1, ⟨hi, hbad⟩, h3⟩ := adV (P := fun i => ∃ hi : i < q.Order.length, (mH t.aV.length q.Order[i].Col = true ∨ q.Order[i].Col ∈ (cZ q.Order).take i)) hb
   have hbd : q.aV.any (mH t.aV.length) = true ∨ (cZ q.Order).any (mH t.aV.length) = true ∨ ¬ (cZ q.Order).Nodup := by
    right
    rcases hbad with h | h
    ·left
     exact List.any_eq_true.2 ⟨_, by rw [← gco i hi]; exact List.getElem_mem _, h⟩
    ·right
     intro hn
     obtain ⟨j, hj, e⟩ := List.getElem_of_mem h
     rw [List.length_take] at hj
     rw [List.getElem_take, ← gco i hi] at e
     have := (List.getElem_inj hn).1 e
     omega
   rw [k1] at hbd
   rw [if_pos hbd]
   refine Oq (w := .inr 1) (Dc (fun j => (j : Int)) i (fun j hj => ?_) ?_ rfl) rfl
   ·show (bif _ then _ else _) = _
    rw [av (by show (j : Int) < (q.Order.length : Int); omega)]
    refine (hstep j (by omega)).trans ?_
    rw [if_neg (fun h => h3 j hj ⟨by omega, h⟩)]
   ·show (bif _ then _ else _) = _
    rw [av (by show (i : Int) < (q.Order.length : Int); omega)]
    refine (hstep i hi).trans ?_
    rw [if_pos hbad]
  ·have good : ¬ (q.aV.any (mH t.aV.length) = true ∨ (cZ q.Order).any (mH t.aV.length) = true ∨ ¬ (cZ q.Order).Nodup) := by
    rintro (h | h | h)
    ·rw [k1] at h; cases h
    ·obtain ⟨c, hc, hb⟩ := List.any_eq_true.1 h
     obtain ⟨i, hi, e⟩ := List.getElem_of_mem hc
     have hi' : i < q.Order.length := by omega
     rw [gco i hi'] at e
     exact none ⟨i, hi', hi', .inl (by rw [e]; exact hb)⟩
    ·refine h ?_
     unfold List.Nodup
     rw [List.pairwise_iff_getElem]
     intro i j hi hj hij e
     have hj' : j < q.Order.length := by omega
     refine none ⟨j, hj', hj', .inr ?_⟩
     rw [← gco j hj', ← e]
     exact List.mem_iff_getElem.2 ⟨i, by rw [List.length_take]; omega, by rw [List.getElem_take]⟩
   rw [k1] at good
   rw [if_neg good]
   refine Oq (w := .inl ()) (Dc (fun j => (j : Int)) q.Order.length (fun j hj => ?_) ?_ rfl) rfl
   ·show (bif _ then _ else _) = _
    rw [av (by show (j : Int) < (q.Order.length : Int); omega)]
    refine (hstep j hj).trans ?_
    rw [if_neg (fun h => none ⟨j, hj, hj, h⟩)]
   ·show (bif _ then _ else _) = _
    rw [aC (by show ¬ (q.Order.length : Int) < (q.Order.length : Int); omega)]
def EG (off : Nat) : PT → List Int
 | .leaf n => [(off : Int)]
 | .un n a => EG off a ++ [(off : Int)]
 | .bin n a b => EG off a ++ (EG (off + (flat a).length) b ++ [(off : Int)])
theorem nV : ∀ (t : PT) (off : Nat), (EG off t).length = (flat t).length
 | .leaf n, off => rfl
 | .un n a, off => by simp [EG, flat, nV a]
 | .bin n a b, off => by simp [EG, flat, nV a, nV b]
theorem JH : ∀ (t : PT) (off : Nat), ∃ F, EG off t = F ++ [(off : Int)]
 | .leaf n, off => ⟨[], rfl⟩
 | .un n a, off => ⟨_, rfl⟩
 | .bin n a b, off => ⟨EG off a ++ EG (off + (flat a).length) b, by simp [EG]⟩
theorem lC {α : Type} {X Y : List α} {a : α} {i : Nat} (h : i = X.length) : bG (X ++ a :: Y) (i : Int) = some a := by
 rw [bL (by simp; omega)]
 subst h
 simp
theorem set_mid {α : Type} {X Y : List α} {a b : α} {i : Nat} (h : i = X.length) : (X ++ a :: Y).set i b = X ++ b :: Y := by
 subst h
 simp
theorem H9 {W : Type} {B : List Int × List Int × Int → Option ((List Int × List Int × Int) ⊕ W)} (p : List aA)
  (hB : ∀ (i : Nat) (n : aA) (f s : List Int) (v : Int), p[i]? = some n → eO n ≤ s.length → s.length ≤ i → f.length = i → (eO n = 0 ∧ v = (i : Int) ∨ 0 < eO n ∧ ∃ x, bG s ((s.length - eO n : Nat) : Int) = some x ∧ bG f x = some v) →
   B (f, s, (i : Int)) = some (.inl (f ++ [v], s.take (s.length - eO n) ++ [(i : Int)], ((i + 1 : Nat) : Int)))) :
  ∀ (t : PT), BM t → ∀ (pre post : List aA) (f s : List Int), p = pre ++ (flat t ++ post) → f.length = pre.length → s.length ≤ pre.length →
   loop B (f, s, (pre.length : Int)) = loop B (f ++ EG pre.length t, s ++ [((pre.length + (flat t).length - 1 : Nat) : Int)], ((pre.length + (flat t).length : Nat) : Int))
 | .leaf n, ok, pre, post, f, s, hp, hf, hs => by
  have ok : eO n = 0 := ok
  have := hB pre.length n f s (pre.length : Int) (by rw [hp]; simp [flat]) (by omega) hs hf (.inl ⟨ok, rfl⟩)
  rw [ok, Nat.sub_zero, List.take_length] at this
  rw [dV this]
  simp [EG, flat]
 | .un n a, ok, pre, post, f, s, hp, hf, hs => by
  have hp' : p = pre ++ (flat a ++ (n :: post)) := by rw [hp]; simp [flat]
  have hl := mP a
  rw [H9 p hB a ok.2 pre (n :: post) f s hp' hf hs]
  obtain ⟨F, hF⟩ := JH a pre.length
  have hFl : F.length + 1 = (flat a).length := by rw [← nV a pre.length, hF]; simp
  have := hB (pre.length + (flat a).length) n (f ++ EG pre.length a) (s ++ [((pre.length + (flat a).length - 1 : Nat) : Int)]) (pre.length : Int)
   (by rw [hp', List.getElem?_append_right (by omega), List.getElem?_append_right (by omega)]; simp) (by rw [ok.1]; simp) (by simp; omega) (by rw [List.length_append, nV]; omega)
   (.inr ⟨by rw [ok.1]; omega, _, lC (by rw [ok.1]; simp), by rw [hF, ← List.append_assoc]; exact lC (by simp; omega)⟩)
  rw [dV this, ok.1]
  have e : (s ++ [((pre.length + (flat a).length - 1 : Nat) : Int)]).take ((s ++ [((pre.length + (flat a).length - 1 : Nat) : Int)]).length - 1) = s := by simp
  rw [e]
  simp only [EG, flat, List.length_append, List.length_singleton, List.append_assoc]
  congr 1
 | .bin n a b, ok, pre, post, f, s, hp, hf, hs => by
  have hp1 : p = pre ++ (flat a ++ (flat b ++ (n :: post))) := by rw [hp]; simp [flat]
  have hp2 : p = (pre ++ flat a) ++ (flat b ++ (n :: post)) := by rw [hp1]; simp
  have hl := mP a
  have hl2 := mP b
  rw [H9 p hB a ok.2.1 pre _ f s hp1 hf hs]
  have := H9 p hB b ok.2.2 (pre ++ flat a) _ (f ++ EG pre.length a) (s ++ [((pre.length + (flat a).length - 1 : Nat) : Int)]) hp2 (by rw [List.length_append, List.length_append, nV, hf]) (by simp; omega)
  rw [List.length_append] at this
  rw [this]
  obtain ⟨F, hF⟩ := JH a pre.length
  have hFl : F.length + 1 = (flat a).length := by rw [← nV a pre.length, hF]; simp
  have := hB (pre.length + (flat a).length + (flat b).length) n ((f ++ EG pre.length a) ++ EG (pre.length + (flat a).length) b) ((s ++ [((pre.length + (flat a).length - 1 : Nat) : Int)]) ++ [((pre.length + (flat a).length + (flat b).length - 1 : Nat) : Int)]) (pre.length : Int)
   (by rw [hp2, List.getElem?_append_right (by simp), List.getElem?_append_right (by simp)]; simp) (by rw [ok.1]; simp) (by simp; omega) (by rw [List.length_append, List.length_append, nV, nV]; omega)
   (.inr ⟨by rw [ok.1]; omega, _, by rw [List.append_assoc]; exact lC (by rw [ok.1]; simp), by rw [hF, ← List.append_assoc, List.append_assoc]; exact lC (by simp; omega)⟩)
  rw [dV this, ok.1]
  have e : ((s ++ [((pre.length + (flat a).length - 1 : Nat) : Int)]) ++ [((pre.length + (flat a).length + (flat b).length - 1 : Nat) : Int)]).take (((s ++ [((pre.length + (flat a).length - 1 : Nat) : Int)]) ++ [((pre.length + (flat a).length + (flat b).length - 1 : Nat) : Int)]).length - 2) = s := by simp
  rw [e]
  simp only [EG, flat, List.length_append, List.length_singleton, List.append_assoc]
  rw [show pre.length + ((flat a).length + ((flat b).length + 1)) - 1 = pre.length + (flat a).length + (flat b).length by omega, show pre.length + ((flat a).length + ((flat b).length + 1)) = pre.length + (flat a).length + (flat b).length + 1 by omega]
def uW : Bool → PT → List Bool
 | m, .leaf n => [m]
 | m, .un n a => uW false a ++ [m]
 | m, .bin n a b => uW (m && decide (n.Kind = 4)) a ++ (uW (m && decide (n.Kind = 4)) b ++ [m && !decide (n.Kind = 4)])
theorem uI : ∀ (t : PT) (m : Bool), (uW m t).length = (flat t).length
 | .leaf n, m => rfl
 | .un n a, m => by simp [uW, flat, uI a]
 | .bin n a b, m => by simp [uW, flat, uI a, uI b]
def pK (k : Nat) (m : Bool) : List Bool := List.replicate (k - 1) false ++ [m]
theorem wX {k : Nat} (m : Bool) (h : 0 < k) : (pK k m).length = k := by unfold pK; simp; omega
theorem xS {k : Nat} (h : 0 < k) : pK k false = List.replicate k false := by
 unfold pK
 rw [show [false] = List.replicate 1 false from rfl, List.replicate_append_replicate]
 congr 1; omega
theorem ER {W : Type} {B : List Bool × Int → Option ((List Bool × Int) ⊕ W)} (p : List aA) (fr : List Int)
  (hN : ∀ (i : Nat) (n : aA) (c : List Bool) (m : Bool), p[i]? = some n → bG c (i : Int) = some m → (m && decide (n.Kind = 4)) = false → B (c, (i : Int)) = some (.inl (c, (i : Int) - 1)))
  (hA : ∀ (i j : Nat) (n : aA) (c : List Bool), p[i + 1]? = some n → n.Kind = 4 → bG c ((i + 1 : Nat) : Int) = some true → i + 1 < c.length → bG fr (i : Int) = some ((j + 1 : Nat) : Int) → j < i → B (c, ((i + 1 : Nat) : Int)) = some (.inl (((c.set i true).set j true).set (i + 1) false, (i : Int)))) :
  ∀ (t : PT), BM t → ∀ (m : Bool) (pre post : List aA) (A C : List Bool) (F G : List Int), p = pre ++ (flat t ++ post) → A.length = pre.length → F.length = pre.length → fr = F ++ (EG pre.length t ++ G) →
   loop B (A ++ (pK (flat t).length m ++ C), ((pre.length + (flat t).length : Nat) : Int) - 1) = loop B (A ++ (uW m t ++ C), (pre.length : Int) - 1)
 | .leaf n, ok, m, pre, post, A, C, F, G, hp, ha, hF, hfr => by
  have ok : eO n = 0 := ok
  have hk : n.Kind ≠ 4 := fun h => by unfold eO at ok; rw [if_pos (.inl h)] at ok; cases ok
  have e : A ++ (pK (flat (PT.leaf n)).length m ++ C) = A ++ m :: C := rfl
  have e2 : A ++ (uW m (PT.leaf n) ++ C) = A ++ m :: C := rfl
  rw [e, e2]
  have := hN pre.length n (A ++ m :: C) m (by rw [hp]; simp [flat]) (lC ha.symm) (by rw [decide_eq_false hk, Bool.and_false])
  rw [← dV this]
  congr 1
  simp [flat]
 | .un n a, ok, m, pre, post, A, C, F, G, hp, ha, hF, hfr => by
  have hk : n.Kind ≠ 4 := fun h => by have := ok.1; unfold eO at this; rw [if_pos (.inl h)] at this; cases this
  have hl := mP a
  have hp' : p = pre ++ (flat a ++ (n :: post)) := by rw [hp]; simp [flat]
  have e : A ++ (pK (flat (PT.un n a)).length m ++ C) = (A ++ pK (flat a).length false) ++ m :: C := by
   rw [xS hl]
   unfold pK
   simp [flat]
  have := hN (pre.length + (flat a).length) n ((A ++ pK (flat a).length false) ++ m :: C) m
   (by rw [hp', List.getElem?_append_right (by omega), List.getElem?_append_right (by omega)]; simp) (lC (by rw [List.length_append, wX _ hl, ha])) (by rw [decide_eq_false hk, Bool.and_false])
  rw [e, show ((pre.length + (flat (PT.un n a)).length : Nat) : Int) - 1 = ((pre.length + (flat a).length : Nat) : Int) by simp [flat]; omega, dV this]
  have ih := ER p fr hN hA a ok.2 false pre (n :: post) A (m :: C) F ((pre.length : Int) :: G) hp' ha hF (by rw [hfr]; simp [EG])
  rw [List.append_assoc, ih]
  congr 1
  simp [uW]
 | .bin n a b, ok, m, pre, post, A, C, F, G, hp, ha, hF, hfr => by
  have hl := mP a
  have hl2 := mP b
  have hp1 : p = pre ++ (flat a ++ (flat b ++ (n :: post))) := by rw [hp]; simp [flat]
  have hp2 : p = (pre ++ flat a) ++ (flat b ++ (n :: post)) := by rw [hp1]; simp
  have afi : fr = F ++ (EG pre.length a ++ (EG (pre.length + (flat a).length) b ++ ((pre.length : Int) :: G))) := by rw [hfr]; simp [EG]
  have hfr2 : fr = (F ++ EG pre.length a) ++ (EG (pre ++ flat a).length b ++ ((pre.length : Int) :: G)) := by rw [afi]; simp
  have hpn : p[pre.length + (flat a).length + (flat b).length]? = some n := by
   rw [hp2, List.getElem?_append_right (by simp), List.getElem?_append_right (by simp)]; simp
  have key : loop B (A ++ (pK (flat (PT.bin n a b)).length m ++ C), ((pre.length + (flat (PT.bin n a b)).length : Nat) : Int) - 1)
    = loop B ((A ++ pK (flat a).length (m && decide (n.Kind = 4))) ++ (pK (flat b).length (m && decide (n.Kind = 4)) ++ ((m && !decide (n.Kind = 4)) :: C)), (((pre ++ flat a).length + (flat b).length : Nat) : Int) - 1) := by
   have e0 : ((pre.length + (flat (PT.bin n a b)).length : Nat) : Int) - 1 = ((pre.length + (flat a).length + (flat b).length : Nat) : Int) := by simp [flat]; omega
   have e : A ++ (pK (flat (PT.bin n a b)).length m ++ C) = (A ++ (pK (flat a).length false ++ pK (flat b).length false)) ++ m :: C := by
    rw [xS hl, xS hl2, List.replicate_append_replicate]
    unfold pK
    simp [flat]
   have gm : bG ((A ++ (pK (flat a).length false ++ pK (flat b).length false)) ++ m :: C) ((pre.length + (flat a).length + (flat b).length : Nat) : Int) = some m := lC (by rw [List.length_append, List.length_append, wX _ hl, wX _ hl2, ha]; omega)
   rw [e0, e]
   cases hmk : (m && decide (n.Kind = 4)) with
   | false =>
    rw [dV (hN _ n _ m hpn gm hmk)]
    congr 1
    have : (m && !decide (n.Kind = 4)) = m := by cases m <;> simp_all
    rw [this]
    simp
   | true =>
    rw [Bool.and_eq_true, decide_eq_true_eq] at hmk
    obtain ⟨rfl, h4⟩ := hmk
    obtain ⟨Fb, hFb⟩ := JH b (pre.length + (flat a).length)
    have arO : Fb.length + 1 = (flat b).length := by rw [← nV b (pre.length + (flat a).length), hFb]; simp
    have ei : pre.length + (flat a).length + (flat b).length = (pre.length + (flat a).length + (flat b).length - 1) + 1 := by omega
    have hfi : bG fr ((pre.length + (flat a).length + (flat b).length - 1 : Nat) : Int) = some ((pre.length + (flat a).length - 1 + 1 : Nat) : Int) := by
     have : fr = (F ++ (EG pre.length a ++ Fb)) ++ (((pre.length + (flat a).length : Nat) : Int) :: ((pre.length : Int) :: G)) := by rw [afi, hFb]; simp
     rw [this, lC (by rw [List.length_append, List.length_append, nV, hF]; omega)]
     congr 2; omega
    rw [ei] at hpn gm
    have hlen : pre.length + (flat a).length + (flat b).length - 1 + 1 < ((A ++ (pK (flat a).length false ++ pK (flat b).length false)) ++ true :: C).length := by
     rw [List.length_append, List.length_append, List.length_append, wX _ hl, wX _ hl2, ha]; simp; omega
    have := hA (pre.length + (flat a).length + (flat b).length - 1) (pre.length + (flat a).length - 1) n _ hpn h4 gm hlen hfi (by omega)
    rw [← ei] at this
    rw [dV this]
    congr 1
    refine Prod.ext ?_ (by simp; omega)
    show _ = _
    rw [decide_eq_true h4]
    show ((List.set _ _ true).set _ true).set _ false = _
    have s1 : (A ++ (pK (flat a).length false ++ pK (flat b).length false)) ++ true :: C = (A ++ (List.replicate ((flat a).length - 1) false ++ (false :: List.replicate ((flat b).length - 1) false))) ++ false :: (true :: C) := by simp [pK]
    rw [s1, set_mid (by simp; omega)]
    have s2 : (A ++ (List.replicate ((flat a).length - 1) false ++ (false :: List.replicate ((flat b).length - 1) false))) ++ true :: (true :: C) = (A ++ List.replicate ((flat a).length - 1) false) ++ false :: (List.replicate ((flat b).length - 1) false ++ true :: true :: C) := by simp
    rw [s2, set_mid (by simp; omega)]
    have s3 : (A ++ List.replicate ((flat a).length - 1) false) ++ true :: (List.replicate ((flat b).length - 1) false ++ true :: true :: C) = ((A ++ List.replicate ((flat a).length - 1) false) ++ true :: (List.replicate ((flat b).length - 1) false ++ [true])) ++ true :: C := by simp
    rw [s3, set_mid (by simp; omega)]
    simp [pK]
  rw [key]
  have ihb := ER p fr hN hA b ok.2.2 (m && decide (n.Kind = 4)) (pre ++ flat a) (n :: post) (A ++ pK (flat a).length (m && decide (n.Kind = 4))) ((m && !decide (n.Kind = 4)) :: C) (F ++ EG pre.length a) ((pre.length : Int) :: G) hp2 (by rw [List.length_append, List.length_append, wX _ hl, ha]) (by rw [List.length_append, List.length_append, nV, hF]) hfr2
  rw [ihb]
  have iha := ER p fr hN hA a ok.2.1 (m && decide (n.Kind = 4)) pre _ A (uW (m && decide (n.Kind = 4)) b ++ ((m && !decide (n.Kind = 4)) :: C)) F _ hp1 ha hF afi
  rw [List.length_append, List.append_assoc, iha]
  congr 1
  simp [uW]
def p8 (off : Nat) : Bool → PT → List Int
 | m, .leaf n => if m = true ∧ (n.Kind = 2 ∨ n.Kind = 3) then [(off : Int)] else []
 | _, .un _ _ => []
 | m, .bin n a b => p8 off (m && decide (n.Kind = 4)) a ++ p8 (off + (flat a).length) (m && decide (n.Kind = 4)) b
theorem Ey : ∀ (t : PT) (off : Nat) (m : Bool), (p8 off m t).length ≤ (flat t).length
 | .leaf n, off, m => by unfold p8; split <;> simp [flat]
 | .un n a, off, m => by simp [p8]
 | .bin n a b, off, m => by
  have h1 := Ey a off (m && decide (n.Kind = 4))
  have h2 := Ey b (off + (flat a).length) (m && decide (n.Kind = 4))
  simp only [p8, flat, List.length_append, List.length_singleton]
  omega
theorem Dj : ∀ (t : PT) (off : Nat), p8 off false t = []
 | .leaf n, off => by simp [p8]
 | .un n a, off => rfl
 | .bin n a b, off => by simp [p8, Dj a, Dj b]
theorem H8 {W : Type} {B : List Int × Int → Option ((List Int × Int) ⊕ W)} (p : List aA) (c : List Bool)
  (hB : ∀ (i : Nat) (n : aA) (m : Bool) (out : List Int), p[i]? = some n → bG c (i : Int) = some m → out.length ≤ i → B (out, (i : Int)) = some (.inl (if m = true ∧ (n.Kind = 2 ∨ n.Kind = 3) then out ++ [(i : Int)] else out, ((i + 1 : Nat) : Int)))) :
  ∀ (t : PT), BM t → ∀ (m : Bool) (pre post : List aA) (A C : List Bool) (out : List Int), p = pre ++ (flat t ++ post) → c = A ++ (uW m t ++ C) → A.length = pre.length → out.length ≤ pre.length →
   loop B (out, (pre.length : Int)) = loop B (out ++ p8 pre.length m t, ((pre.length + (flat t).length : Nat) : Int))
 | .leaf n, ok, m, pre, post, A, C, out, hp, hc, ha, ho => by
  rw [dV (hB pre.length n m out (by rw [hp]; simp [flat]) (by rw [hc]; exact lC ha.symm) ho)]
  unfold p8
  split <;> simp [flat]
 | .un n a, ok, m, pre, post, A, C, out, hp, hc, ha, ho => by
  have hk : ¬ (n.Kind = 2 ∨ n.Kind = 3) := fun h => by
   have := ok.1; unfold eO at this; rw [if_neg (by omega), if_neg (by omega)] at this; cases this
  have hp' : p = pre ++ (flat a ++ (n :: post)) := by rw [hp]; simp [flat]
  have hc' : c = A ++ (uW false a ++ (m :: C)) := by rw [hc]; simp [uW]
  rw [H8 p c hB a ok.2 false pre (n :: post) A (m :: C) out hp' hc' ha ho, Dj, List.append_nil]
  have := hB (pre.length + (flat a).length) n m out (by rw [hp', List.getElem?_append_right (by omega), List.getElem?_append_right (by omega)]; simp) (by rw [hc', ← List.append_assoc]; exact lC (by rw [List.length_append, uI, ha])) (by omega)
  rw [if_neg (fun h => hk h.2)] at this
  rw [dV this]
  simp [p8, flat, Int.add_assoc]
 | .bin n a b, ok, m, pre, post, A, C, out, hp, hc, ha, ho => by
  have hk : ¬ (n.Kind = 2 ∨ n.Kind = 3) := fun h => by
   have := ok.1; unfold eO at this; rw [if_neg (by omega), if_neg (by omega)] at this; cases this
  have hp1 : p = pre ++ (flat a ++ (flat b ++ (n :: post))) := by rw [hp]; simp [flat]
  have hp2 : p = (pre ++ flat a) ++ (flat b ++ (n :: post)) := by rw [hp1]; simp
  have hc1 : c = A ++ (uW (m && decide (n.Kind = 4)) a ++ (uW (m && decide (n.Kind = 4)) b ++ ((m && !decide (n.Kind = 4)) :: C))) := by rw [hc]; simp [uW]
  have hc2 : c = (A ++ uW (m && decide (n.Kind = 4)) a) ++ (uW (m && decide (n.Kind = 4)) b ++ ((m && !decide (n.Kind = 4)) :: C)) := by rw [hc1]; simp
  have i1 := Ey a pre.length (m && decide (n.Kind = 4))
  have i2 := Ey b (pre.length + (flat a).length) (m && decide (n.Kind = 4))
  rw [H8 p c hB a ok.2.1 _ pre _ A _ out hp1 hc1 ha ho]
  have hb := H8 p c hB b ok.2.2 _ (pre ++ flat a) _ (A ++ uW (m && decide (n.Kind = 4)) a) _ (out ++ p8 pre.length (m && decide (n.Kind = 4)) a) hp2 hc2 (by rw [List.length_append, List.length_append, uI, ha]) (by rw [List.length_append, List.length_append]; omega)
  rw [List.length_append] at hb
  rw [hb]
  have := hB (pre.length + (flat a).length + (flat b).length) n _ ((out ++ p8 pre.length (m && decide (n.Kind = 4)) a) ++ p8 (pre.length + (flat a).length) (m && decide (n.Kind = 4)) b)
   (by rw [hp2, List.getElem?_append_right (by simp), List.getElem?_append_right (by simp)]; simp) (by rw [hc2, ← List.append_assoc]; exact lC (by rw [List.length_append, List.length_append, uI, uI, ha])) (by rw [List.length_append, List.length_append]; omega)
  rw [if_neg (fun h => hk h.2)] at this
  rw [dV this]
  simp [p8, flat, Int.add_assoc]
theorem Nq (p : List aA) : ∀ (t : PT) (m : Bool) (pre post : List aA), p = pre ++ (flat t ++ post) → (p8 pre.length m t).map (fun i => bG p i) = (fP m t).map some
 | .leaf n, m, pre, post, hp => by
  unfold p8 fP
  split
  ·have : bG p (pre.length : Int) = some n := by rw [hp]; exact lC rfl
   simp [this]
  ·rfl
 | .un n a, m, pre, post, hp => rfl
 | .bin n a b, m, pre, post, hp => by
  have hp1 : p = pre ++ (flat a ++ (flat b ++ (n :: post))) := by rw [hp]; simp [flat]
  have hp2 : p = (pre ++ flat a) ++ (flat b ++ (n :: post)) := by rw [hp1]; simp
  have h2 := Nq p b (m && decide (n.Kind = 4)) (pre ++ flat a) _ hp2
  rw [List.length_append] at h2
  unfold p8 fP
  rw [List.map_append, List.map_append, Nq p a _ pre _ hp1, h2]
theorem TR {k : Nat} (h : 0 < k) : (List.replicate k false).set (k - 1) true = pK k true := by
 have : List.replicate k false = List.replicate (k - 1) false ++ false :: [] := by
  rw [← xS h]; rfl
 rw [this, set_mid (by simp)]
 rfl
theorem Om (t : PT) (ht : BM t) (hl : (flat t).length ≤ 1000000) : kY (Kv (flat t)) = some (p8 0 true t) := by
 have hpos := mP t
 have hpf : flat t = [] ++ (flat t ++ []) := by simp
 have gq : ∀ {i : Nat} {n : aA}, (flat t)[i]? = some n → i < (flat t).length ∧ bG (Kv (flat t)) (i : Int) = some (qN n) := fun {i n} h => by
  obtain ⟨h1, h2⟩ := List.getElem?_eq_some_iff.1 h
  exact ⟨h1, by rw [Bq h1, h2]⟩
 unfold kY
 rw [Bp]
 refine Df (w := EG 0 t) ((H9 (flat t) ?_ t ht [] [] [] [] hpf rfl (Nat.le_refl _)).trans (dY ?_)) ?_
 ·intro i n f s v hi hs hsi hfi hv
  obtain ⟨hil, hgi⟩ := gq hi
  have ht2 := xM n
  show (bif _ then _ else _) = _
  rw [av (by omega)]
  refine bo hgi ?_
  refine bo (sW n) ?_
  have hw : bF ((s.length : Int) - (eO n : Int)) = ((s.length - eO n : Nat) : Int) := MN hs (by omega)
  rw [hw, Int.toNat_natCast]
  refine bo (a := v) ?_ ?_
  ·rcases hv with ⟨h0, rfl⟩ | ⟨h0, x, hx, hfx⟩
   ·rw [aC (by omega)]
   ·rw [av (by omega)]
    exact bo hx (bo hfx rfl)
  ·refine gt (by rw [dB, hfi]; simp; omega) ?_
   refine gt (by omega) ?_
   refine gt (by omega) ?_
   refine gt (by rw [dB]; simp; omega) ?_
   rw [bO (by omega), List.drop_zero]
 ·show (bif _ then _ else _) = _
  rw [aC (by simp)]; rfl
 refine gt (by omega) ?_
 have ew : bF (((flat t).length : Int) - 1) = (((flat t).length - 1 : Nat) : Int) := by rw [dF (by omega) (by omega)]; omega
 rw [ew, Int.toNat_natCast, Int.toNat_natCast, TR hpos]
 refine bo (bL (by simp; omega)) ?_
 refine Df (w := uW true t) ?_ ?_
 ·rw [show pK (flat t).length true = [] ++ (pK (flat t).length true ++ []) by simp, show (((flat t).length - 1 : Nat) : Int) = ((([] : List aA).length + (flat t).length : Nat) : Int) - 1 by simp; omega]
  refine (ER (flat t) (EG 0 t) ?_ ?_ t ht true [] [] [] [] [] [] hpf rfl rfl (by simp)).trans (dY ?_)
  ·intro i n c m hi hc hm
   obtain ⟨hil, hgi⟩ := gq hi
   show (bif _ then _ else _) = _
   rw [av (by omega)]
   refine bo (a := c) ?_ (by rw [dF (by omega) (by omega)])
   refine bo (a := false) ?_ rfl
   refine bo hc ?_
   cases m with
   | false => rfl
   | true =>
    refine bt rfl ?_
    refine bo hgi ?_
    show some (n.Kind == 4) = _
    have : n.Kind ≠ 4 := by simpa using hm
    rw [show (n.Kind == 4) = false by simpa using this]
  ·intro i j n c hi h4 hc hcl hfr hji
   obtain ⟨hil, hgi⟩ := gq hi
   have e1 : bF (((i + 1 : Nat) : Int) - 1) = (i : Int) := by rw [dF (by omega) (by omega)]; omega
   have e2 : bF (((j + 1 : Nat) : Int) - 1) = (j : Int) := by rw [dF (by omega) (by omega)]; omega
   show (bif _ then _ else _) = _
   rw [av (by omega), e1]
   refine bo (a := ((c.set i true).set j true).set (i + 1) false) ?_ rfl
   refine bo (a := true) ?_ ?_
   ·refine bo hc ?_
    refine bt rfl ?_
    refine bo hgi ?_
    show some (n.Kind == 4) = _
    rw [show (n.Kind == 4) = true by simpa using h4]
   ·refine bt rfl ?_
    refine bo (bL (by omega)) ?_
    refine bo hfr ?_
    rw [e2]
    refine bo (bL (by rw [List.length_set]; omega)) ?_
    refine bo (bL (by rw [List.length_set, List.length_set]; omega)) ?_
    rfl
  ·show (bif _ then _ else _) = _
   rw [aC (by simp)]; simp
 ·refine Df (w := p8 0 true t) ((H8 (flat t) (uW true t) ?_ t ht true [] [] [] [] [] hpf (by simp) rfl (Nat.le_refl _)).trans (dY ?_)) rfl
  ·intro i n m out hi hc ho
   obtain ⟨hil, hgi⟩ := gq hi
   show (bif _ then _ else _) = _
   rw [av (by omega)]
   refine bo (a := if m = true ∧ (n.Kind = 2 ∨ n.Kind = 3) then out ++ [(i : Int)] else out) ?_ (by rw [bO (by omega)])
   refine bo (a := decide (m = true ∧ (n.Kind = 2 ∨ n.Kind = 3))) ?_ ?_
   ·refine bo hc ?_
    cases m with
    | false => simp
    | true =>
     refine bt rfl ?_
     refine bo hgi ?_
     by_cases k2 : n.Kind = 2
     ·refine bt (by show (n.Kind == 2) = true; simpa using k2) ?_
      simp [k2]
     ·refine bf (by show (n.Kind == 2) = false; simpa using k2) ?_
      refine bo hgi ?_
      show some (n.Kind == 3) = _
      rw [Bool.beq_eq_decide_eq]
      exact Ru ⟨fun h => ⟨rfl, .inr h⟩, fun h => h.2.resolve_left k2⟩
   ·by_cases q : m = true ∧ (n.Kind = 2 ∨ n.Kind = 3)
    ·rw [decide_eq_true q, if_pos q]
     refine bt rfl ?_
     exact gt (by rw [dB]; simp; omega) rfl
    ·rw [decide_eq_false q, if_neg q]; rfl
  ·show (bif _ then _ else _) = _
   rw [aC (by simp)]; rfl
theorem LC (v : ak) (d : Bool) (h : val v = true) : tu v d = some (nT v d) := by
 unfold tu
 have h1 : ([v].any bad) = false := by simp [bad, h]
 have h2 : wI [v] [d] = nT v d := by simp [wI, nT]
 refine bo (KT [v] [d] rfl (by simp) h1) ?_
 rw [h2]
theorem zV (s : List UInt8) (h : s.length ≤ 1000000) : iW s = some (Lg s) := by
 unfold iW Lg
 refine bo (Aa s (by omega)) ?_
 cases iU s <;> rfl
theorem ajI {t : PT} : (p8 0 true t).length = (fP true t).length ∧ ∀ k (hk : k < (fP true t).length), ∃ i : Int, bG (p8 0 true t) (k : Int) = some i ∧ bG (Kv (flat t)) i = some (qN (fP true t)[k]) := by
 have h := Nq (flat t) t true [] [] (by simp)
 have hl : (p8 0 true t).length = (fP true t).length := by
  have := congrArg List.length h
  simpa using this
 refine ⟨hl, fun k hk => ?_⟩
 have hk' : k < (p8 0 true t).length := by omega
 refine ⟨_, bL hk', ?_⟩
 have e := congrArg (fun l => l[k]?) h
 simp only [List.getElem?_map] at e
 rw [List.getElem?_eq_getElem hk] at e
 rw [show p8 ([] : List aA).length true t = p8 0 true t from rfl, List.getElem?_eq_getElem hk'] at e
 simp only [Option.map_some, Option.some.injEq] at e
 generalize (p8 0 true t)[k] = i at e
 unfold bG at e ⊢
 split at e
 ·rename_i hi
  rw [if_pos hi]
  unfold Kv
  rw [List.getElem?_map, e]; rfl
 ·cases e
theorem NK (n : aA) (c : Int) : (bif (n.Col == c) then bif (n.Kind == (3 : Int)) then some true else some (n.Op == (3 : Int)) else some false) = some (wF c n) := by
 unfold wF
 by_cases h : n.Col = c
 ·rw [show (n.Col == c) = true by simpa using h]
  refine bt rfl ?_
  by_cases k : n.Kind = 3
  ·simp [h, k]
  ·rw [show (n.Kind == 3) = false by simpa using k]; simp [h, k, Bool.beq_eq_decide_eq]
 ·rw [show (n.Col == c) = false by simpa using h]; simp [h]
theorem VW (x : aI) (n : aA) : (bif (n.Kind != (2 : Int)) then some true else bif (n.Col != x.Col) then some true else bif (n.Op == (3 : Int)) then some true else some (n.Op == (6 : Int))) = some (Ce x n) := by
 unfold Ce
 by_cases a : n.Kind = 2
 ·rw [show (n.Kind != 2) = false by simpa using a]
  refine bf rfl ?_
  by_cases b : n.Col = x.Col
  ·rw [show (n.Col != x.Col) = false by simpa using b]
   refine bf rfl ?_
   by_cases c : n.Op = 3
   ·rw [show (n.Op == 3) = true by simpa using c]; simp [c]
   ·rw [show (n.Op == 3) = false by simpa using c]; simp [a, b, c, Bool.beq_eq_decide_eq]
  ·rw [show (n.Col != x.Col) = true by simpa using b]; simp [b]
 ·rw [show (n.Kind != 2) = true by simpa using a]; simp [a]
theorem VT (x : aI) (pre : List UInt8) (s : Bool × aW) (n : aA) (hp : pre.length ≤ 100000) (hv : val n.Val = true) (ho : n.Op ≤ 6) (hs : Ce x n = false) :
  (Option.bind (α := Bool) (bif (n.Op == (2 : Int)) then some true else some (n.Op == (4 : Int))) fun z33 => bif ((decide (n.Op ≥ (4 : Int))) != x.Down) then Option.bind (α := (List UInt8)) (bif (!z33) then Option.bind (iW (pre ++ nT n.Val x.Down)) fun z34 => some z34 else some (pre ++ nT n.Val x.Down)) fun z35 => Option.bind (α := (List UInt8)) (bif (!(AA z35 s.2.Lo || z35 == s.2.Lo)) then some z35 else some s.2.Lo) fun z36 => some (z36, s.2.Hi, true) else Option.bind (α := (List UInt8)) (bif z33 then Option.bind (iW (pre ++ nT n.Val x.Down)) fun z37 => some z37 else some (pre ++ nT n.Val x.Down)) fun z38 => bif (AA z38 s.2.Hi) then some (s.2.Lo, z38, true) else some (s.2.Lo, s.2.Hi, true)) = some ((kU x pre s n).2.Lo, (kU x pre s n).2.Hi, true) ∧ (kU x pre s n).1 = true := by
 have he := rT (d := x.Down) hv
 have ha := zV (pre ++ nT n.Val x.Down) (by rw [List.length_append]; omega)
 unfold Ce at hs
 have hs := of_decide_eq_false hs
 unfold kU
 rw [if_neg (by unfold Ce; simp only [decide_eq_true_eq]; exact hs)]
 have hit : (bif (n.Op == (2 : Int)) then some true else some (n.Op == (4 : Int))) = some (decide (n.Op = 4 ∨ n.Op = 2)) := by
  by_cases k : n.Op = 2
  ·simp [k]
  ·rw [show (n.Op == 2) = false by simpa using k]; simp [k, Bool.beq_eq_decide_eq]
 have hlo : ∀ e : List UInt8, (bif (!(AA e s.2.Lo || e == s.2.Lo)) then some e else some s.2.Lo) = some (maxS s.2.Lo e) := fun e => by
  unfold maxS
  rcases Nh e s.2.Lo with h | h | h
  ·rw [h, Et h]; rfl
  ·subst h; rw [Es]; simp
  ·have h2 : (e == s.2.Lo) = false := by
    rw [beq_eq_false_iff_ne]
    intro q; subst q; rw [Es] at h; cases h
   rw [Et h, h, h2]; rfl
 have hhi : ∀ e : List UInt8, (bif (AA e s.2.Hi) then some (s.2.Lo, e, true) else some (s.2.Lo, s.2.Hi, true)) = some (s.2.Lo, minS s.2.Hi e, true) := fun e => by
  unfold minS
  rcases Nh e s.2.Hi with h | h | h
  ·have h2 : (s.2.Hi == e) = false := by
    rw [beq_eq_false_iff_ne]
    intro q; rw [q, Es] at h; cases h
   rw [h, Et h, h2]; rfl
  ·subst h; rw [Es]; simp
  ·rw [Et h, h]; rfl
 rw [hit]
 have hb : decide (n.Op ≥ 4) = decide (n.Op = 4 ∨ n.Op = 5) := decide_eq_decide.2 (by omega)
 rw [hb]
 by_cases d : decide (n.Op = 4 ∨ n.Op = 5) = x.Down
 ·rw [if_pos d, show (decide (n.Op = 4 ∨ n.Op = 5) != x.Down) = false by simpa using d]
  by_cases it : n.Op = 4 ∨ n.Op = 2
  ·rw [if_pos it, decide_eq_true it]
   refine ⟨?_, rfl⟩
   refine bo rfl ?_
   refine bf rfl ?_
   refine bo (a := Lg (pre ++ nT n.Val x.Down)) (bo ha rfl) ?_
   exact hhi _
  ·rw [if_neg it, decide_eq_false it]
   refine ⟨?_, rfl⟩
   refine bo rfl ?_
   refine bf rfl ?_
   refine bo (a := pre ++ nT n.Val x.Down) rfl ?_
   exact hhi _
 ·rw [if_neg d, show (decide (n.Op = 4 ∨ n.Op = 5) != x.Down) = true by simpa using d]
  by_cases it : n.Op = 4 ∨ n.Op = 2
  ·rw [if_pos it, decide_eq_true it]
   refine ⟨?_, rfl⟩
   refine bo rfl ?_
   refine bt rfl ?_
   refine bo (a := pre ++ nT n.Val x.Down) rfl ?_
   exact bo (hlo _) rfl
  ·rw [if_neg it, decide_eq_false it]
   refine ⟨?_, rfl⟩
   refine bo rfl ?_
   refine bt rfl ?_
   refine bo (a := Lg (pre ++ nT n.Val x.Down)) (bo ha rfl) ?_
   exact bo (hlo _) rfl
theorem JX (x : aI) (pre : List UInt8) : ∀ (con : List aA) (s : Bool × aW), s.2.Open = false → (con.foldl (kU x pre) s).2.Open = false
 | [], s, h => h
 | n :: con, s, h => by
  rw [List.foldl_cons]
  refine JX x pre con _ ?_
  unfold kU
  split
  ·exact h
  ·split <;> split <;> exact h
theorem MU (ps : List aI) (t : PT) (ht : BM t) (hps : ps.length ≤ 100) (hl : (flat t).length ≤ 1000) (hv : ∀ n ∈ fP true t, val n.Val = true) (ho : ∀ n ∈ fP true t, n.Op ≤ 6) : kD ps (Kv (flat t)) = some (dz ps (fP true t)) := by
 unfold kD
 refine bo (Om t ht (by omega)) ?_
 obtain ⟨hil, hg⟩ := ajI (t := t)
 have hcl := Bw true t
 generalize p8 0 true t = idx at hil hg
 generalize fP true t = con at hv ho hcl hil hg
 have hfl := EJ con ps
 have hfv := JN hv ps
 have hpl := Pj hfv
 refine Df (w := (uy (iI con ps), ((iI con ps).length : Int))) (nmB fun B hB => ?_) ?_
 ·have key : ∀ (r pre : List aI) (s : List UInt8), ps = pre ++ r → s.length + 137 * r.length ≤ 100000 → loop B (s, (pre.length : Int)) = some (s ++ uy (iI con r), ((pre.length + (iI con r).length : Nat) : Int)) := by
   intro r
   induction r with
   | nil =>
    intro pre s e hs
    rw [show iI con [] = [] from rfl]
    refine dY ?_
    rw [hB]
    show (bif _ then _ else _) = _
    rw [aC (by rw [e]; simp)]
    simp [uy]
   | cons x r ih =>
    intro pre s e hs
    have hi : pre.length < ps.length := by rw [e]; simp
    have hx : ps[pre.length] = x := by simp [e]
    simp only [List.length_cons] at hs
    have gx : bG ps (pre.length : Int) = some x := by rw [bL hi, hx]
    have hb : B (s, (pre.length : Int)) = (match con.find? (wF x.Col) with | some n => some (.inl (s ++ nT n.Val x.Down, ((pre.length + 1 : Nat) : Int))) | none => some (.inr (s, (pre.length : Int)))) := by
     rw [hB]
     show (bif _ then _ else _) = _
     rw [av (by omega)]
     cases hq : con.find? (wF x.Col) with
     | none =>
      have hno := List.find?_eq_none.1 hq
      refine Df (w := (s, false)) (Dc (fun k => (s, false, (k : Int))) con.length (fun k hk => ?_) ?_ rfl) rfl
      ·show Option.bind _ _ = _
       refine bo (a := true) (by rw [av (by omega)]; rfl) ?_
       refine bt rfl ?_
       obtain ⟨i, g1, g2⟩ := hg k hk
       refine bo (a := (s, false)) ?_ (by rw [bO (by omega)])
       refine bo g1 ?_
       refine bo g2 ?_
       refine bo (a := false) ?_ rfl
       refine bo gx ?_
       refine (NK con[k] x.Col).trans ?_
       rw [show wF x.Col con[k] = false by simpa using hno _ (List.getElem_mem hk)]
      ·show Option.bind _ _ = _
       refine bo (a := false) (by rw [aC (by omega)]) rfl
     | some n =>
      have S9 := hv _ (List.mem_of_find?_eq_some hq)
      obtain ⟨hpn, k0, hk0, hkn, hbef⟩ := List.find?_eq_some_iff_getElem.1 hq
      have hel := rT (d := x.Down) S9
      refine Df (w := (s ++ nT n.Val x.Down, true)) (Dc (fun k => if k ≤ k0 then (s, false, (k : Int)) else (s ++ nT n.Val x.Down, true, ((k0 + 1 : Nat) : Int))) (k0 + 1) (fun k hk => ?_) ?_ (by simp)) (by rw [bO (by omega)]; rfl)
      ·rw [if_pos (by omega)]
       show Option.bind _ _ = _
       refine bo (a := true) (by rw [av (by omega)]; rfl) ?_
       refine bt rfl ?_
       obtain ⟨i, g1, g2⟩ := hg k (by omega)
       by_cases kk : k = k0
       ·subst kk
        rw [if_neg (by omega)]
        refine bo (a := (s ++ nT n.Val x.Down, true)) ?_ (by rw [bO (by omega)])
        refine bo g1 ?_
        refine bo g2 ?_
        rw [hkn]
        refine bo (a := true) ?_ ?_
        ·refine bo gx ?_
         refine (NK n x.Col).trans ?_
         rw [hpn]
        ·refine bt rfl ?_
         refine bo gx ?_
         refine bo (LC n.Val x.Down S9) ?_
         exact gt (by omega) rfl
       ·rw [if_pos (by omega)]
        refine bo (a := (s, false)) ?_ (by rw [bO (by omega)])
        refine bo g1 ?_
        refine bo g2 ?_
        refine bo (a := false) ?_ rfl
        refine bo gx ?_
        refine (NK con[k] x.Col).trans ?_
        rw [show wF x.Col con[k] = false by simpa using hbef k (by omega)]
      ·rw [if_neg (by omega)]
       show Option.bind _ _ = _
       refine bo (a := false) ?_ rfl
       by_cases kk : k0 + 1 < con.length
       ·rw [av (by omega)]; rfl
       ·rw [aC (by omega)]
    cases hq : con.find? (wF x.Col) with
    | none =>
     rw [hq] at hb
     rw [dY hb]
     unfold iI
     rw [hq]
     simp [uy]
    | some n =>
     rw [hq] at hb
     have S9 := hv _ (List.mem_of_find?_eq_some hq)
     have := rT (d := x.Down) S9
     have ih' := ih (pre ++ [x]) (s ++ nT n.Val x.Down) (by rw [e]; simp) (by rw [List.length_append]; omega)
     rw [List.length_append, List.length_singleton] at ih'
     rw [dV hb, ih']
     have ef : iI con (x :: r) = (n, x) :: iI con r := by
      show (match con.find? (wF x.Col) with | some n => (n, x) :: iI con r | none => []) = _
      rw [hq]
     rw [ef]
     congr 2
     ·simp [uy]
     ·simp; omega
  have := key ps [] [] rfl (by simp; omega)
  simpa using this
 ·unfold dz
  have hp : (uy (iI con ps)).length ≤ 100000 := by omega
  generalize uy (iI con ps) = pre at hp
  by_cases hlt : (iI con ps).length < ps.length
  rotate_left
  ·rw [List.getElem?_eq_none (by omega)]
   refine bt (by simp; omega) ?_
   exact bo (zY _ (by omega)) rfl
  ·rw [List.getElem?_eq_getElem hlt]
   refine bf (by simp; omega) ?_
   refine bo (bL hlt) ?_
   generalize ps[(iI con ps).length] = x
   refine gt (by simp; omega) ?_
   refine gt (by simp; omega) ?_
   refine bo (zV (pre ++ [1]) (by simp; omega)) ?_
   refine bo (a := ((u7 x pre).Lo, (u7 x pre).Hi)) ?_ ?_
   ·unfold u7
    cases x.Down with
    | true =>
     refine bt rfl ?_
     refine gt (by simp; omega) ?_
     exact bo (zV (pre ++ [254]) (by simp; omega)) rfl
    | false => rfl
   ·have hop : (oG x con pre).2.Open = false := JX x pre con _ (by unfold u7; split <;> rfl)
    refine Df (w := ((oG x con pre).2.Lo, (oG x con pre).2.Hi, (oG x con pre).1)) (Dc (fun k => (((con.take k).foldl (kU x pre) (false, u7 x pre)).2.Lo, ((con.take k).foldl (kU x pre) (false, u7 x pre)).2.Hi, ((con.take k).foldl (kU x pre) (false, u7 x pre)).1, (k : Int))) con.length (fun k hk => ?_) ?_ rfl) ?_
    ·show (bif _ then _ else _) = _
     rw [av (by omega), qw _ k hk, List.foldl_append]
     generalize (con.take k).foldl (kU x pre) (false, u7 x pre) = st
     show _ = some (Sum.inl ((kU x pre st con[k]).2.Lo, (kU x pre st con[k]).2.Hi, (kU x pre st con[k]).1, _))
     obtain ⟨i, g1, g2⟩ := hg k hk
     have S9 := hv _ (List.getElem_mem hk)
     have hon := ho _ (List.getElem_mem hk)
     generalize con[k] = n at g2 S9 hon
     have hel := rT (d := x.Down) S9
     refine bo (a := ((kU x pre st n).2.Lo, (kU x pre st n).2.Hi, (kU x pre st n).1)) ?_ (by rw [bO (by omega)])
     refine bo g1 ?_
     refine bo g2 ?_
     refine bo (VW x n) ?_
     cases hsk : Ce x n with
     | true =>
      unfold kU
      rw [if_pos hsk]; rfl
     | false =>
      refine bf rfl ?_
      refine bo (LC n.Val x.Down S9) ?_
      refine gt (by omega) ?_
      obtain ⟨q1, q2⟩ := VT x pre st n hp S9 hon hsk
      rw [q2]
      exact q1
    ·show (bif _ then _ else _) = _
     rw [aC (by omega), List.take_length]; rfl
    ·show (bif (!(oG x con pre).1) then _ else _) = _
     generalize hbs : oG x con pre = bs at hop
     obtain ⟨b, lo, hi, op⟩ := bs
     replace hop : op = false := hop
     subst hop
     cases b with
     | true => show _ = some (if (oG x con pre).1 = true then _ else _); rw [hbs]; rfl
     | false =>
      show _ = some (if (oG x con pre).1 = true then _ else _)
      rw [hbs]
      exact bo (zY _ (by omega)) rfl
def pG (p : aG) : aD := aD.mk p.Index p.Span p.Fixed p.Bounded p.Covers p.jL
theorem XW (x : aD) : gJ x x = true := by simp [gJ, FV]
theorem ZM (l : List aI) (c : Int) : oC (cZ l) c = l.any fun p => p.Col == c := by unfold oC cZ; rw [List.any_map]; rfl
theorem O5 (t : aP) (q : bP) (tr : PT) (ht : BM tr) (hq : flat tr = q.Pred) (hl : q.Pred.length ≤ 200) (hv : ∀ n ∈ fP true tr, val n.Val = true) (hop : ∀ n ∈ fP true tr, n.Op ≤ 6) (h1 : t.aH.length ≤ 100) (h2 : t.bn.length ≤ 1000)
  (h3 : ∀ x ∈ t.bn, x.Parts.length ≤ 100 ∧ x.Extra.length < 4611686018427387904) (h4 : q.aV.length ≤ 1000) (h5 : q.Order.length ≤ 1000)
  (hn : mh (bT.mk (Kv q.Pred) q.aV q.Order q.Limit) = some (jU q)) :
  rF t (bT.mk (Kv q.Pred) q.aV q.Order q.Limit) = some ((CW t (fP true tr) (jU q)).map pG) := by
 unfold rF
 refine bo (Gr t.aH (by omega)) ?_
 have hup : (q8 t.aH).length = t.aH.length := by simp [q8]
 have hB : ∀ ps : List aI, ps.length ≤ 100 → kD ps (Kv q.Pred) = some (dz ps (fP true tr)) := fun ps hps => by
  rw [← hq]; exact MU ps tr ht hps (by rw [hq]; omega) hv hop
 refine bo (hB _ (by omega)) ?_
 have hnl := FB q (by omega) h4 h5
 generalize jU q = needs at hn hnl
 generalize fP true tr = con at hB hv
 have apC := yQ (q8 t.aH) con
 have hr1 := D7 (dz (q8 t.aH) con).1 (dz (q8 t.aH) con).2.1 (decide ((dz (q8 t.aH) con).1 = t.aH.length))
 refine bo (a := (Cu t con).map pG) ?_ ?_
 ·unfold Cu
  refine bo (a := decide ((dz (q8 t.aH) con).1 > 0 ∨ (dz (q8 t.aH) con).2.1 = true)) ?_ ?_
  ·by_cases k : (dz (q8 t.aH) con).1 > 0
   ·exact (av k _ _).trans (BG (.inl k))
   ·refine (aC k _ _).trans (congrArg some ?_)
    rw [Bool.eq_iff_iff, decide_eq_true_eq]
    exact ⟨.inr, fun h => h.resolve_left k⟩
  ·by_cases k : (dz (q8 t.aH) con).1 > 0 ∨ (dz (q8 t.aH) con).2.1 = true
   ·rw [decide_eq_true k, if_pos k]
    refine bt rfl ?_
    refine bo (a := nC (dz (q8 t.aH) con).1 (dz (q8 t.aH) con).2.1 (decide ((dz (q8 t.aH) con).1 = t.aH.length))) ?_ ?_
    ·rw [← CO _ _ _ ⟨apC.1, by omega⟩]
     rfl
    ·refine gt (by rw [dB]; simp) ?_
     have e : bF ((1 : Int) + (bF ((2 : Int) * nC (dz (q8 t.aH) con).1 (dz (q8 t.aH) con).2.1 (decide ((dz (q8 t.aH) con).1 = t.aH.length))))) = 1 + 2 * nC (dz (q8 t.aH) con).1 (dz (q8 t.aH) con).2.1 (decide ((dz (q8 t.aH) con).1 = t.aH.length)) := by
      rw [dF (n := (2 : Int) * _) (by omega) (by omega), dF (by omega) (by omega)]
     rw [e]
     rfl
   ·rw [decide_eq_false k, if_neg k]; rfl
 refine bo hn ?_
 have hhl := FQ t con
 refine Df (w := (CW t con needs).map pG) (Dc (fun i => ((Cu t con ++ zA t con needs 0 (t.bn.take i)).map pG, (i : Int))) t.bn.length (fun i hi => ?_) ?_ (by simp [zA])) rfl
 ·show (bif _ then _ else _) = _
  rw [av (by omega)]
  refine bo (a := (Cu t con ++ zA t con needs 0 (t.bn.take (i + 1))).map pG) ?_ (by rw [bO (by omega)])
  refine bo (bL hi) ?_
  obtain ⟨x1, x2⟩ := h3 _ (List.getElem_mem hi)
  rw [qw _ i hi, FP]
  have hil := Ez t con needs (t.bn.take i) 0
  have htl : (t.bn.take i).length = i := by rw [List.length_take]; omega
  rw [htl] at hil ⊢
  rw [Int.zero_add]
  generalize t.bn[i] = x at x1 x2
  cases hr : x.Ready with
  | false => rw [if_neg (by simp), List.append_nil]; rfl
  | true =>
   rw [if_pos rfl]
   refine bf rfl ?_
   have hBx := hB x.Parts x1
   have hb := yQ x.Parts con
   have hr2 := D7 (dz x.Parts con).1 (dz x.Parts con).2.1 (x.Unique && decide ((dz x.Parts con).1 = x.Parts.length))
   have hpx : Pn t con needs (i : Int) x = aG.mk i (dz x.Parts con).2.2 (dz x.Parts con).1 (dz x.Parts con).2.1 (sI t x needs)
    (PZ (sI t x needs) (nC (dz x.Parts con).1 (dz x.Parts con).2.1 (x.Unique && decide ((dz x.Parts con).1 = x.Parts.length)))) := rfl
   rw [hpx]
   generalize dz x.Parts con = bs at hBx hb hr2 ⊢
   obtain ⟨f, bb, sp⟩ := bs
   replace hb : 0 ≤ f ∧ f ≤ (x.Parts.length : Int) := hb
   replace hr2 : 1 ≤ nC f bb (x.Unique && decide (f = x.Parts.length)) ∧ nC f bb (x.Unique && decide (f = x.Parts.length)) ≤ 1000 := hr2
   refine bo hBx ?_
   generalize hpp : aG.mk (i : Int) sp f bb (sI t x needs) (PZ (sI t x needs) (nC f bb (x.Unique && decide (f = x.Parts.length)))) = px
   ·refine Df (w := aD.mk i sp f bb (sI t x needs) 0) (Dc (fun k => ((k : Int), aD.mk i sp f bb (sI t x (needs.take k)) 0)) needs.length (fun k hk => ?_) ?_ rfl) ?_
    ·show (bif _ then _ else _) = _
     rw [av (by omega), bO (by omega), qw _ k hk]
     have e : sI t x (needs.take k ++ [needs[k]]) = (sI t x (needs.take k) && !Gm t x needs[k]) := by
      unfold sI
      rw [List.any_append, Bool.not_or]
      simp
     rw [e]
     cases sI t x (needs.take k) with
     | false => rfl
     | true =>
      refine bt rfl ?_
      refine bo (nO x.Parts (by omega)) ?_
      refine bo (bL hk) ?_
      refine bo (iQ _ _ (by simp [cZ]; omega)) ?_
      rw [ZM]
      unfold Gm
      cases x.Parts.any fun p => p.Col == needs[k] with
      | true => rfl
      | false =>
       refine bf rfl ?_
       refine bo (bL hk) ?_
       refine bo (iQ _ _ x2) ?_
       cases oC x.Extra needs[k] with
       | true => rfl
       | false =>
        refine bf rfl ?_
        refine bo (bL hk) ?_
        refine bo (iQ _ _ (by omega)) ?_
        cases oC t.aH needs[k] <;> rfl
    ·show (bif _ then _ else _) = _
     rw [aC (by omega), List.take_length]
    ·refine bo (a := nC f bb (x.Unique && decide (f = x.Parts.length))) ?_ ?_
     ·by_cases k : f = x.Parts.length
      ·refine bt (by simpa using k) ?_
       refine bo (CO _ _ _ ⟨hb.1, by omega⟩) ?_
       rw [decide_eq_true k, Bool.and_true]
      ·refine bf (by simpa using k) ?_
       refine bo (CO _ _ _ ⟨hb.1, by omega⟩) ?_
       rw [decide_eq_false k, Bool.and_false]
     ·refine bo (a := pG px) ?_ ?_
      ·subst hpp
       generalize hrow : nC f bb (x.Unique && decide (f = x.Parts.length)) = v at hr2
       unfold pG PZ
       cases sI t x needs with
       | true =>
        refine bt rfl ?_
        rw [dF (n := (1 : Int) + v) (by omega) (by omega)]; rfl
       | false =>
        refine bf rfl ?_
        rw [dF (n := (4 : Int) * v) (by omega) (by omega), dF (n := (2 : Int) + 4 * v) (by omega) (by omega)]; rfl
      ·refine gt (by rw [List.length_map, List.length_append, dB, List.length_singleton]; omega) ?_
       rw [← List.append_assoc, List.map_append (l₂ := [px])]; rfl
 ·show (bif _ then _ else _) = _
  rw [aC (by omega), List.take_length]; rfl
theorem RN (ha : mJ = some true) (t : aP) (q : bP) (hT : OkT t) (hp : ∀ n ∈ q.Pred, OkN n) (ho : q.Order.length * 16 ≤ 140737488351232) (hpl : q.Pred.length * 56 ≤ 140737488351232) : nS t q = some true := by
 unfold nS
 refine bo ha ?_
 refine bf rfl ?_
 refine bo (IX t hT) ?_
 by_cases g1 : X5 t = 0
 rotate_left
 ·exact bt (by simpa using g1) rfl
 refine bf (by simpa using g1) ?_
 have r := Right.of g1
 refine bo (aad t r) ?_
 refine bo (Wn q (by omega)) ?_
 refine bo (U7 t q hT.d9.1 hp ho) ?_
 refine bo (KM t q hT.d9.1 hp ho) ?_
 refine bf (by simp) ?_
 by_cases g2 : pcS t q = 0
 rotate_left
 ·exact bt (by simpa using g2) rfl
 refine bf (by simpa using g2) ?_
 obtain ⟨k1, k2, k3, k4, k5⟩ : sG t.aV q.Pred = 0 ∧ q.aV.length ≤ 24 ∧ q.Order.length ≤ 4 ∧ q.aV.any (mH t.aV.length) = false ∧ (cZ q.Order).any (mH t.aV.length) = false := by
  unfold pcS at g2
  by_cases a1 : sG t.aV q.Pred ≠ 0
  ·rw [if_pos a1] at g2; exact absurd g2 a1
  rw [if_neg a1] at g2
  by_cases a2 : q.aV.length > 24 ∨ q.Order.length > 4 ∨ q.Limit < -1
  ·rw [if_pos a2] at g2; cases g2
  rw [if_neg a2] at g2
  by_cases a3 : q.aV.any (mH t.aV.length) = true ∨ (cZ q.Order).any (mH t.aV.length) = true ∨ ¬ (cZ q.Order).Nodup
  ·rw [if_pos a3] at g2; cases g2
  simp only [not_or, Bool.not_eq_true] at a3
  exact ⟨by omega, by omega, by omega, a3.1, a3.2.1⟩
 obtain ⟨hpl', hf, tr, kt, hq⟩ := X6 k1
 have hv : ∀ n ∈ fP true tr, val n.Val = true := ZW (by rw [hq]; exact hf)
 have hrl := r.len
 have ajx : ∀ n ∈ q.Pred, (n.Kind = 2 ∨ n.Kind = 3) → (0 ≤ n.Col ∧ n.Col < 24) ∧ n.Op ≤ 6 := fun n hn hk => by
  have h := (hf n hn).1
  unfold lS at h
  rcases hk with hk | hk
  ·rw [if_pos hk, decide_eq_true_eq] at h; omega
  ·rw [if_neg (by omega), if_pos hk, decide_eq_true_eq] at h; omega
 have hout : ∀ l : List Int, l.any (mH t.aV.length) = false → ∀ c ∈ l, 0 ≤ c ∧ c < 24 := fun l hl c hc => by
  have := (List.any_eq_false.1 hl) c hc
  unfold mH at this
  simp only [decide_eq_true_eq] at this
  omega
 have hN := O6 q (by omega) (by omega) (by omega) (fun c hc => by
  obtain ⟨n, hn, hk, e⟩ := J8.1 hc
  rw [← e]; exact (ajx n hn hk).1) (hout _ k4) (hout _ k5)
 have hP := Yp t q tr kt hq (by omega) hv (by have := r.pri; omega) (by have := r.ixs; omega) (OE r) (by omega) (by omega)
 have hR := O5 t q tr kt hq (by omega) hv (fun n hn => by
  obtain ⟨h1, h2⟩ := Ib true tr n hn
  exact (ajx n (by rw [← hq]; exact h1) h2).2) (by have := r.pri; omega) (by have := r.ixs; omega) (OE r) (by omega) (by omega) hN
 have hNn := Qn q (by omega) (by omega) (by omega)
 have hnl := FB q (by omega) (by omega) (by omega)
 have hil := FQ t (fP true tr)
 have arN := Ez t (fP true tr) (jU q) t.bn 0
 have hsl : (CW t (fP true tr) (jU q)).length ≤ 100 := by
  unfold CW
  rw [List.length_append]
  have := r.ixs
  omega
 refine bo hP ?_
 refine bo hR ?_
 generalize CW t (fP true tr) (jU q) = ps at hsl
 refine bo (a := false) ?_ ?_
 ·refine bf (by simp) ?_
  refine bo hNn ?_
  refine bo hN ?_
  refine bo (vw _ _ (by omega)) ?_
  rw [decide_eq_true rfl]
  refine bf rfl ?_
  refine bo (KQ t t hT) ?_
  rw [decide_eq_true rfl]; rfl
 refine bf rfl ?_
 obtain ⟨out, o1, o2, o3⟩ := aaf ps (by omega)
 have hoN : out.length = ps.length := by rw [o2.length_eq, MV]
 refine Oq (w := .inl ()) (Dc (fun i => (i : Int)) ps.length (fun i hi => ?_) ?_ rfl) ?_
 ·show (bif _ then _ else _) = _
  rw [av (by omega)]
  refine bo (bL hi) ?_
  refine bo (bL hi) ?_
  refine bo (bL hi) ?_
  refine bo (bL hi) ?_
  refine bo (bL hi) ?_
  refine bo (bL hi) ?_
  refine bo (a := pG ps[i]) (by rw [bL (by rw [List.length_map]; exact hi), List.getElem_map]) ?_
  refine bf (by show (!(gJ (pG ps[i]) (pG ps[i]))) = false; rw [XW]; rfl) ?_
  rw [bO (by omega)]
 ·show (bif _ then _ else _) = _
  rw [aC (by omega)]
 ·show Option.bind _ _ = _
  refine bo o1 ?_
  refine bo (QO (p := ps) (by omega) (by simp) (fun i hi => ?_) o2 o3) ?_
  ·refine ⟨pG ps[i], by rw [bL (by rw [List.length_map]; exact hi), List.getElem_map], ?_⟩
   unfold gI pG
   simp [hi]
  ·refine bo (vw _ _ (by omega)) ?_
   rw [decide_eq_true rfl]
omit [bJ] in
theorem ahB {R : Nat} (hR : R ≤ 140737488355328) {q : bP} (h : Au R q) : ∀ n ∈ q.Pred, OkN n := fun n hn => by
 obtain ⟨_, _, _, k4, _⟩ := h.1.2 n hn
 have k5 := k4.2.2.1
 show n.Val.S.length < 4611686018427387904
 omega
theorem Oh (t : aP) (q : bP) (hT : OkT t) (hp : ∀ n ∈ q.Pred, OkN n) (ho : q.Order.length * 16 ≤ 140737488351232) (hpl : q.Pred.length * 56 ≤ 140737488351232) : nS t q = some true := RN FK t q hT hp ho hpl
end Lv
