/- Part of the proof of a law. -/
import Derived.Test.YtjegjjlojnpnoaaGreatDoorXAll
import Derived.Test.YtjegjjlojnpnoaaGreatDoorGwPlain
import Derived.Lib.ValidLaws
import Derived.Test.YtjegjjlojnpnoaaGreatDoorGwQ
import Derived.Test.YtjegjjlojnpnoaaGreatDoorXOk
/- Plain laws of layer 07: values that are right. -/
namespace Lv
open Go Go.Proofs
set_option linter.unusedVariables false
set_option linter.unusedSimpArgs false
set_option linter.unusedSectionVars false
set_option maxRecDepth 100000
variable [BaseTab]
def val (v : ApiValue) : Bool :=
 (v.Kind == 0 && (v.N == 0 && v.S == [])) || ((v.Kind == 1 || v.Kind == 2) && v.S == []) || (v.Kind == 3 && (decide (v.N < 2) && v.S == [])) ||
 (v.Kind == 4 && (v.N == 0 && decide (v.S.length ≤ 64))) || (v.Kind == 5 && (v.N == 0 && (decide (v.S.length ≤ 64) && Go.Lib.validD v.S)))
theorem value_Valid_eq (v : ApiValue) (h : v.S.length < 4611686018427387904) : value_Valid v = some (val v) := by
 have e1 : validF v.S = some (Go.Lib.validD v.S) := by unfold validF; rw [if_pos (by omega)]
 have e2 : ((v.S.length : Int) ≤ 64) = (v.S.length ≤ 64) := propext (by omega)
 have e3 : (v.N ≤ 1) = (v.N < 2) := propext (by rw [UInt64.le_iff_toNat_le, UInt64.lt_iff_toNat_lt]; show _ ≤ 1 ↔ _ < 2; omega)
 obtain ⟨K, N, S⟩ := v
 unfold value_Valid val
 simp only [e1, e2, e3, eqApiValue, Bool.and_true] at *
 by_cases k0 : K = 0
 ·subst k0; simp
 by_cases k1 : K = 1
 ·subst k1; simp
 by_cases k2 : K = 2
 ·subst k2; simp
 by_cases k3 : K = 3
 ·subst k3; by_cases hN : N < 2 <;> simp [hN]
 by_cases k4 : K = 4
 ·subst k4; cases hN : (N == 0) <;> simp [hN]
 by_cases k5 : K = 5
 ·subst k5; cases hN : (N == 0) <;> by_cases hS : S.length ≤ 64 <;> simp [hN, hS]
 simp [beq_eq_false_iff_ne.2 k0, beq_eq_false_iff_ne.2 k1, beq_eq_false_iff_ne.2 k2, beq_eq_false_iff_ne.2 k3, beq_eq_false_iff_ne.2 k4, beq_eq_false_iff_ne.2 k5]
def utfB (s : List UInt8) (i n : Int) : Int × Int → Option ((Int × Int) ⊕ (Int ⊕ Bool)) := fun (y1265, y1266) =>
                      bif (decide (y1266 < n)) then
                        Option.bind (getI s (w64 (i + y1266))) fun v1279 =>
                        Option.bind (α := Bool)
                          (bif (decide ((v1279.toNat : Int) < (128 : Int))) then
                            some true
                          else
                            some (decide ((v1279.toNat : Int) ≥ (192 : Int))))
                          fun y1281 =>
                        bif y1281 then
                          some (Sum.inr (Sum.inr false))
                        else
                          some (Sum.inl ((w64 ((w64 ((w64 (y1265 * (64 : Int))) + (v1279.toNat : Int))) - (128 : Int))), (w64 (y1266 + (1 : Int)))))
                      else
                        some (Sum.inr (Sum.inl y1265))
theorem utf_more (s : List UInt8) (i : Nat) (n k c : Int) (b : UInt8) (hk : 0 ≤ k) (hn : k < n) (hn4 : n ≤ 4) (hi : i + k.toNat < s.length) (hs : s.length < 4611686018427387904) (hc : 0 ≤ c ∧ c < 4294967296) (hb : s.getD (i + k.toNat) 0 = b) :
  loop (utfB s i n) (c, k) = if b.toNat / 64 = 2 then loop (utfB s i n) (c * 64 + (b.toNat : Int) - 128, k + 1) else some (.inr false) := by
 have hg : getI s (w64 ((i : Int) + k)) = some b := by
  rw [w64_id (by omega) (by omega)]
  unfold getI
  rw [if_pos (by omega), show ((i : Int) + k).toNat = i + k.toNat by omega, List.getElem?_eq_getElem hi]
  rw [List.getD_eq_getElem?_getD, List.getElem?_eq_getElem hi] at hb
  exact congrArg some hb
 have hlt := b.toNat_lt
 by_cases h : b.toNat / 64 = 2
 ·rw [if_pos h]
  refine loop_step ?_
  show (bif (decide (k < n)) then _ else _) = _
  rw [decide_eq_true hn, cond_true, hg, bind_some', bif_decF (show ¬ ((b.toNat : Int) < 128) by omega), bind_some', bif_decF (show ¬ ((b.toNat : Int) ≥ 192) by omega)]
  rw [w64_id (n := c * 64) (by omega) (by omega), w64_id (n := c * 64 + _) (by omega) (by omega), w64_id (n := c * 64 + _ - _) (by omega) (by omega), w64_id (n := k + 1) (by omega) (by omega)]
 ·rw [if_neg h]
  refine loop_end ?_
  show (bif (decide (k < n)) then _ else _) = _
  rw [decide_eq_true hn, cond_true, hg, bind_some']
  by_cases h2 : b.toNat < 128
  ·rw [bif_decT (show ((b.toNat : Int) < 128) by omega), bind_some', cond_true]
  ·rw [bif_decF (show ¬ ((b.toNat : Int) < 128) by omega), bind_some', bif_decT (show ((b.toNat : Int) ≥ 192) by omega)]
theorem utf_end (s : List UInt8) (i : Nat) (n c : Int) : loop (utfB s i n) (c, n) = some (.inl c) := by
 refine loop_end ?_
 show (bif (decide (n < n)) then _ else _) = _
 rw [bif_decF (show ¬ (n < n) by omega)]
def utfN (l : List UInt8) : Nat :=
 if (Go.Lib.decodeN l.length (l.getD 0 0).toNat (l.getD 1 0).toNat (l.getD 2 0).toNat (l.getD 3 0).toNat).1 = 65533 ∧ (Go.Lib.decodeN l.length (l.getD 0 0).toNat (l.getD 1 0).toNat (l.getD 2 0).toNat (l.getD 3 0).toNat).2 = 1 then 0
 else (Go.Lib.decodeN l.length (l.getD 0 0).toNat (l.getD 1 0).toNat (l.getD 2 0).toNat (l.getD 3 0).toNat).2
theorem validD_utfN (l : List UInt8) (hne : l ≠ []) : Go.Lib.validD l = if utfN l = 0 then false else Go.Lib.validD (l.drop (utfN l)) := by
 have hw := Go.Lib.decodeL_width l
 have hl : 0 < l.length := List.length_pos_iff.2 hne
 rw [Go.Lib.validD_step l hne, Go.Lib.decodeL_N]
 rw [Go.Lib.decodeL_N] at hw
 unfold utfN
 split
 ·simp
 ·rw [if_neg (by omega)]
theorem utfN_1 (l : List UInt8) (h : (l.getD 0 0).toNat < 128) : utfN l = 1 := by
 unfold utfN Go.Lib.decodeN
 rw [if_pos h]
 simp only
 rw [if_neg (by omega)]
theorem utfN_bad (l : List UInt8) (h : (128 ≤ (l.getD 0 0).toNat ∧ (l.getD 0 0).toNat < 194) ∨ 245 ≤ (l.getD 0 0).toNat) : utfN l = 0 := by
 unfold utfN
 have := (l.getD 0 0).toNat_lt
 rw [Go.Lib.decodeN_bad _ _ _ _ _ (by omega)]
 rfl
theorem utfN_2 (l : List UInt8) (h : 194 ≤ (l.getD 0 0).toNat ∧ (l.getD 0 0).toNat < 224) : utfN l = if 1 < l.length ∧ (l.getD 1 0).toNat / 64 = 2 then 2 else 0 := by
 unfold utfN Go.Lib.decodeN
 repeat' split
 all_goals first | rfl | (exfalso; omega) | (simp only at *; omega)
theorem utfN_3 (l : List UInt8) (h : 224 ≤ (l.getD 0 0).toNat ∧ (l.getD 0 0).toNat < 240) : utfN l = if (2 < l.length ∧ (l.getD 1 0).toNat / 64 = 2 ∧ (l.getD 2 0).toNat / 64 = 2) ∧ 2048 ≤ (l.getD 0 0).toNat % 16 * 4096 + (l.getD 1 0).toNat % 64 * 64 + (l.getD 2 0).toNat % 64 ∧ ((l.getD 0 0).toNat % 16 * 4096 + (l.getD 1 0).toNat % 64 * 64 + (l.getD 2 0).toNat % 64 < 55296 ∨ 57344 ≤ (l.getD 0 0).toNat % 16 * 4096 + (l.getD 1 0).toNat % 64 * 64 + (l.getD 2 0).toNat % 64) then 3 else 0 := by
 unfold utfN Go.Lib.decodeN
 repeat' split
 all_goals first | rfl | (exfalso; omega) | (simp only at *; omega)
theorem utfN_4 (l : List UInt8) (h : 240 ≤ (l.getD 0 0).toNat ∧ (l.getD 0 0).toNat < 245) : utfN l = if (3 < l.length ∧ (l.getD 1 0).toNat / 64 = 2 ∧ (l.getD 2 0).toNat / 64 = 2 ∧ (l.getD 3 0).toNat / 64 = 2) ∧ 65536 ≤ (l.getD 0 0).toNat % 8 * 262144 + (l.getD 1 0).toNat % 64 * 4096 + (l.getD 2 0).toNat % 64 * 64 + (l.getD 3 0).toNat % 64 ∧ (l.getD 0 0).toNat % 8 * 262144 + (l.getD 1 0).toNat % 64 * 4096 + (l.getD 2 0).toNat % 64 * 64 + (l.getD 3 0).toNat % 64 ≤ 1114111 then 4 else 0 := by
 unfold utfN Go.Lib.decodeN
 repeat' split
 all_goals first | rfl | (exfalso; omega) | (simp only at *; omega)
theorem decI {p q : Prop} [Decidable p] [Decidable q] (h : p ↔ q) : decide p = decide q := decide_eq_decide.2 h
noncomputable def utfT (p0 : List UInt8) (y1079 y1207 y1208 y1209 : Int) : Option (Int ⊕ (Unit ⊕ Bool)) :=
              bif (decide ((w64 (y1079 + y1207)) > (p0.length : Int))) then
                some (Sum.inr (Sum.inr false))
              else
                bindE (Y := Int) (E := Bool)
                  (Option.bind (α := Int ⊕ Bool) (loop (utfB p0 y1079 y1207) (y1209, (1 : Int)))
                    (Sum.elim (fun e => some (Sum.inl e)) (fun e => some (Sum.inr e))))
                  (fun y1256 =>
                    Option.bind (α := Bool)
                      (bif (decide (y1256 < y1208)) then
                        some true
                      else
                        bif (decide (y1256 > (1114111 : Int))) then
                          some true
                        else
                          bif (decide (y1256 ≥ (55296 : Int))) then
                            some (decide (y1256 < (57344 : Int)))
                          else
                            some false)
                      fun y1289 =>
                    bif y1289 then
                      some (Sum.inr (Sum.inr false))
                    else
                      some (Sum.inl (w64 (y1079 + y1207))))
                  (fun e => some (Sum.inr (Sum.inr e)))
theorem utfT_all {s : List UInt8} {i n : Nat} {m c c' : Int} (hn : n ≤ 4) (hs : s.length < 4611686018427387904) (hi : i + n ≤ s.length) (h : loop (utfB s i n) (c, 1) = some (.inl c')) :
  utfT s i n m c = some (if c' < m ∨ c' > 1114111 ∨ (55296 ≤ c' ∧ c' < 57344) then .inr (.inr false) else .inl ((i + n : Nat) : Int)) := by
 unfold utfT
 rw [w64_id (n := (i : Int) + n) (by omega) (by omega), bif_decF (show ¬ ((i : Int) + n > (s.length : Int)) by omega), h, bind_some', Sum.elim_inl, bindE_l]
 by_cases h1 : c' < m
 ·rw [bif_decT h1, bind_some', cond_true, if_pos (.inl h1)]
 rw [bif_decF h1]
 by_cases h2 : c' > 1114111
 ·rw [bif_decT h2, bind_some', cond_true, if_pos (.inr (.inl h2))]
 rw [bif_decF h2]
 by_cases h3 : c' ≥ 55296
 ·rw [bif_decT h3, bind_some']
  by_cases h4 : c' < 57344
  ·rw [bif_decT h4, if_pos (.inr (.inr ⟨h3, h4⟩))]
  ·rw [bif_decF h4, if_neg (by omega)]; rfl
 ·rw [bif_decF h3, bind_some', cond_false, if_neg (by omega)]; rfl
theorem utfT_no {s : List UInt8} {i n : Nat} {m c : Int} (hn : n ≤ 4) (hs : s.length < 4611686018427387904) (hi : i + n ≤ s.length) (h : loop (utfB s i n) (c, 1) = some (.inr false)) :
  utfT s i n m c = some (.inr (.inr false)) := by
 unfold utfT
 rw [w64_id (n := (i : Int) + n) (by omega) (by omega), bif_decF (show ¬ ((i : Int) + n > (s.length : Int)) by omega), h, bind_some', Sum.elim_inr, bindE_r]
theorem utfT_short {s : List UInt8} {i n : Nat} {m c : Int} (hn : n ≤ 4) (hs : s.length < 4611686018427387904) (hi : i ≤ s.length) (hi : ¬ i + n ≤ s.length) : utfT s i n m c = some (.inr (.inr false)) := by
 unfold utfT
 rw [w64_id (n := (i : Int) + n) (by omega) (by omega), bif_decT (show ((i : Int) + n > (s.length : Int)) by omega)]
theorem ref06_utf8_eq (s : List UInt8) (hs : s.length < 4611686018427387904) : ref06_utf8 s = some (Go.Lib.validD s) := by
 unfold ref06_utf8
 refine Eq.trans (congrArg (fun x => bindE (Y := Unit) (E := Bool) (Option.bind (α := Unit ⊕ Bool) x (Sum.elim (fun e => some (Sum.inl e)) (fun e => some (Sum.inr e)))) (fun _ => some true) (fun e => some e))
  (loop_by (fun y : Int => ∃ i : Nat, y = i ∧ i ≤ s.length) (fun y => s.length - y.toNat) (fun y => if Go.Lib.validD (s.drop y.toNat) = true then .inl () else .inr false) ?_ 0 ⟨0, rfl, by omega⟩)) ?_
 ·rintro y ⟨i, rfl, hi⟩
  rcases Nat.lt_or_ge i s.length with hlt | hge
  rotate_left
  ·right
   have : i = s.length := by omega
   subst this
   simp only [ltI, Nat.lt_irrefl, decide_false, cond_false, Int.toNat_natCast, List.drop_length, Go.Lib.validD_nil, if_true]
  have hne : s.drop i ≠ [] := by intro e; have := congrArg List.length e; simp at this; omega
  have hv := validD_utfN (s.drop i) hne
  have hlen : (s.drop i).length = s.length - i := by simp
  have hd : ∀ k, (s.drop i).getD k 0 = s.getD (i + k) 0 := fun k => Go.Lib.getD_dropU s i k
  have hg : getI s (i : Int) = some (s.getD i 0) := by
   rw [getI_at hlt, List.getD_eq_getElem?_getD, List.getElem?_eq_getElem hlt]; rfl
  have hb := (s.getD i 0).toNat_lt
  -- what a round must show
  suffices hB : ∀ B : Option (Int ⊕ (Unit ⊕ Bool)), B = some (if utfN (s.drop i) = 0 then .inr (.inr false) else .inl ((i + utfN (s.drop i) : Nat) : Int)) → utfN (s.drop i) ≤ s.length - i →
    (∃ y', B = some (.inl y') ∧ (∃ j : Nat, y' = j ∧ j ≤ s.length) ∧ s.length - y'.toNat < s.length - ((i : Int)).toNat ∧ (if Go.Lib.validD (s.drop y'.toNat) = true then Sum.inl () else Sum.inr false) = (if Go.Lib.validD (s.drop ((i : Int)).toNat) = true then Sum.inl () else Sum.inr false)) ∨ B = some (.inr (if Go.Lib.validD (s.drop ((i : Int)).toNat) = true then .inl () else .inr false)) by
   have hle : utfN (s.drop i) ≤ s.length - i := by
    rcases Nat.lt_or_ge (s.getD i 0).toNat 128 with c1 | c1
    ·rw [utfN_1 _ (by rw [hd]; exact c1)]; omega
    rcases Nat.lt_or_ge (s.getD i 0).toNat 194 with c2 | c2
    ·rw [utfN_bad _ (by rw [hd, Nat.add_zero]; omega)]; omega
    rcases Nat.lt_or_ge (s.getD i 0).toNat 224 with c3 | c3
    ·rw [utfN_2 _ (by rw [hd, Nat.add_zero]; omega)]; split <;> omega
    rcases Nat.lt_or_ge (s.getD i 0).toNat 240 with c4 | c4
    ·rw [utfN_3 _ (by rw [hd, Nat.add_zero]; omega)]; split <;> omega
    rcases Nat.lt_or_ge (s.getD i 0).toNat 245 with c5 | c5
    ·rw [utfN_4 _ (by rw [hd, Nat.add_zero]; omega)]; split <;> omega
    ·rw [utfN_bad _ (by rw [hd, Nat.add_zero]; omega)]; omega
   refine hB _ ?_ hle
   rw [ltI, decide_eq_true hlt, cond_true, hg, bind_some']
   have d0 := hd 0
   rw [Nat.add_zero] at d0
   have d1 := hd 1
   have d2 := hd 2
   have d3 := hd 3
   have b1 := (s.getD (i + 1) 0).toNat_lt
   have b2 := (s.getD (i + 2) 0).toNat_lt
   have b3 := (s.getD (i + 3) 0).toNat_lt
   rcases Nat.lt_or_ge (s.getD i 0).toNat 128 with c1 | c1
   ·have hu := utfN_1 (s.drop i) (by rw [d0]; exact c1)
    rw [hu, bif_decT (show ((s.getD i 0).toNat : Int) < 128 by omega), bindE_l]
    refine (utfT_all (n := 1) (by omega) hs (by omega) (utf_end s i 1 _)).trans ?_
    rw [if_neg (by omega), if_neg (by omega)]
   rw [bif_decF (show ¬ (((s.getD i 0).toNat : Int) < 128) by omega)]
   rcases Nat.lt_or_ge (s.getD i 0).toNat 194 with c2 | c2
   ·have hu := utfN_bad (s.drop i) (by rw [d0]; omega)
    rw [hu, bif_decF (show ¬ (((s.getD i 0).toNat : Int) ≥ 194) by omega), bind_some', cond_false, bif_decF (show ¬ (((s.getD i 0).toNat : Int) ≥ 224) by omega), bind_some', cond_false, bif_decF (show ¬ (((s.getD i 0).toNat : Int) ≥ 240) by omega), bind_some', cond_false]
    rfl
   rw [bif_decT (show (((s.getD i 0).toNat : Int) ≥ 194) by omega), bind_some']
   rcases Nat.lt_or_ge (s.getD i 0).toNat 224 with c3 | c3
   ·have hu := utfN_2 (s.drop i) (by rw [d0]; omega)
    rw [d1, hlen] at hu
    rw [bif_decT (show (((s.getD i 0).toNat : Int) < 224) by omega), bindE_l]
    show utfT s i (2 : Nat) 128 _ = _
    by_cases hn : i + 2 ≤ s.length
    ·rw [w64_id (n := ((s.getD i 0).toNat : Int) - 192) (by omega) (by omega)]
     have q := utf_more s i 2 1 (((s.getD i 0).toNat : Int) - 192) (s.getD (i + 1) 0) (by omega) (by omega) (by omega) (by omega) hs (by omega) rfl
     by_cases t1 : (s.getD (i + 1) 0).toNat / 64 = 2
     ·rw [if_pos t1] at q
      refine (utfT_all (n := 2) (by omega) hs (by omega) (q.trans (utf_end s i 2 _))).trans ?_
      rw [hu, if_pos (show 1 < s.length - i ∧ (s.getD (i + 1) 0).toNat / 64 = 2 by omega)]
      split
      ·exfalso; omega
      ·rfl
     ·rw [if_neg t1] at q
      refine (utfT_no (n := 2) (by omega) hs (by omega) q).trans ?_
      rw [show utfN (s.drop i) = 0 by rw [hu]; exact if_neg (by omega)]
      rfl
    ·rw [show utfN (s.drop i) = 0 by rw [hu]; exact if_neg (by omega)]
     exact utfT_short (by omega) hs hi hn
   rw [bif_decF (show ¬ (((s.getD i 0).toNat : Int) < 224) by omega), bif_decT (show (((s.getD i 0).toNat : Int) ≥ 224) by omega), bind_some']
   rcases Nat.lt_or_ge (s.getD i 0).toNat 240 with c4 | c4
   ·have hu := utfN_3 (s.drop i) (by rw [d0]; omega)
    rw [d0, d1, d2, hlen] at hu
    rw [bif_decT (show (((s.getD i 0).toNat : Int) < 240) by omega), bindE_l]
    show utfT s i (3 : Nat) 2048 _ = _
    by_cases hn : i + 3 ≤ s.length
    ·rw [w64_id (n := ((s.getD i 0).toNat : Int) - 224) (by omega) (by omega)]
     have q := utf_more s i 3 1 (((s.getD i 0).toNat : Int) - 224) (s.getD (i + 1) 0) (by omega) (by omega) (by omega) (by omega) hs (by omega) rfl
     by_cases t1 : (s.getD (i + 1) 0).toNat / 64 = 2
     ·rw [if_pos t1] at q
      have q2 := utf_more s i 3 2 ((((s.getD i 0).toNat : Int) - 224) * 64 + ((s.getD (i + 1) 0).toNat : Int) - 128) (s.getD (i + 2) 0) (by omega) (by omega) (by omega) (by omega) hs (by omega) rfl
      by_cases t2 : (s.getD (i + 2) 0).toNat / 64 = 2
      ·rw [if_pos t2] at q2
       refine (utfT_all (n := 3) (by omega) hs (by omega) (q.trans (q2.trans (utf_end s i 3 _)))).trans ?_
       split
       ·rw [show utfN (s.drop i) = 0 by rw [hu]; exact if_neg (by omega)]
        rfl
       ·rw [show utfN (s.drop i) = 3 by rw [hu]; exact if_pos (by omega)]
        rfl
      ·rw [if_neg t2] at q2
       refine (utfT_no (n := 3) (by omega) hs (by omega) (q.trans q2)).trans ?_
       rw [show utfN (s.drop i) = 0 by rw [hu]; exact if_neg (by omega)]
       rfl
     ·rw [if_neg t1] at q
      refine (utfT_no (n := 3) (by omega) hs (by omega) q).trans ?_
      rw [show utfN (s.drop i) = 0 by rw [hu]; exact if_neg (by omega)]
      rfl
    ·rw [show utfN (s.drop i) = 0 by rw [hu]; exact if_neg (by omega)]
     exact utfT_short (by omega) hs hi hn
   rw [bif_decF (show ¬ (((s.getD i 0).toNat : Int) < 240) by omega), bif_decT (show (((s.getD i 0).toNat : Int) ≥ 240) by omega), bind_some']
   rcases Nat.lt_or_ge (s.getD i 0).toNat 245 with c5 | c5
   ·have hu := utfN_4 (s.drop i) (by rw [d0]; omega)
    rw [d0, d1, d2, d3, hlen] at hu
    rw [bif_decT (show (((s.getD i 0).toNat : Int) < 245) by omega), bindE_l]
    show utfT s i (4 : Nat) 65536 _ = _
    by_cases hn : i + 4 ≤ s.length
    ·rw [w64_id (n := ((s.getD i 0).toNat : Int) - 240) (by omega) (by omega)]
     have q := utf_more s i 4 1 (((s.getD i 0).toNat : Int) - 240) (s.getD (i + 1) 0) (by omega) (by omega) (by omega) (by omega) hs (by omega) rfl
     by_cases t1 : (s.getD (i + 1) 0).toNat / 64 = 2
     ·rw [if_pos t1] at q
      have q2 := utf_more s i 4 2 ((((s.getD i 0).toNat : Int) - 240) * 64 + ((s.getD (i + 1) 0).toNat : Int) - 128) (s.getD (i + 2) 0) (by omega) (by omega) (by omega) (by omega) hs (by omega) rfl
      by_cases t2 : (s.getD (i + 2) 0).toNat / 64 = 2
      ·rw [if_pos t2] at q2
       have q3 := utf_more s i 4 3 (((((s.getD i 0).toNat : Int) - 240) * 64 + ((s.getD (i + 1) 0).toNat : Int) - 128) * 64 + ((s.getD (i + 2) 0).toNat : Int) - 128) (s.getD (i + 3) 0) (by omega) (by omega) (by omega) (by omega) hs (by omega) rfl
       by_cases t3 : (s.getD (i + 3) 0).toNat / 64 = 2
       ·rw [if_pos t3] at q3
        refine (utfT_all (n := 4) (by omega) hs (by omega) (q.trans (q2.trans (q3.trans (utf_end s i 4 _))))).trans ?_
        split
        ·rw [show utfN (s.drop i) = 0 by rw [hu]; exact if_neg (by omega)]
         rfl
        ·rw [show utfN (s.drop i) = 4 by rw [hu]; exact if_pos (by omega)]
         rfl
       ·rw [if_neg t3] at q3
        refine (utfT_no (n := 4) (by omega) hs (by omega) (q.trans (q2.trans q3))).trans ?_
        rw [show utfN (s.drop i) = 0 by rw [hu]; exact if_neg (by omega)]
        rfl
      ·rw [if_neg t2] at q2
       refine (utfT_no (n := 4) (by omega) hs (by omega) (q.trans q2)).trans ?_
       rw [show utfN (s.drop i) = 0 by rw [hu]; exact if_neg (by omega)]
       rfl
     ·rw [if_neg t1] at q
      refine (utfT_no (n := 4) (by omega) hs (by omega) q).trans ?_
      rw [show utfN (s.drop i) = 0 by rw [hu]; exact if_neg (by omega)]
      rfl
    ·rw [show utfN (s.drop i) = 0 by rw [hu]; exact if_neg (by omega)]
     exact utfT_short (by omega) hs hi hn
   ·have hu := utfN_bad (s.drop i) (by rw [d0]; omega)
    rw [hu, bif_decF (show ¬ (((s.getD i 0).toNat : Int) < 245) by omega)]
    rfl
  intro B hB hle
  rw [Int.toNat_natCast, hv]
  by_cases h0 : utfN (s.drop i) = 0
  ·right; rw [hB, if_pos h0, if_pos h0]; rfl
  ·left
   rw [if_neg h0] at hB
   refine ⟨_, hB, ⟨_, rfl, by omega⟩, by rw [Int.toNat_natCast]; omega, ?_⟩
   rw [Int.toNat_natCast, if_neg h0, List.drop_drop]
 ·simp only [Int.toNat_zero, List.drop_zero]
  by_cases h : Go.Lib.validD s = true
  ·rw [h]; rfl
  ·rw [if_neg h, Bool.eq_false_iff.2 h]; rfl
theorem ref06_Valid_eq (v : ApiValue) (h : v.S.length < 4611686018427387904) : ref06_Valid v = some (val v) := by
 have e1 := ref06_utf8_eq v.S h
 have e2 : ((v.S.length : Int) ≤ 64) = (v.S.length ≤ 64) := propext (by omega)
 obtain ⟨K, N, S⟩ := v
 unfold ref06_Valid val
 simp only [e1, e2, Bool.and_true] at *
 by_cases k0 : K = 0
 ·subst k0; cases hN : (N == 0) <;> simp [hN]
 by_cases k1 : K = 1
 ·subst k1; simp
 by_cases k2 : K = 2
 ·subst k2; simp
 by_cases k3 : K = 3
 ·subst k3; by_cases hN : N < 2 <;> simp [hN]
 by_cases k4 : K = 4
 ·subst k4; cases hN : (N == 0) <;> simp [hN]
 by_cases k5 : K = 5
 ·subst k5; cases hN : (N == 0) <;> by_cases hS : S.length ≤ 64 <;> simp [hN, hS, e1]
 simp [beq_eq_false_iff_ne.2 k0, beq_eq_false_iff_ne.2 k1, beq_eq_false_iff_ne.2 k2, beq_eq_false_iff_ne.2 k3, beq_eq_false_iff_ne.2 k4, beq_eq_false_iff_ne.2 k5]
end Lv
/- Plain laws of layer 07: keys of values, keys of lists. -/
namespace Lv
open Go Go.Proofs
set_option linter.unusedVariables false
set_option linter.unusedSimpArgs false
set_option linter.unusedSectionVars false
set_option maxRecDepth 100000
variable [BaseTab]
def bytesN (n : UInt64) : Nat → List UInt8
 | 0 => []
 | k + 1 => UInt8.ofNat (n.toNat / 2 ^ (8 * k)) :: bytesN n k
theorem bytesN_len (n : UInt64) : ∀ k, (bytesN n k).length = k
 | 0 => rfl
 | k + 1 => by simp [bytesN, bytesN_len n k]
theorem low8 (n : UInt64) : n.toUInt8 = UInt8.ofNat (n.toNat / 2 ^ (8 * 0)) := by
 rw [← UInt8.toNat_inj]; simp
def turn (d : Bool) (b : List UInt8) : List UInt8 := if d then b.map (fun x => ~~~ x) else b
theorem turn_len (d : Bool) (b : List UInt8) : (turn d b).length = b.length := by cases d <;> simp [turn]
theorem key_turned_eq (b : List UInt8) (h : b.length < 4611686018427387904) : key_turned b = some (b.map (fun x => ~~~ x)) := by
  unfold key_turned
  have q := loop_seq (B := (fun (y57, y58) =>
        bif (decide (y58 < (b.length : Int))) then
          Option.bind (getI y57 y58) fun v67 =>
          Option.bind (getI y57 y58) fun v68 =>
          some (Sum.inl ((List.set y57 y58.toNat (~~~ v67)), (w64 (y58 + (1 : Int)))))
        else
          some (Sum.inr y57))) (fun i => (mapped (fun x => ~~~ x) b i, (i : Int))) b.length (w := b.map (fun x => ~~~ x)) ?_ ?_
  · rw [mapped_zero] at q
    rw [show (loop _ (b, (0 : Int))) = _ from q]
    rfl
  · intro i hi
    show (bif _ then _ else _) = _
    rw [bif_decT (by omega), getI_nat, mapped_get _ _ hi, bind_some', bind_some', w64_succ (by omega), Int.toNat_natCast]
    exact congrArg (fun x => some (Sum.inl (x, _))) (mapped_set _ _ hi)
  · show (bif _ then _ else _) = _
    rw [bif_decF (by omega), mapped_all]
def esc : List UInt8 → List UInt8
 | [] => []
 | x :: r => if x = 0 then 0 :: 255 :: esc r else x :: esc r
theorem esc_len : ∀ s, (esc s).length ≤ 2 * s.length
 | [] => by simp [esc]
 | x :: r => by have := esc_len r; unfold esc; split <;> simp <;> omega
open Go.Lib in
theorem index0_cons (b : UInt8) (l : List UInt8) : index (b :: l) [0] = if b = 0 then 0 else if index l [0] = -1 then -1 else index l [0] + 1 := by
 conv => lhs; unfold index
 by_cases hb : b = 0
 ·subst hb; simp [List.isPrefixOf]
 ·rw [if_neg hb]
  rw [if_neg (by simp [List.isPrefixOf]; exact fun h => hb h.symm)]
  by_cases h : index l [0] = -1
  ·simp [h]
  ·rw [if_neg h, if_neg (by simpa using h)]
open Go.Lib in
theorem replK0_cons (b : UInt8) (l new : List UInt8) (hb : b ≠ 0) : ∀ k, replaceK [0] new k (b :: l) = b :: replaceK [0] new k l
 | 0 => rfl
 | k + 1 => by
  have h := index0_cons b l
  rw [if_neg hb] at h
  unfold replaceK
  by_cases hm : index l [0] = -1
  ·rw [if_pos hm] at h
   rw [h, hm]; rfl
  ·have hge := index_ge l [0]
   rw [if_neg hm] at h
   rw [if_neg (by rw [h]; intro e; have := beq_iff_eq.1 e; omega), if_neg (by intro e; exact hm (beq_iff_eq.1 e)), h]
   have e1 : (index l [0] + 1).toNat = (index l [0]).toNat + 1 := by omega
   rw [e1, List.take_succ_cons, Nat.add_right_comm, List.drop_succ_cons]
   simp
open Go.Lib in
theorem count0_cons (b : UInt8) (l : List UInt8) : count (b :: l) [0] = if b = 0 then 1 + count l [0] else count l [0] := by
 have h := index0_cons b l
 by_cases hb : b = 0
 ·rw [if_pos hb] at h ⊢
  exact count_hit (i := 0) (by simp) h
 ·rw [if_neg hb] at h ⊢
  by_cases hm : index l [0] = -1
  ·rw [if_pos hm] at h
   rw [count_miss h, count_miss hm]
  ·have hge := index_ge l [0]
   rw [if_neg hm] at h
   have e1 : index (b :: l) [0] = ((index l [0]).toNat + 1 : Nat) := by omega
   have e2 : index l [0] = ((index l [0]).toNat : Nat) := by omega
   rw [count_hit (by simp) e1, count_hit (s := l) (by simp) e2]
   rfl
open Go.Lib in
theorem replace_esc (s : List UInt8) : replaceAll s [0] [0, 255] = esc s := by
 have e : replaceNum s [0] (-1) = count s [0] := by unfold replaceNum; rw [if_pos (.inl (by omega))]
 unfold replaceAll replace
 rw [if_neg (by decide), e]
 induction s with
 | nil => rfl
 | cons b l ih =>
  rw [count0_cons]
  unfold esc
  by_cases hb : b = 0
  ·have h := index0_cons b l
   rw [if_pos hb] at h
   rw [if_pos hb, if_pos hb, Nat.add_comm, replaceK_hit _ _ _ _ 0 h]
   have e : replaceNum l [0] (-1) = count l [0] := by unfold replaceNum; rw [if_pos (.inl (by omega))]
   simp only [List.take_zero, List.nil_append, List.length_singleton, Nat.zero_add, List.drop_succ_cons, List.drop_zero]
   rw [ih e]; rfl
  ·rw [if_neg hb, if_neg hb, replK0_cons _ _ _ hb, ih (by unfold replaceNum; rw [if_pos (.inl (by omega))])]
theorem replF_esc (s : List UInt8) (h : s.length ≤ 1048576) : replF s ([0] : List UInt8) ([0, 255] : List UInt8) = some (esc s) := by
 unfold replF
 have := Go.Lib.count_le s [0]
 rw [if_pos ⟨by omega, by simp, (by show s.length + Go.Lib.count s [0] * 2 ≤ _; omega)⟩, replace_esc]
def body (v : ApiValue) : List UInt8 :=
 if v.Kind = 1 then bytesN (v.N ^^^ 9223372036854775808) 8 else if v.Kind = 2 then bytesN v.N 8 else if v.Kind = 3 then bytesN v.N 1
 else if v.Kind = 4 ∨ v.Kind = 5 then esc v.S ++ [0, 0] else []
def enc (v : ApiValue) : List UInt8 := (if v.Kind = 0 then 0 else 1) :: body v
theorem body_len (v : ApiValue) : (body v).length ≤ 2 * v.S.length + 8 := by
 unfold body
 have := esc_len v.S
 repeat' split
 all_goals simp [bytesN_len] <;> omega
end Lv
/- Plain laws of layer 07: the program's keys and the document's. -/
namespace Lv
open Go Go.Proofs
set_option linter.unusedVariables false
set_option linter.unusedSimpArgs false
set_option linter.unusedSectionVars false
set_option maxRecDepth 100000
variable [BaseTab]
theorem out_put1 (a b : List UInt8) (h : b.length + a.length ≤ 70368744177664) : pack_Out_put_1 a b = some () := by
 unfold pack_Out_put_1; rw [bif_decT (by rw [room_val]; omega)]
theorem u16_hi (n : UInt64) (m : Nat) (x : UInt16) (h : x.toNat = n.toNat / 2 ^ m % 65536) : (shr16 x 8).toUInt8 = UInt8.ofNat (n.toNat / 2 ^ (m + 8)) := by
 unfold shr16
 rw [← UInt8.toNat_inj]
 have hx := x.toNat_lt
 have e : n.toNat / 2 ^ (m + 8) = n.toNat / 2 ^ m / 256 := by rw [Nat.pow_add, Nat.div_div_eq_div_mul]
 simp [UInt16.toNat_ofNat, e]
 omega
theorem u16_lo (n : UInt64) (m : Nat) (x : UInt16) (h : x.toNat = n.toNat / 2 ^ m % 65536) : x.toUInt8 = UInt8.ofNat (n.toNat / 2 ^ m) := by
 rw [← UInt8.toNat_inj]
 simp [h]
 try omega
theorem sh32 (n : UInt64) : (shr64 n 32).toUInt32.toNat = n.toNat / 2 ^ 32 := by
 unfold shr64
 have := n.toNat_lt
 simp [UInt64.toNat_ofNat]
 omega
theorem bytes8_eq (n : UInt64) (acc : List UInt8) : (((acc ++ [((shr16 ((shr32 ((shr64 n 32).toUInt32) 16).toUInt16) 8).toUInt8), (((shr32 ((shr64 n 32).toUInt32) 16).toUInt16).toUInt8)]) ++ [((shr16 (((shr64 n 32).toUInt32).toUInt16) 8).toUInt8), ((((shr64 n 32).toUInt32).toUInt16).toUInt8)]) ++ [((shr16 ((shr32 (n.toUInt32) 16).toUInt16) 8).toUInt8), (((shr32 (n.toUInt32) 16).toUInt16).toUInt8)]) ++ [((shr16 ((n.toUInt32).toUInt16) 8).toUInt8), (((n.toUInt32).toUInt16).toUInt8)] = acc ++ bytesN n 8 := by
 have hn := n.toNat_lt
 have h1 : ((shr32 ((shr64 n 32).toUInt32) 16).toUInt16).toNat = n.toNat / 2 ^ 48 % 65536 := by
  unfold shr32
  have := sh32 n
  simp [UInt32.toNat_ofNat] at *
  omega
 have h2 : (((shr64 n 32).toUInt32).toUInt16).toNat = n.toNat / 2 ^ 32 % 65536 := by
  have := sh32 n
  simp at *
  omega
 have h3 : ((shr32 (n.toUInt32) 16).toUInt16).toNat = n.toNat / 2 ^ 16 % 65536 := by
  unfold shr32
  simp [UInt32.toNat_ofNat]
  omega
 have h4 : ((n.toUInt32).toUInt16).toNat = n.toNat / 2 ^ 0 % 65536 := by
  simp
 rw [u16_hi n 48 _ h1, u16_lo n 48 _ h1, u16_hi n 32 _ h2, u16_lo n 32 _ h2, u16_hi n 16 _ h3, u16_lo n 16 _ h3, u16_hi n 0 _ h4, u16_lo n 0 _ h4]
 simp [bytesN]
theorem Out_U16_eq (x : UInt16) (b : List UInt8) (h : b.length + 2 ≤ 70368744177664) : pack_Out_U16 x b = some () := by
 unfold pack_Out_U16; rw [out_put1 _ _ (by simpa using h)]; rfl
theorem Out_U32_eq (x : UInt32) (b : List UInt8) (h : b.length + 4 ≤ 70368744177664) : pack_Out_U32 x b = some () := by
 unfold pack_Out_U32; rw [Out_U16_eq _ _ (by omega), bind_some', Out_U16_eq _ _ (by simp; omega)]; rfl
theorem Out_U64_eq (x : UInt64) (b : List UInt8) (h : b.length + 8 ≤ 70368744177664) : pack_Out_U64 x b = some () := by
 unfold pack_Out_U64; rw [Out_U32_eq _ _ (by omega), bind_some', Out_U32_eq _ _ (by simp; omega)]; rfl
theorem key_one_eq (v : ApiValue) (d : Bool) (h : v.S.length ≤ 1048576) : key_one v d = some (turn d (enc v)) := by
 have hf : pack_Out_Flag (v.Kind != (0 : Int)) = some [if v.Kind = 0 then 0 else 1] := by
  unfold pack_Out_Flag
  by_cases k : v.Kind = 0
  ·rw [k]; rfl
  ·rw [if_neg k, show (v.Kind != 0) = true by simpa using k]; rfl
 have hb := body_len v
 obtain ⟨K, N, S⟩ := v
 simp only at h hf hb
 unfold key_one
 simp only
 rw [hf, bind_some']
 -- the middle
 have key : ∀ (m : Option (List UInt8)) (q : List UInt8), m = some q → (if K = 4 ∨ K = 5 then q ++ (esc S ++ [0, 0]) else q) = enc ⟨K, N, S⟩ → q.length ≤ 100 →
   (Option.bind (α := (List UInt8)) m
  fun y50 =>
 Option.bind (pack_Out_Bytes y50) fun _ =>
 Option.bind (α := (List UInt8))
  (Option.bind (α := Bool)
   (bif (K == (4 : Int)) then
    some true
   else
    some (K == (5 : Int)))
   fun y71 =>
  bif y71 then
   Option.bind (replF S ([0] : List UInt8) ([0, 255] : List UInt8)) fun r75 =>
   bif decide ((y50.length + r75.length) * 1 ≤ room) then
   bif decide (((y50 ++ r75).length + [(0 : UInt8), (0 : UInt8)].length) * 1 ≤ room) then
   some ((y50 ++ r75) ++ [(0 : UInt8), (0 : UInt8)])
   else none
   else none
  else
   some y50)
  fun y68 =>
 bif d then
  Option.bind (key_turned y68) fun r80 =>
  some r80
 else
  some y68) = some (turn d (enc ⟨K, N, S⟩)) := by
  intro m q hm he hq
  subst hm
  have hl := esc_len S
  rw [bind_some', show pack_Out_Bytes q = some () by unfold pack_Out_Bytes; rw [bif_decT (by rw [room_val]; omega)], bind_some', replF_esc S h]
  have hlen : (enc ⟨K, N, S⟩).length ≤ 4194304 := by unfold enc; simp; omega
  have ht : (bif d then Option.bind (key_turned (enc ⟨K, N, S⟩)) fun r80 => some r80 else some (enc ⟨K, N, S⟩)) = some (turn d (enc ⟨K, N, S⟩)) := by
   cases d with
   | false => rfl
   | true => rw [cond_true, key_turned_eq _ (by omega)]; rfl
  by_cases k4 : K = 4
  ·rw [if_pos (.inl k4)] at he
   rw [k4] at he ht ⊢
   simp only [BEq.rfl, cond_true, bind_some']
   rw [bif_decT (by rw [room_val]; omega), bif_decT (by rw [room_val]; simp; omega), bind_some', List.append_assoc, he]
   exact ht
  by_cases k5 : K = 5
  ·rw [if_pos (.inr k5)] at he
   rw [k5] at he ht ⊢
   simp only [show ((5 : Int) == 4) = false from rfl, cond_false, BEq.rfl, cond_true, bind_some']
   rw [bif_decT (by rw [room_val]; omega), bif_decT (by rw [room_val]; simp; omega), bind_some', List.append_assoc, he]
   exact ht
  rw [if_neg (by omega)] at he
  subst he
  rw [beq_eq_false_iff_ne.2 k4, beq_eq_false_iff_ne.2 k5, cond_false, bind_some', cond_false, bind_some']
  exact ht
 by_cases k1 : K = 1
 ·subst k1
  refine key _ ([1] ++ bytesN (N ^^^ 9223372036854775808) 8) ?_ ?_ ?_
  rotate_left
  ·rfl
  ·simp [bytesN_len]
  ·simp only [BEq.rfl, cond_true]
   rw [Out_U64_eq _ _ (by simp), bind_some', bytes8_eq]
   rfl
 by_cases k2 : K = 2
 ·subst k2
  refine key _ ([1] ++ bytesN N 8) ?_ ?_ ?_
  rotate_left
  ·rfl
  ·simp [bytesN_len]
  ·simp only [show ((2 : Int) == 1) = false from rfl, cond_false, BEq.rfl, cond_true]
   rw [Out_U64_eq _ _ (by simp), bind_some', bytes8_eq]
   rfl
 by_cases k3 : K = 3
 ·subst k3
  refine key _ ([1] ++ bytesN N 1) ?_ ?_ ?_
  rotate_left
  ·rfl
  ·simp [bytesN_len]
  ·simp only [show ((3 : Int) == 1) = false from rfl, show ((3 : Int) == 2) = false from rfl, cond_false, BEq.rfl, cond_true]
   rw [show pack_Out_U8 (N.toUInt8) [if (3 : Int) = 0 then 0 else 1] = some () from by unfold pack_Out_U8; rw [out_put1 _ _ (by simp)]; rfl, bind_some', low8]
   rfl
 refine key _ ([if K = 0 then 0 else 1]) ?_ ?_ ?_
 rotate_left
 ·unfold enc body
  simp only [k1, k2, k3, if_false]
  split <;> rfl
 ·simp
 ·rw [beq_eq_false_iff_ne.2 k1, beq_eq_false_iff_ne.2 k2, beq_eq_false_iff_ne.2 k3]; rfl
end Lv
/- Plain laws of layer 07: keys of lists. -/
namespace Lv
open Go Go.Proofs
set_option linter.unusedVariables false
set_option linter.unusedSimpArgs false
set_option linter.unusedSectionVars false
set_option maxRecDepth 100000
variable [BaseTab]
structure Sm (l : List ApiValue) : Prop where
 len : l.length ≤ 1048576
 txt : ∀ v ∈ l, v.S.length ≤ 1048576
theorem Sm.get {l : List ApiValue} (h : Sm l) {i : Nat} (hi : i < l.length) : (l[i]'hi).S.length ≤ 1048576 := h.txt _ (List.getElem_mem hi)
def bad (v : ApiValue) : Bool := !val v
def encL : List ApiValue → List Bool → List UInt8
 | v :: l, d :: ds => turn d (enc v) ++ encL l ds
 | _, _ => []
def encS (l : List ApiValue) (ds : List Bool) : List UInt8 × Int :=
 if l.length = ds.length then
  if l.any bad = true then ([], 8) else if (encL l ds).length > 256 then ([], 7) else (encL l ds, 0)
 else ([], 1)
theorem encL_take : ∀ (l : List ApiValue) (ds : List Bool) (i : Nat) (h : i < l.length) (h2 : i < ds.length), encL (l.take (i + 1)) (ds.take (i + 1)) = encL (l.take i) (ds.take i) ++ turn ds[i] (enc l[i])
 | v :: l, d :: ds, 0, h, h2 => by simp [encL]
 | v :: l, d :: ds, i + 1, h, h2 => by
  simp only [List.take_succ_cons, encL, List.getElem_cons_succ]
  rw [encL_take l ds i (by simpa using h) (by simpa using h2), List.append_assoc]
theorem val_short {v : ApiValue} (h : val v = true) : v.S.length ≤ 64 := by
 unfold val at h
 simp only [Bool.or_eq_true, Bool.and_eq_true, beq_iff_eq, decide_eq_true_eq] at h
 rcases h with (((⟨_, _, h⟩ | ⟨_, h⟩) | ⟨_, _, h⟩) | ⟨_, _, h⟩) | ⟨_, _, h, _⟩
 ·rw [h]; simp
 ·rw [h]; simp
 ·rw [h]; simp
 ·exact h
 ·exact h
theorem enc_short {v : ApiValue} (h : val v = true) : (enc v).length ≤ 137 := by
 have := body_len v
 have := val_short h
 unfold enc
 simp; omega
theorem encL_short : ∀ (l : List ApiValue) (ds : List Bool), l.any bad = false → (encL l ds).length ≤ 137 * l.length
 | [], ds, _ => by simp [encL]
 | v :: l, [], _ => by simp [encL]
 | v :: l, d :: ds, h => by
  rw [List.any_cons, Bool.or_eq_false_iff] at h
  have := enc_short (v := v) (by have := h.1; unfold bad at this; simpa using this)
  have := encL_short l ds h.2
  simp [encL, turn_len]
  omega
theorem any_take {α : Type} (p : α → Bool) (l : List α) (i : Nat) (h : l.any p = false) : (l.take i).any p = false := by
 rw [List.any_eq_false] at h ⊢
 exact fun x hx => h x (List.mem_of_mem_take hx)
theorem Encode_1_eq (v : ApiValue) (h : v.S.length ≤ 1048576) : key_Encode_1 v = some (bad v) := by
 unfold key_Encode_1; rw [value_Valid_eq v (by omega)]; rfl
theorem anyBad_eq (l : List ApiValue) (h : Sm l) : slices_ContainsFunc_api_Value_api_Value l = some (l.any bad) := by
  unfold slices_ContainsFunc_api_Value_api_Value slices_IndexFunc_api_Value_api_Value
  have hl := h.len
  have q := loop_search (B := (fun y69 =>
        bif (decide (y69 < (l.length : Int))) then
          Option.bind (getI l y69) fun v79 =>
          Option.bind (key_Encode_1 v79) fun r80 =>
          bif r80 then
            some (Sum.inr (Sum.inr y69))
          else
            some (Sum.inl (w64 (y69 + (1 : Int))))
        else
          some (Sum.inr (Sum.inl ())))) l bad (fun i => .inr (i : Int)) (.inl ()) (fun i hi => by
      show (bif _ then _ else _) = _
      rw [bif_decT (by omega), getI_at hi, bind_some', Encode_1_eq _ (h.get hi), bind_some']
      cases bad l[i]
      · rw [cond_false, w64_succ (by omega)]; rfl
      · rfl) (by
      show (bif _ then _ else _) = _
      rw [bif_decF (by omega)])
  rcases q with ⟨q1, i, _, _, q2⟩ | ⟨q1, q2⟩
  · rw [show (loop _ (0 : Int)) = _ from q2, q1]
    show some (decide ((i : Int) ≥ 0)) = _
    rw [decide_eq_true (by omega)]
  · rw [show (loop _ (0 : Int)) = _ from q2, q1]
    rfl
theorem key_Encode_eq (l : List ApiValue) (ds : List Bool) (h : Sm l) : key_Encode l ds = some (encS l ds) := by
  unfold key_Encode encS
  have hl := h.len
  by_cases he : l.length = ds.length
  rotate_left
  · rw [if_neg he, show ((l.length : Int) != (ds.length : Int)) = true by simp; omega]; rfl
  rw [if_pos he, show ((l.length : Int) != (ds.length : Int)) = false by simp; omega, cond_false, anyBad_eq l h, bind_some']
  cases hb : l.any bad with
  | true => rfl
  | false =>
    rw [cond_false, if_neg (by simp)]
    have hs := encL_short l ds hb
    have q := loop_seq (B := (fun (y97, y98) =>
            bif (decide (y98 < (l.length : Int))) then
              Option.bind (getI l y98) fun v110 =>
              Option.bind (getI ds y98) fun v111 =>
              Option.bind (key_one v110 v111) fun r112 =>
              bif decide ((y97.length + r112.length) * 1 ≤ room) then
              some (Sum.inl ((y97 ++ r112), (w64 (y98 + (1 : Int)))))
              else none
            else
              some (Sum.inr y97))) (fun i => (encL (l.take i) (ds.take i), (i : Int))) l.length (w := encL l ds) ?_ ?_
    · rw [show (loop _ (([] : List UInt8), (0 : Int))) = _ from q, bind_some', bind_some']
      by_cases hlen : (encL l ds).length > 256
      · rw [if_pos hlen, bif_decT (by omega)]
      · rw [if_neg hlen, bif_decF (by omega)]
    · intro i hi
      have h1 := encL_short (l.take i) (ds.take i) (any_take _ _ _ hb)
      have h2 := enc_short (v := l[i]) (by rw [List.any_eq_false] at hb; have := hb _ (List.getElem_mem hi); unfold bad at this; simpa using this)
      rw [List.length_take, Nat.min_eq_left (Nat.le_of_lt hi)] at h1
      show (bif _ then _ else _) = _
      rw [bif_decT (by omega), getI_at hi, bind_some', getI_at (by omega), bind_some', key_one_eq _ _ (h.get hi), bind_some', bif_decT (by rw [room_val, turn_len]; omega), w64_succ (by omega), encL_take l ds i hi (by omega)]
    · show (bif _ then _ else _) = _
      rw [bif_decF (by omega), List.take_length, he, List.take_length]
end Lv
/- Plain laws of layer 07: the span of what begins with a text. -/
namespace Lv
open Go Go.Proofs
set_option linter.unusedVariables false
set_option linter.unusedSimpArgs false
set_option linter.unusedSectionVars false
set_option maxRecDepth 100000
variable [BaseTab]
end Lv
/- Plain laws: names, columns, what fits them. -/
namespace Lv
open Go Go.Proofs
set_option linter.unusedVariables false
set_option linter.unusedSimpArgs false
set_option linter.unusedSectionVars false
set_option maxRecDepth 100000
variable [BaseTab]
def letter (c : UInt8) : Bool := decide (97 ≤ c) && decide (c ≤ 122)
def nchar (c : UInt8) : Bool := letter c || c == 95 || (decide (48 ≤ c) && decide (c ≤ 57))
def nameS : List UInt8 → Bool
 | [] => false
 | c :: r => decide (r.length < 16) && (letter c && r.all nchar)
theorem nall (l : List UInt8) : (l.any fun c => !nchar c) = !l.all nchar := by induction l <;> simp_all [List.any_cons, List.all_cons]
theorem value_Name_eq (s : List UInt8) (hs : s.length < 4611686018427387904) : value_Name s = some (nameS s) := by
 unfold value_Name
 cases s with
 | nil => rfl
 | cons c r =>
  have hlen : (c :: r).length = r.length + 1 := rfl
  refine bo (a := decide (r.length ≥ 16)) ?_ ?_
  ·rw [show ((c :: r) == ([] : List UInt8)) = false from rfl, cond_false, hlen]; congr 1; exact decI (by omega)
  by_cases h16 : r.length ≥ 16
  ·rw [bif_decT h16]; simp only [nameS]; rw [decide_eq_false (by omega)]; rfl
  rw [bif_decF h16]
  have e1 : nameS (c :: r) = (letter c && r.all nchar) := by simp only [nameS]; rw [decide_eq_true (by omega)]; rfl
  rw [e1]
  refine lpE (w := if (letter c && r.all nchar) = true then .inl () else .inr false) (nmB fun B hB => ?_) ?_
  rotate_left
  ·cases (letter c && r.all nchar) <;> rfl
  have step : ∀ (i : Nat) (x : UInt8), i < (c :: r).length → (c :: r)[i]? = some x → B (i : Int) = some (if (if i = 0 then !letter x else !nchar x) = true then .inr (.inr false) else .inl ((i + 1 : Nat) : Int)) := by
   intro i x hi hx
   rw [hB]
   show (bif _ then _ else _) = _
   rw [bif_decT (by omega), getI_nat, hx, bind_some', show ((i : Int) == 0) = decide (i = 0) by rw [Bool.eq_iff_iff]; simp, w64_succ (by omega)]
   generalize ((i + 1 : Nat) : Int) = k
   by_cases h0 : i = 0
   ·simp only [h0, decide_true, if_true]
    clear hx
    refine bo (a := letter x) ?_ ?_
    ·revert x; exact u8F (by decide +kernel)
    ·cases letter x <;> rfl
   ·simp only [h0, decide_false, if_false]
    clear hx
    refine bo (a := letter x) ?_ (bo (a := !nchar x) ?_ ?_)
    ·revert x; exact u8F (by decide +kernel)
    ·revert x; exact u8F (by decide +kernel)
    ·cases nchar x <;> rfl
  have s0 := step 0 c (by omega) rfl
  rw [show (0 : Int) = ((0 : Nat) : Int) from rfl]
  cases hc : letter c with
  | false => rw [hc] at s0; exact loop_end s0
  | true =>
   rw [hc] at s0
   rw [loop_step (y' := ((0 + 1 : Nat) : Int)) s0]
   refine (lq3 r (fun c => !nchar c) (.inr false) (.inl ()) (fun i => ((i + 1 : Nat) : Int)) (fun i hi => ?_) ?_ rfl).trans ?_
   ·rw [step (i + 1) r[i] (by omega) (by simp [hi])]
    simp
   ·rw [hB]
    show (bif _ then _ else _) = _
    rw [bif_decF (by omega)]
   ·rw [nall]; cases r.all nchar <;> rfl
theorem ref06_Name_eq (s : List UInt8) (hs : s.length < 4611686018427387904) : ref06_Name s = some (nameS s) := by
 unfold ref06_Name
 cases s with
 | nil => rfl
 | cons c r =>
  have hlen : (c :: r).length = r.length + 1 := rfl
  have e1 : nameS (c :: r) = (decide (r.length < 16) && (letter c && r.all nchar)) := rfl
  rw [e1]
  refine bo (a := !(decide (r.length < 16) && letter c)) ?_ ?_
  ·rw [bif_decF (by omega), show getI (c :: r) 0 = some c from rfl]
   by_cases h16 : r.length < 16
   ·rw [bif_decF (by omega), decide_eq_true h16]
    simp only [bind_some', Bool.true_and]
    clear e1 hlen hs
    revert c; exact u8F (by decide +kernel)
   ·rw [bif_decT (by omega), decide_eq_false h16]; rfl
  by_cases h16 : r.length < 16
  rotate_left
  ·rw [decide_eq_false h16]; rfl
  rw [decide_eq_true h16, Bool.true_and, Bool.true_and]
  cases hc : letter c with
  | false => rfl
  | true =>
   rw [Bool.not_true, cond_false, Bool.true_and]
   refine lpE (w := if r.all nchar = true then .inl () else .inr false) (nmB fun B hB => ?_) ?_
   rotate_left
   ·cases r.all nchar <;> rfl
   refine (lq3 r (fun c => !nchar c) (.inr false) (.inl ()) (fun i => ((i + 1 : Nat) : Int)) (fun i hi => ?_) ?_ rfl).trans ?_
   ·rw [hB]
    show (bif _ then _ else _) = _
    rw [bif_decT (by omega), getI_nat, show (c :: r)[i + 1]? = some r[i] by simp [hi], w64_succ (by omega)]
    generalize ((i + 1 + 1 : Nat) : Int) = k
    generalize r[i] = x
    simp only [bind_some']
    refine bo (a := !nchar x) ?_ ?_
    ·revert x; exact u8F (by decide +kernel)
    ·cases nchar x <;> rfl
   ·rw [hB]
    show (bif _ then _ else _) = _
    rw [bif_decF (by omega)]
   ·rw [nall]; cases r.all nchar <;> rfl
def fitS (c : ApiColumn) (v : ApiValue) : Int :=
 if val v = false then 8 else if v.Kind = 0 then (if c.Nulls = true then 0 else 8) else if v.Kind ≠ c.Kind then 8 else if (v.Kind = 4 ∨ v.Kind = 5) ∧ (v.S.length : Int) > c.Max then 7 else 0
theorem long_eq (k : Int) : value_long k = some (decide (k = 4 ∨ k = 5)) := by
 unfold value_long
 by_cases h : k = 4
 ·subst h; rfl
 ·rw [show (k == 4) = false by simpa using h]
  simp only [cond_false, bind_some', h, false_or]
  congr 1
theorem value_Fits_eq (c : ApiColumn) (v : ApiValue) (h : v.S.length < 4611686018427387904) : value_Fits c v = some (fitS c v) := by
 unfold value_Fits fitS
 rw [value_Valid_eq v h, bind_some']
 cases hv : val v with
 | false => rfl
 | true =>
  simp only [Bool.not_true, cond_false, Bool.true_eq_false, if_false]
  by_cases h0 : v.Kind = 0
  ·rw [show (v.Kind == 0) = true by simpa using h0, if_pos h0]
   cases c.Nulls <;> rfl
  rw [show (v.Kind == 0) = false by simpa using h0, if_neg h0, cond_false]
  by_cases hk : v.Kind = c.Kind
  rotate_left
  ·rw [show (v.Kind != c.Kind) = true by simpa using hk, if_pos hk]; rfl
  rw [show (v.Kind != c.Kind) = false by simpa using hk, if_neg (by simpa using hk), cond_false, long_eq, bind_some']
  by_cases hl : v.Kind = 4 ∨ v.Kind = 5
  ·rw [bif_decT hl, bind_some']
   by_cases hm : (v.S.length : Int) > c.Max
   ·rw [if_pos ⟨hl, hm⟩, bif_decT hm]
   ·rw [if_neg (fun h => hm h.2), bif_decF hm]
  ·rw [bif_decF hl, bind_some', if_neg (fun h => hl h.1)]; rfl
theorem ref06_Fits_eq (c : ApiColumn) (v : ApiValue) (h : v.S.length < 4611686018427387904) : ref06_Fits c v = some (fitS c v) := by
 unfold ref06_Fits fitS
 rw [ref06_Valid_eq v h, bind_some']
 cases hv : val v with
 | false => rfl
 | true =>
  simp only [Bool.not_true, cond_false, Bool.true_eq_false, if_false]
  by_cases h0 : v.Kind = 0
  ·rw [show (v.Kind == 0) = true by simpa using h0, if_pos h0, show (v.Kind != 0) = false by simpa using h0, h0]
   cases c.Nulls <;> rfl
  rw [show (v.Kind == 0) = false by simpa using h0, if_neg h0, show (v.Kind != 0) = true by simpa using h0]
  simp only [cond_false, cond_true, bind_some']
  by_cases hk : v.Kind = c.Kind
  rotate_left
  ·rw [show (v.Kind != c.Kind) = true by simpa using hk, if_pos hk]; rfl
  rw [show (v.Kind != c.Kind) = false by simpa using hk, if_neg (by simpa using hk), cond_false]
  refine bo (a := decide ((v.Kind = 4 ∨ v.Kind = 5) ∧ (v.S.length : Int) > c.Max)) ?_ ?_
  ·by_cases h4 : v.Kind = 4
   ·rw [show (v.Kind == 4) = true by simpa using h4]; simp [h4]
   ·rw [show (v.Kind == 4) = false by simpa using h4]
    by_cases h5 : v.Kind = 5
    ·rw [show (v.Kind == 5) = true by simpa using h5]; simp [h5]
    ·rw [show (v.Kind == 5) = false by simpa using h5]; simp [h4, h5]
  ·by_cases q : (v.Kind = 4 ∨ v.Kind = 5) ∧ (v.S.length : Int) > c.Max
   ·rw [bif_decT q, if_pos q]
   ·rw [bif_decF q, if_neg q]
def colS (c : ApiColumn) : Int :=
 if nameS c.Name = false then 1 else if c.Kind < 1 ∨ c.Kind > 5 then 8 else if (if c.Kind = 4 ∨ c.Kind = 5 then c.Max < 1 ∨ c.Max > 64 else c.Max ≠ 0) then 7 else fitS c c.Default
theorem value_Column_eq (c : ApiColumn) (h : c.Name.length < 4611686018427387904) (h2 : c.Default.S.length < 4611686018427387904) : value_Column c = some (colS c) := by
 unfold value_Column colS
 rw [value_Name_eq _ h, bind_some']
 cases nameS c.Name with
 | false => rfl
 | true =>
  simp only [Bool.not_true, cond_false, Bool.true_eq_false, if_false]
  refine bo (a := decide (c.Kind < 1 ∨ c.Kind > 5)) ?_ ?_
  ·by_cases k1 : c.Kind < 1
   ·rw [bif_decT k1, decide_eq_true (Or.inl k1)]
   ·rw [bif_decF k1]; congr 1; exact decI (by omega)
  by_cases hk : c.Kind < 1 ∨ c.Kind > 5
  ·rw [bif_decT hk, if_pos hk]
  rw [bif_decF hk, if_neg hk]
  simp only [long_eq, bind_some']
  refine bo (a := decide (if c.Kind = 4 ∨ c.Kind = 5 then c.Max < 1 ∨ c.Max > 64 else c.Max ≠ 0)) ?_ ?_
  ·by_cases hl : c.Kind = 4 ∨ c.Kind = 5
   ·simp only [hl, decide_true, cond_true, if_true, Bool.not_true, cond_false]
    by_cases m1 : c.Max < 1
    ·rw [bif_decT m1]; simp [m1]
    ·rw [bif_decF m1]
     by_cases m2 : c.Max > 64
     ·rw [bif_decT m2]; simp [m2]
     ·rw [bif_decF m2]; simp [m1, m2]
   ·simp only [hl, decide_false, cond_false, if_false, Bool.not_false, cond_true]
    congr 1
    by_cases m : c.Max = 0
    ·simp [m]
    ·simp [m]
  by_cases q : (if c.Kind = 4 ∨ c.Kind = 5 then c.Max < 1 ∨ c.Max > 64 else c.Max ≠ 0)
  ·rw [bif_decT q, if_pos q]
  ·rw [bif_decF q, if_neg q, value_Fits_eq _ _ h2, bind_some']
theorem ref06_Column_eq (c : ApiColumn) (h : c.Name.length < 4611686018427387904) (h2 : c.Default.S.length < 4611686018427387904) : ref06_Column c = some (colS c) := by
 unfold ref06_Column colS
 rw [ref06_Name_eq _ h, bind_some']
 cases nameS c.Name with
 | false => rfl
 | true =>
  simp only [Bool.not_true, cond_false, Bool.true_eq_false, if_false]
  refine bo (a := decide (c.Kind < 1 ∨ c.Kind > 5)) ?_ ?_
  ·by_cases k1 : c.Kind < 1
   ·rw [bif_decT k1, decide_eq_true (Or.inl k1)]
   ·rw [bif_decF k1]; congr 1; exact decI (by omega)
  by_cases hk : c.Kind < 1 ∨ c.Kind > 5
  ·rw [bif_decT hk, if_pos hk]
  rw [bif_decF hk, if_neg hk]
  refine bo (a := decide (if c.Kind = 4 ∨ c.Kind = 5 then c.Max < 1 ∨ c.Max > 64 else c.Max ≠ 0)) ?_ ?_
  ·by_cases hl : c.Kind = 4 ∨ c.Kind = 5
   ·rw [bif_decF (by omega), bif_decT (by omega)]
    simp only [hl, if_true]
    by_cases m1 : c.Max < 1
    ·rw [bif_decT m1]; simp [m1]
    ·rw [bif_decF m1]; simp [m1]
   ·rw [bif_decT (by omega)]
    simp only [hl, if_false]
    by_cases m : c.Max = 0
    ·rw [show (c.Max != 0) = false by simpa using m, cond_false, bif_decF (by omega)]; simp [m]
    ·rw [show (c.Max != 0) = true by simpa using m]; simp [m]
  by_cases q : (if c.Kind = 4 ∨ c.Kind = 5 then c.Max < 1 ∨ c.Max > 64 else c.Max ≠ 0)
  ·rw [bif_decT q, if_pos q]
  ·rw [bif_decF q, if_neg q, ref06_Fits_eq _ _ h2, bind_some']
end Lv
/- Plain laws: rows that fit columns. -/
namespace Lv
open Go Go.Proofs
set_option linter.unusedVariables false
set_option linter.unusedSimpArgs false
set_option linter.unusedSectionVars false
set_option maxRecDepth 100000
variable [BaseTab]
def OkC (c : ApiColumn) : Prop := c.Name.length < 4611686018427387904 ∧ c.Default.S.length < 4611686018427387904
def OkCs (l : List ApiColumn) : Prop := l.length < 4611686018427387904 ∧ ∀ c ∈ l, OkC c
def OkVs (l : List ApiValue) : Prop := l.length < 4611686018427387904 ∧ ∀ v ∈ l, v.S.length < 4611686018427387904
def colsS (l : List ApiColumn) : Bool := decide (1 ≤ l.length ∧ l.length ≤ 24) && l.all fun c => colS c == 0
def fitE (p : ApiColumn × ApiValue) : Option Int := if fitS p.1 p.2 = 0 then none else some (fitS p.1 p.2)
def fitsS (cols : List ApiColumn) (l : List ApiValue) : Int := if colsS cols = false ∨ l.length ≠ cols.length then 1 else ((cols.zip l).findSome? fitE).getD 0
theorem allb (l : List ApiColumn) : (l.any fun c => colS c != 0) = !(l.all fun c => colS c == 0) := by
 induction l with
 | nil => rfl
 | cons x r ih => rw [List.any_cons, List.all_cons, ih]; cases h : (colS x == 0) <;> simp [bne, h]
theorem row_columns_eq (l : List ApiColumn) (h : OkCs l) : row_columns l = some (colsS l) := by
 unfold row_columns
 have hl := h.1
 refine bo (a := colsS l) ?_ rfl
 by_cases h1 : l.length ≥ 1
 rotate_left
 ·rw [bif_decF (by omega), colsS, decide_eq_false (by omega)]; rfl
 rw [bif_decT (by omega)]
 by_cases h2 : l.length ≤ 24
 rotate_left
 ·rw [bif_decF (by omega), colsS, decide_eq_false (by omega)]; rfl
 rw [bif_decT (by omega)]
 refine bo (a := l.any fun c => colS c != 0) ?_ ?_
 ·unfold slices_ContainsFunc_api_Column_api_Column slices_IndexFunc_api_Column_api_Column
  refine bo (lqX l (fun c => colS c != 0) (fun i hi => ?_) ?_) (by rw [idxI_any])
  ·show (bif _ then _ else _) = _
   rw [bif_decT (by omega), getI_at hi, bind_some', row_columns_1, value_Column_eq _ (h.2 _ (List.getElem_mem hi)).1 (h.2 _ (List.getElem_mem hi)).2, bind_some', bind_some', w64_succ (by omega)]
   cases colS l[i] != 0 <;> rfl
  ·show (bif _ then _ else _) = _
   rw [bif_decF (by omega)]
 ·rw [allb, colsS, decide_eq_true ⟨h1, h2⟩, Bool.not_not]; rfl
theorem zipL {α β : Type} {a : List α} {b : List β} (h : b.length = a.length) : (a.zip b).length = a.length := by simp [h]
theorem fse_map (l : List (ApiColumn × ApiValue)) : l.findSome? (fun p => (fitE p).map fun x => (.inr x : Unit ⊕ Int)) = (l.findSome? fitE).map fun x => (.inr x : Unit ⊕ Int) := by
 induction l with
 | nil => rfl
 | cons x r ih => rw [List.findSome?_cons, List.findSome?_cons]; cases fitE x <;> simp [ih]
theorem row_Fits_eq (cols : List ApiColumn) (l : List ApiValue) (h : OkCs cols) (hv : OkVs l) : row_Fits cols l = some (fitsS cols l) := by
 unfold row_Fits fitsS
 have hl := hv.1
 refine bo (a := decide (colsS cols = false ∨ l.length ≠ cols.length)) ?_ ?_
 ·rw [row_columns_eq _ h, bind_some']
  cases colsS cols with
  | false => simp
  | true => rw [Bool.not_true, cond_false, nat_ne]; simp [bne, Bool.beq_eq_decide_eq]
 by_cases q : colsS cols = false ∨ l.length ≠ cols.length
 ·rw [bif_decT q, if_pos q]
 rw [bif_decF q, if_neg q]
 have e : l.length = cols.length := by rw [not_or] at q; simpa using q.2
 have z := zipL (a := cols) (b := l) e
 refine lpE (lq2 (cols.zip l) (fun p => (fitE p).map fun x => (.inr x : Unit ⊕ Int)) (.inl ()) (fun i => (i : Int)) (fun i hi => ?_) ?_ rfl) ?_
 ·show (bif _ then _ else _) = _
  rw [bif_decT (by omega), getI_at (by omega), bind_some', getI_at (by omega), bind_some', value_Fits_eq _ _ (hv.2 _ (List.getElem_mem _)), bind_some', w64_succ (by omega), List.getElem_zip]
  unfold fitE
  by_cases k : fitS cols[i] l[i] = 0
  ·simp [k]
  ·rw [if_neg k, show (fitS cols[i] l[i] != 0) = true by simpa using k]; rfl
 ·show (bif _ then _ else _) = _
  rw [bif_decF (by omega)]
 ·rw [fse_map]
  cases (cols.zip l).findSome? fitE <;> rfl
end Lv
/- Plain laws: rows as bytes, keys as the reference makes them. -/
namespace Lv
open Go Go.Proofs
set_option linter.unusedVariables false
set_option linter.unusedSimpArgs false
set_option linter.unusedSectionVars false
set_option maxRecDepth 100000
variable [BaseTab]
def putS (v : ApiValue) : List UInt8 :=
 if v.Kind = 0 then [1] else 0 :: (if v.Kind = 1 ∨ v.Kind = 2 then bytesN v.N 8 else if v.Kind = 3 then bytesN v.N 1 else if v.Kind = 4 ∨ v.Kind = 5 then bytesN (u64i v.S.length) 2 ++ v.S else [])
def rowS (l : List ApiValue) : List UInt8 := bytesN (u64i l.length) 1 ++ (l.map putS).flatten
theorem putS_len {v : ApiValue} (h : v.S.length ≤ 64) : (putS v).length ≤ 67 := by
 unfold putS
 repeat' split
 all_goals simp [bytesN_len] <;> omega
theorem flat_len : ∀ {l : List ApiValue}, (∀ v ∈ l, v.S.length ≤ 64) → ((l.map putS).flatten).length ≤ 67 * l.length
 | [], _ => by simp
 | v :: l, h => by
  have h1 := putS_len (h v (by simp))
  have h2 := flat_len (l := l) (fun v hv => h v (by simp [hv]))
  simp only [List.map_cons, List.flatten_cons, List.length_append, List.length_cons]
  omega
theorem u16_len (n : Nat) (h : n < 65536) : [((shr16 (u16i (n : Int)) 8).toUInt8), ((u16i (n : Int)).toUInt8)] = bytesN (u64i (n : Int)) 2 := by
 have e : (u16i (n : Int)).toNat = (u64i (n : Int)).toNat / 2 ^ 0 % 65536 := by
  unfold u16i u64i
  simp
  omega
 rw [u16_hi (u64i (n : Int)) 0 _ e, u16_lo (u64i (n : Int)) 0 _ e]
 rfl
theorem Out_Text_eq (s b : List UInt8) (h : s.length ≤ 65535) (hb : b.length ≤ 1048576) : pack_Out_Text s b = some (true, b ++ (bytesN (u64i s.length) 2 ++ s)) := by
 unfold pack_Out_Text
 rw [bind_some', bif_decF (by omega), Out_U16_eq _ _ (by omega), bind_some', bif_decT (by rw [room_val]; simp; omega), u16_len _ (by omega), List.append_assoc]
theorem k12 (v : ApiValue) : (bif v.Kind == 1 then some (v.Kind == 1) else some (v.Kind == 2)) = some (decide (v.Kind = 1 ∨ v.Kind = 2)) := by
 by_cases k : v.Kind = 1
 ·rw [k]; rfl
 ·rw [beq_eq_false_iff_ne.2 k, cond_false]; congr 1; simp [k, Bool.beq_eq_decide_eq]
theorem k45 (v : ApiValue) : (bif v.Kind == 4 then some (v.Kind == 4) else some (v.Kind == 5)) = some (decide (v.Kind = 4 ∨ v.Kind = 5)) := by
 by_cases k : v.Kind = 4
 ·rw [k]; rfl
 ·rw [beq_eq_false_iff_ne.2 k, cond_false]; congr 1; simp [k, Bool.beq_eq_decide_eq]
theorem num8 (n : UInt64) : bytesN n 1 = [n.toUInt8] := by
 rw [low8]; rfl
theorem row_put_eq (v : ApiValue) (b : List UInt8) (h : v.S.length ≤ 64) (hb : b.length ≤ 1000000) : row_put v b = some (b ++ putS v) := by
 unfold row_put
 refine bo (a := b ++ [if v.Kind = 0 then 1 else 0]) ?_ ?_
 ·unfold pack_Out_Flag_1
  by_cases k : v.Kind = 0
  ·rw [show (v.Kind == 0) = true by simpa using k, cond_true, out_put1 _ _ (by simp; omega), if_pos k]; rfl
  ·rw [show (v.Kind == 0) = false by simpa using k, cond_false, out_put1 _ _ (by simp; omega), if_neg k]; rfl
 rw [k12, bind_some']
 by_cases k1 : v.Kind = 1 ∨ v.Kind = 2
 ·rw [bif_decT k1, Out_U64_eq _ _ (by simp; omega), bind_some', bytes8_eq]
  unfold putS
  rw [if_neg (show ¬ v.Kind = 0 by omega), if_neg (show ¬ v.Kind = 0 by omega), if_pos k1]
  simp
 rw [bif_decF k1]
 by_cases k3 : v.Kind = 3
 ·rw [show (v.Kind == 3) = true by simpa using k3, cond_true]
  unfold pack_Out_U8
  rw [out_put1 _ _ (by simp; omega), bind_some', bind_some']
  unfold putS
  rw [if_neg (show ¬ v.Kind = 0 by omega), if_neg (show ¬ v.Kind = 0 by omega), if_neg k1, if_pos k3, num8]
  simp
 rw [show (v.Kind == 3) = false by simpa using k3, cond_false, k45, bind_some']
 by_cases k4 : v.Kind = 4 ∨ v.Kind = 5
 ·rw [bif_decT k4, Out_Text_eq _ _ (by omega) (by simp; omega), bind_some']
  unfold putS
  rw [if_neg (show ¬ v.Kind = 0 by omega), if_neg (show ¬ v.Kind = 0 by omega), if_neg k1, if_neg k3, if_pos k4]
  simp
 ·rw [bif_decF k4]
  unfold putS
  rw [if_neg k1, if_neg k3, if_neg k4]
  split <;> rfl
theorem rowS_take (l : List ApiValue) (b : List UInt8) (i : Nat) (hi : i < l.length) : b ++ ((l.take (i + 1)).map putS).flatten = (b ++ ((l.take i).map putS).flatten) ++ putS l[i] := by
 rw [List.take_succ_eq_append_getElem hi, List.map_append, List.flatten_append]
 simp
theorem short_take {l : List ApiValue} (h : ∀ v ∈ l, v.S.length ≤ 64) (i : Nat) : ∀ v ∈ l.take i, v.S.length ≤ 64 := fun v hv => h v (List.mem_of_mem_take hv)
theorem row_Encode_eq (cols : List ApiColumn) (l : List ApiValue) (h : OkCs cols) (hv : OkVs l) (hs : fitsS cols l = 0 → ∀ v ∈ l, v.S.length ≤ 64) (h24 : fitsS cols l = 0 → l.length ≤ 24) :
  row_Encode cols l = some (if fitsS cols l ≠ 0 then ([], fitsS cols l) else if (rowS l).length > 512 then ([], 7) else (rowS l, 0)) := by
 unfold row_Encode
 rw [row_Fits_eq cols l h hv, bind_some']
 by_cases q : fitsS cols l = 0
 rotate_left
 ·rw [show (fitsS cols l != 0) = true by simpa using q, cond_true, if_pos q]
 rw [show (fitsS cols l != 0) = false by simpa using q, cond_false, if_neg (by simpa using q)]
 have hs := hs q
 have h24 := h24 q
 have e1 : [u8i (l.length : Int)] = bytesN (u64i l.length) 1 := by
  rw [num8]; congr 1
  unfold u8i u64i
  apply UInt8.toNat_inj.1
  simp
  omega
 refine bo (a := ()) ?_ ?_
 ·unfold pack_Out_U8_1 pack_Out_put
  rw [bif_decT (by rw [room_val]; simp)]; rfl
 rw [e1]
 refine lpA (w := rowS l) (lq1 (fun i => ((i : Int), bytesN (u64i l.length) 1 ++ ((l.take i).map putS).flatten)) l.length (fun i hi => ?_) ?_ (by simp)) ?_
 ·have f := flat_len (short_take hs i)
  have tl : (l.take i).length ≤ 24 := by simp; omega
  show (bif _ then _ else _) = _
  rw [bif_decT (by omega), getI_at hi, bind_some', row_put_eq _ _ (hs _ (List.getElem_mem hi)) (by rw [List.length_append, bytesN_len]; omega), bind_some', w64_succ (by omega), rowS_take l _ i hi]
 ·show (bif _ then _ else _) = _
  rw [bif_decF (by omega), List.take_length]
  rfl
 ·have f := flat_len hs
  refine bo (a := ()) ?_ ?_
  ·unfold pack_Out_Bytes
   rw [bif_decT (by rw [room_val]; unfold rowS; rw [List.length_append, bytesN_len]; omega)]
  ·by_cases z : (rowS l).length > 512
   ·rw [bif_decT (by omega), if_pos z]
   ·rw [bif_decF (by omega), if_neg z]
theorem eqV (v w : ApiValue) : eqApiValue v w = decide (v = w) := by
 cases v; cases w
 simp only [eqApiValue, ApiValue.mk.injEq]
 rw [Bool.eq_iff_iff]
 simp
end Lv
/- Plain laws: tables that are right. -/
namespace Lv
open Go Go.Proofs
set_option linter.unusedVariables false
set_option linter.unusedSimpArgs false
set_option linter.unusedSectionVars false
set_option maxRecDepth 100000
variable [BaseTab]
theorem firstF_none {α W : Type} {f : Nat → α → Option W} : ∀ {l : List α} {i : Nat}, firstF f i l = none ↔ ∀ j (h : j < l.length), f (i + j) (l[j]'h) = none
 | [], i => by simp [firstF]
 | x :: r, i => by
  rw [firstF]
  cases hf : f i x with
  | some w =>
   simp only [reduceCtorEq, false_iff]
   intro h
   have := h 0 (by simp)
   simp [hf] at this
  | none =>
   simp only
   rw [firstF_none (l := r) (i := i + 1)]
   constructor
   ·intro h j hj
    cases j with
    | zero => simpa using hf
    | succ j => have := h j (by simpa using hj); simpa [Nat.add_assoc, Nat.add_comm 1 j] using this
   ·intro h j hj
    have := h (j + 1) (by simpa using hj)
    simpa [Nat.add_assoc, Nat.add_comm 1 j] using this
def OkX (x : ApiIndex) : Prop := x.Name.length < 4611686018427387904 ∧ x.Parts.length < 4611686018427387904 ∧ x.Extra.length < 4611686018427387904
structure OkT (t : ApiTable) : Prop where
 name : t.Name.length < 4611686018427387904
 cols : OkCs t.Cols
 prim : t.Primary.length < 4611686018427387904
 idxs : t.Indexes.length < 4611686018427387904
 idx : ∀ x ∈ t.Indexes, OkX x
def hasS (l : List Int) (x : Int) : Bool := l.any fun y => y == x
theorem ref17_Has_eq (l : List Int) (x : Int) (h : l.length < 4611686018427387904) : ref17_Has l x = some (hasS l x) := by
 unfold ref17_Has
 refine lpE (lq3 l (fun y => y == x) (.inr true) (.inl ()) (fun i => (i : Int)) (fun i hi => ?_) ?_ rfl) ?_
 ·show (bif _ then _ else _) = _
  rw [bif_decT (by omega), getI_at hi, bind_some', w64_succ (by omega)]
  cases l[i] == x <;> rfl
 ·show (bif _ then _ else _) = _
  rw [bif_decF (by omega)]
 ·unfold hasS; cases (l.any fun y => y == x) <;> rfl
def plE (n : Int) (l : List Int) (i : Nat) (c : Int) : Option Unit := if c < 0 ∨ c ≥ n ∨ hasS (l.take i) c = true then some () else none
def placesS (n : Int) (l : List Int) : Bool := (firstF (plE n l) 0 l).isNone
theorem ref17_places_eq (n : Int) (l : List Int) (h : l.length < 4611686018427387904) : ref17_places n l = some (placesS n l) := by
 unfold ref17_places
 refine lpE (lq5 l (fun i c => (plE n l i c).map fun _ => (.inr false : Unit ⊕ Bool)) (.inl ()) (fun i => (i : Int)) (fun i hi => ?_) ?_ rfl) ?_
 ·show (bif _ then _ else _) = _
  rw [bif_decT (by omega), getI_at hi, w64_succ (by omega)]
  simp only [bind_some']
  refine bo (a := decide (l[i] < 0 ∨ l[i] ≥ n ∨ hasS (l.take i) l[i] = true)) ?_ ?_
  ·by_cases h1 : l[i] < 0
   ·rw [bif_decT h1]; simp [h1]
   rw [bif_decF h1]
   by_cases h2 : l[i] ≥ n
   ·rw [bif_decT h2]; simp [h2]
   rw [bif_decF h2, bif_decT (by omega), Int.toNat_natCast, ref17_Has_eq _ _ (by simp; omega), bind_some']
   simp [h1, h2]
  ·unfold plE
   by_cases q : l[i] < 0 ∨ l[i] ≥ n ∨ hasS (l.take i) l[i] = true
   ·rw [bif_decT q, if_pos q]; rfl
   ·rw [bif_decF q, if_neg q]; rfl
 ·show (bif _ then _ else _) = _
  rw [bif_decF (by omega)]
 ·unfold placesS
  have key : ∀ (r : List Int) (i : Nat), firstF (fun i c => (plE n l i c).map fun _ => (.inr false : Unit ⊕ Bool)) i r = (firstF (plE n l) i r).map fun _ => .inr false := by
   intro r
   induction r with
   | nil => intro i; rfl
   | cons x r ih => intro i; rw [firstF, firstF]; cases plE n l i x <;> simp [ih]
  rw [key]
  cases firstF (plE n l) 0 l <;> rfl
theorem placesS_in {n : Int} {l : List Int} (h : placesS n l = true) : ∀ c ∈ l, 0 ≤ c ∧ c < n := by
 unfold placesS at h
 rw [Option.isNone_iff_eq_none, firstF_none] at h
 intro c hc
 obtain ⟨i, hi, rfl⟩ := List.mem_iff_getElem.1 hc
 have := h i hi
 unfold plE at this
 split at this
 ·cases this
 ·rename_i q; rw [not_or, not_or] at q; omega
theorem placesS_nodup {n : Int} {l : List Int} (h : placesS n l = true) : l.Nodup := by
 unfold placesS at h
 rw [Option.isNone_iff_eq_none, firstF_none] at h
 show List.Pairwise (· ≠ ·) l
 rw [List.pairwise_iff_getElem]
 intro i j hi hj hij e
 have := h j hj
 unfold plE at this
 split at this
 ·cases this
 ·rename_i q
  rw [not_or, not_or] at q
  refine q.2.2 ?_
  unfold hasS
  rw [List.any_eq_true]
  refine ⟨l[i], ?_, by simp [e]⟩
  rw [Nat.zero_add]
  exact List.mem_iff_getElem.2 ⟨i, by simp; omega, by simp⟩
theorem map_ts {α β : Type} (f : α → β) (l : List α) {i : Nat} (hi : i < l.length) : (l.take (i + 1)).map f = (l.take i).map f ++ [f l[i]] := by
 rw [List.take_succ_eq_append_getElem hi, List.map_append]; rfl
def upS (l : List Int) : List ApiPart := l.map fun c => ⟨c, false⟩
theorem ref17_Up_eq (l : List Int) (h : l.length ≤ 1048576) : ref17_Up l = some (upS l) := by
 unfold ref17_Up
 refine lpA (w := upS l) (lq1 (fun i => (upS (l.take i), (i : Int))) l.length (fun i hi => ?_) ?_ rfl) rfl
 ·show (bif _ then _ else _) = _
  rw [bif_decT (by omega), getI_at hi, bind_some', bif_decT (by rw [room_val]; simp [upS]; omega), w64_succ (by omega), show upS (l.take (i + 1)) = _ from map_ts _ l hi]
  rfl
 ·show (bif _ then _ else _) = _
  rw [bif_decF (by omega), List.take_length]
theorem schema_up_eq (l : List Int) (h : l.length ≤ 1048576) : schema_up l = some (upS l) := by
 unfold schema_up
 refine lpA (w := upS l) (lq1 (fun i => (upS (l.take i), (i : Int))) l.length (fun i hi => ?_) ?_ rfl) rfl
 ·show (bif _ then _ else _) = _
  rw [bif_decT (by omega), getI_at hi, bind_some', bif_decT (by rw [room_val]; simp [upS]; omega), w64_succ (by omega), show upS (l.take (i + 1)) = _ from map_ts _ l hi]
  rfl
 ·show (bif _ then _ else _) = _
  rw [bif_decF (by omega), List.take_length]
def colsOf (l : List ApiPart) : List Int := l.map (·.Col)
theorem ref17_Cols_eq (l : List ApiPart) (h : l.length ≤ 1048576) : ref17_Cols l = some (colsOf l) := by
 unfold ref17_Cols
 refine lpA (w := colsOf l) (lq1 (fun i => (colsOf (l.take i), (i : Int))) l.length (fun i hi => ?_) ?_ rfl) rfl
 ·show (bif _ then _ else _) = _
  rw [bif_decT (by omega), getI_at hi, bind_some', bif_decT (by rw [room_val]; simp [colsOf]; omega), w64_succ (by omega), show colsOf (l.take (i + 1)) = _ from map_ts _ l hi]
  rfl
 ·show (bif _ then _ else _) = _
  rw [bif_decF (by omega), List.take_length]
def wideS (c : ApiColumn) (each : Int) : Int := if c.Kind = 1 ∨ c.Kind = 2 then 9 else if c.Kind = 3 then 2 else 3 + each * c.Max
theorem colS_ok {c : ApiColumn} (h : colS c = 0) : nameS c.Name = true ∧ 1 ≤ c.Kind ∧ c.Kind ≤ 5 ∧ (if c.Kind = 4 ∨ c.Kind = 5 then 1 ≤ c.Max ∧ c.Max ≤ 64 else c.Max = 0) ∧ fitS c c.Default = 0 := by
 unfold colS at h
 by_cases h1 : nameS c.Name = false
 ·rw [if_pos h1] at h; cases h
 rw [if_neg h1] at h
 by_cases h2 : c.Kind < 1 ∨ c.Kind > 5
 ·rw [if_pos h2] at h; cases h
 rw [if_neg h2] at h
 by_cases h3 : (if c.Kind = 4 ∨ c.Kind = 5 then c.Max < 1 ∨ c.Max > 64 else c.Max ≠ 0)
 ·rw [if_pos h3] at h; cases h
 rw [if_neg h3] at h
 refine ⟨by simpa using h1, by omega, by omega, ?_, h⟩
 by_cases k : c.Kind = 4 ∨ c.Kind = 5
 ·rw [if_pos k] at h3 ⊢; omega
 ·rw [if_neg k] at h3 ⊢; omega
theorem colS_max {c : ApiColumn} (h : colS c = 0) : 0 ≤ c.Max ∧ c.Max ≤ 64 := by
 have := (colS_ok h).2.2.2.1
 split at this <;> omega
theorem ref17_wide_eq (c : ApiColumn) (each : Int) (hc : 0 ≤ c.Max ∧ c.Max ≤ 64) (he : each = 1 ∨ each = 2) : ref17_wide c each = some (wideS c each) := by
 unfold ref17_wide wideS
 refine bo (a := decide (c.Kind = 1 ∨ c.Kind = 2)) ?_ ?_
 ·by_cases k : c.Kind = 1
  ·rw [k]; rfl
  ·rw [beq_eq_false_iff_ne.2 k, cond_false]; congr 1; simp [k, Bool.beq_eq_decide_eq]
 by_cases k : c.Kind = 1 ∨ c.Kind = 2
 ·rw [bif_decT k, if_pos k]
 rw [bif_decF k, if_neg k]
 by_cases k3 : c.Kind = 3
 ·rw [show (c.Kind == 3) = true by simpa using k3, cond_true, if_pos k3]
 rw [show (c.Kind == 3) = false by simpa using k3, cond_false, if_neg k3]
 have hm : 0 ≤ each * c.Max ∧ each * c.Max ≤ 128 := by rcases he with rfl | rfl <;> omega
 generalize each * c.Max = m at hm ⊢
 rw [w64_id (n := m) (by omega) (by omega), w64_id (by omega) (by omega)]
theorem wideS_le {c : ApiColumn} {each : Int} (hc : 0 ≤ c.Max ∧ c.Max ≤ 64) (he : each = 1 ∨ each = 2) : 0 ≤ wideS c each ∧ wideS c each ≤ 131 := by
 unfold wideS
 have hm : 0 ≤ each * c.Max ∧ each * c.Max ≤ 128 := by rcases he with rfl | rfl <;> omega
 repeat' split
 all_goals omega
theorem sum_bound {α : Type} (f : α → Int) : ∀ {l : List α}, (∀ x ∈ l, 0 ≤ f x ∧ f x ≤ 131) → 0 ≤ (l.map f).sum ∧ (l.map f).sum ≤ 131 * l.length
 | [], _ => by simp
 | x :: l, h => by
  have h1 := h x (by simp)
  have h2 := sum_bound f (l := l) (fun y hy => h y (by simp [hy]))
  simp only [List.map_cons, List.sum_cons, List.length_cons]
  omega
theorem sum_take (l : List Int) (i : Nat) (hi : i < l.length) : (l.take (i + 1)).sum = (l.take i).sum + l[i] := by
 rw [List.take_succ_eq_append_getElem hi, List.sum_append]
 simp only [List.sum_cons, List.sum_nil, Int.add_zero]
def rowMaxS (l : List ApiColumn) : Int := 1 + (l.map fun c => wideS c 1).sum
theorem ref17_RowMax_eq (l : List ApiColumn) (h : l.length ≤ 24) (hc : ∀ c ∈ l, 0 ≤ c.Max ∧ c.Max ≤ 64) : ref17_RowMax l = some (rowMaxS l) := by
 unfold ref17_RowMax
 refine lpA (w := rowMaxS l) (lq1 (fun i => (rowMaxS (l.take i), (i : Int))) l.length (fun i hi => ?_) ?_ rfl) rfl
 ·have b := sum_bound (fun c => wideS c 1) (l := l.take i) (fun c h => wideS_le (hc c (List.mem_of_mem_take h)) (.inl rfl))
  have w := wideS_le (each := 1) (hc _ (List.getElem_mem hi)) (.inl rfl)
  have tl : (l.take i).length ≤ 24 := by simp; omega
  show (bif _ then _ else _) = _
  rw [bif_decT (by omega), getI_at hi, bind_some', ref17_wide_eq _ _ (hc _ (List.getElem_mem hi)) (.inl rfl), bind_some', w64_succ (by omega)]
  have e : rowMaxS (l.take (i + 1)) = rowMaxS (l.take i) + wideS l[i] 1 := by
   unfold rowMaxS
   rw [List.map_take, List.map_take, sum_take _ _ (by simpa using hi)]; simp; omega
  rw [e, w64_id (by unfold rowMaxS; omega) (by unfold rowMaxS; omega)]
 ·show (bif _ then _ else _) = _
  rw [bif_decF (by omega), List.take_length]
def colAt (cols : List ApiColumn) (i : Int) : ApiColumn := (cols[i.toNat]?).getD default
theorem colAt_eq {cols : List ApiColumn} {i : Int} (h : 0 ≤ i ∧ i < cols.length) : getI cols i = some (colAt cols i) := by
 unfold getI colAt
 rw [if_pos h.1]
 have hl : i.toNat < cols.length := by omega
 rw [List.getElem?_eq_getElem hl]; rfl
theorem colAt_mem {cols : List ApiColumn} {i : Int} (h : 0 ≤ i ∧ i < cols.length) : colAt cols i ∈ cols := by
 unfold colAt
 have hl : i.toNat < cols.length := by omega
 rw [List.getElem?_eq_getElem hl]; exact List.getElem_mem hl
def keyMaxS (cols : List ApiColumn) (l : List ApiPart) : Int := (l.map fun p => wideS (colAt cols p.Col) 2).sum
theorem ref17_KeyMax_eq (cols : List ApiColumn) (l : List ApiPart) (h : l.length ≤ 1048576) (hp : ∀ p ∈ l, 0 ≤ p.Col ∧ p.Col < cols.length) (hc : ∀ c ∈ cols, 0 ≤ c.Max ∧ c.Max ≤ 64) : ref17_KeyMax cols l = some (keyMaxS cols l) := by
 unfold ref17_KeyMax
 refine lpA (w := keyMaxS cols l) (lq1 (fun i => (keyMaxS cols (l.take i), (i : Int))) l.length (fun i hi => ?_) ?_ rfl) rfl
 ·have b := sum_bound (fun p : ApiPart => wideS (colAt cols p.Col) 2) (l := l.take i) (fun p h => wideS_le (hc _ (colAt_mem (hp p (List.mem_of_mem_take h)))) (.inr rfl))
  have hq := hp _ (List.getElem_mem hi)
  have w := wideS_le (each := 2) (hc _ (colAt_mem hq)) (.inr rfl)
  have tl : (l.take i).length ≤ 1048576 := by simp; omega
  show (bif _ then _ else _) = _
  rw [bif_decT (by omega), getI_at hi, bind_some', colAt_eq hq, bind_some', ref17_wide_eq _ _ (hc _ (colAt_mem hq)) (.inr rfl), bind_some', w64_succ (by omega)]
  have e : keyMaxS cols (l.take (i + 1)) = keyMaxS cols (l.take i) + wideS (colAt cols l[i].Col) 2 := by
   unfold keyMaxS
   rw [List.map_take, List.map_take, sum_take _ _ (by simpa using hi)]; simp
  rw [e, w64_id (by unfold keyMaxS; omega) (by unfold keyMaxS; omega)]
 ·show (bif _ then _ else _) = _
  rw [bif_decF (by omega), List.take_length]
def indexS (t : ApiTable) (x : ApiIndex) : Int :=
 if x.Parts.length < 1 ∨ x.Parts.length > 4 ∨ placesS t.Cols.length (colsOf x.Parts) = false ∨ placesS t.Cols.length x.Extra = false then 1
 else if (x.Extra.any fun c => hasS (colsOf x.Parts) c || hasS t.Primary c) = true then 1
 else if keyMaxS t.Cols x.Parts > 128 then 7 else 0
theorem parts_in {n : Int} {l : List ApiPart} (h : placesS n (colsOf l) = true) : ∀ p ∈ l, 0 ≤ p.Col ∧ p.Col < n := fun p hp => placesS_in h p.Col (List.mem_map.2 ⟨p, hp, rfl⟩)
theorem ref17_index_eq (t : ApiTable) (x : ApiIndex) (hc : ∀ c ∈ t.Cols, 0 ≤ c.Max ∧ c.Max ≤ 64) (hx : OkX x) (hp : t.Primary.length < 4611686018427387904) : ref17_index t x = some (indexS t x) := by
 unfold ref17_index indexS
 obtain ⟨o1, o2, o3⟩ := hx
 refine bo (a := decide (x.Parts.length < 1 ∨ x.Parts.length > 4 ∨ placesS t.Cols.length (colsOf x.Parts) = false ∨ placesS t.Cols.length x.Extra = false)) ?_ ?_
 ·by_cases h1 : x.Parts.length < 1
  ·rw [bif_decT (by omega), decide_eq_true (.inl h1)]
  rw [bif_decF (by omega)]
  by_cases h2 : x.Parts.length > 4
  ·rw [bif_decT (by omega), decide_eq_true (.inr (.inl h2))]
  rw [bif_decF (by omega), ref17_Cols_eq _ (by omega), bind_some', ref17_places_eq _ _ (by simp [colsOf]; omega), bind_some']
  cases p1 : placesS t.Cols.length (colsOf x.Parts) with
  | false => simp
  | true =>
   rw [Bool.not_true, cond_false, ref17_places_eq _ _ o3, bind_some']
   cases p2 : placesS t.Cols.length x.Extra <;> simp [h1, h2]
 by_cases q : x.Parts.length < 1 ∨ x.Parts.length > 4 ∨ placesS t.Cols.length (colsOf x.Parts) = false ∨ placesS t.Cols.length x.Extra = false
 ·rw [bif_decT q, if_pos q]
 rw [bif_decF q, if_neg q]
 simp only [not_or, Bool.not_eq_false] at q
 refine lpE (lq3 x.Extra (fun c => hasS (colsOf x.Parts) c || hasS t.Primary c) (.inr 1) (.inl ()) (fun i => (i : Int)) (fun i hi => ?_) ?_ rfl) ?_
 ·show (bif _ then _ else _) = _
  rw [bif_decT (by omega), getI_at hi, w64_succ (by omega), ref17_Cols_eq _ (by omega)]
  simp only [bind_some']
  rw [ref17_Has_eq _ _ (by simp [colsOf]; omega), bind_some', ref17_Has_eq _ _ hp]
  cases hasS (colsOf x.Parts) x.Extra[i] <;> cases hasS t.Primary x.Extra[i] <;> rfl
 ·show (bif _ then _ else _) = _
  rw [bif_decF (by omega)]
 ·cases (x.Extra.any fun c => hasS (colsOf x.Parts) c || hasS t.Primary c) with
  | true => rfl
  | false =>
   simp only [Bool.false_eq_true, if_false, Sum.elim_inl]
   rw [ref17_KeyMax_eq _ _ (by omega) (parts_in q.2.2.1) hc, bind_some']
   by_cases k : keyMaxS t.Cols x.Parts > 128
   ·rw [bif_decT k, if_pos k]
   ·rw [bif_decF k, if_neg k]
end Lv
/- Plain laws: which tables are right; a copy. -/
namespace Lv
open Go Go.Proofs
set_option linter.unusedVariables false
set_option linter.unusedSimpArgs false
set_option linter.unusedSectionVars false
set_option maxRecDepth 100000
variable [BaseTab]
def colE (l : List ApiColumn) (i : Nat) (c : ApiColumn) : Option Int := if colS c ≠ 0 then some (colS c) else if ((l.take i).any fun d => d.Name == c.Name) = true then some 6 else none
def idxE (t : ApiTable) (i : Nat) (x : ApiIndex) : Option Int :=
 if nameS x.Name = false then some 1 else if ((t.Indexes.take i).any fun y => y.Name == x.Name) = true then some 6 else if indexS t x ≠ 0 then some (indexS t x) else none
def chkS (t : ApiTable) : Int :=
 if nameS t.Name = false then 1 else if t.Cols.length < 1 ∨ t.Cols.length > 24 then 7 else match firstF (colE t.Cols) 0 t.Cols with
 | some e => e
 | none => if t.Primary.length < 1 ∨ t.Primary.length > 4 ∨ placesS t.Cols.length t.Primary = false then 1
  else if (t.Primary.any fun c => (colAt t.Cols c).Nulls) = true then 1
  else if rowMaxS t.Cols > 512 ∨ keyMaxS t.Cols (upS t.Primary) > 128 ∨ t.Indexes.length > 6 then 7
  else match firstF (idxE t) 0 t.Indexes with
   | some e => e
   | none => 0
theorem up_in {n : Int} {l : List Int} (h : placesS n l = true) : ∀ p ∈ upS l, 0 ≤ p.Col ∧ p.Col < n := by
 intro p hp
 obtain ⟨c, hc, rfl⟩ := List.mem_map.1 hp
 exact placesS_in h c hc
theorem firstF_map {α W V : Type} (f : Nat → α → Option W) (g : W → V) : ∀ (l : List α) (i : Nat), firstF (fun i x => (f i x).map g) i l = (firstF f i l).map g
 | [], i => rfl
 | x :: r, i => by rw [firstF, firstF]; cases f i x <;> simp [firstF_map f g r]
theorem cols_of_none {l : List ApiColumn} (h : firstF (colE l) 0 l = none) : ∀ c ∈ l, colS c = 0 := by
 rw [firstF_none] at h
 intro c hc
 obtain ⟨i, hi, rfl⟩ := List.mem_iff_getElem.1 hc
 have := h i hi
 unfold colE at this
 by_cases q : colS l[i] = 0
 ·exact q
 ·rw [if_pos q] at this; cases this
theorem ref17_Check_eq (t : ApiTable) (h : OkT t) : ref17_Check t = some (chkS t) := by
  unfold ref17_Check chkS
  rw [ref06_Name_eq _ h.name, bind_some']
  cases nameS t.Name with
  | false => rfl
  | true =>
  rw [Bool.not_true, cond_false, if_neg (by simp)]
  refine bo (a := decide (t.Cols.length < 1 ∨ t.Cols.length > 24)) ?_ ?_
  · by_cases k : t.Cols.length < 1
    · rw [bif_decT (by omega)]; simp [k]
    · rw [bif_decF (by omega)]; congr 1; exact decI (by omega)
  by_cases q : t.Cols.length < 1 ∨ t.Cols.length > 24
  · rw [bif_decT q, if_pos q]
  rw [bif_decF q, if_neg q]
  refine lpE (lq5 t.Cols (fun i c => (colE t.Cols i c).map fun e => (.inr e : Unit ⊕ Int)) (.inl ()) (fun i => (i : Int)) (fun i hi => ?_) ?_ rfl) ?_
  · have hm := List.getElem_mem hi
    show (bif _ then _ else _) = _
    rw [bif_decT (by omega), getI_at hi, w64_succ (by omega)]
    unfold colE
    refine (?_ : bindE _ _ _ = _)
    simp only [bind_some']
    rw [ref06_Column_eq _ (h.cols.2 _ hm).1 (h.cols.2 _ hm).2, bind_some']
    by_cases k : colS t.Cols[i] = 0
    rotate_left
    · rw [show (colS t.Cols[i] != 0) = true by simpa using k, cond_true, bindE_r, if_pos k]; rfl
    rw [show (colS t.Cols[i] != 0) = false by simpa using k, cond_false, if_neg (by simpa using k)]
    have tl : (t.Cols.take i).length = i := by simp; omega
    have inner := lq3 (y0 := (0 : Int)) (B := (fun y590 : Int =>
                      bif (decide (y590 < (i : Int))) then
                        Option.bind (getI t.Cols y590) fun v596 =>
                        bif (v596.Name == t.Cols[i].Name) then
                          some (Sum.inr (Sum.inr (6 : Int)))
                        else
                          some (Sum.inl (w64 (y590 + (1 : Int))))
                      else
                        some (Sum.inr (Sum.inl ())))) (t.Cols.take i) (fun d => d.Name == t.Cols[i].Name) (.inr 6) (.inl ()) (fun j => (j : Int)) (fun j hj => by
          show (bif _ then _ else _) = _
          rw [bif_decT (by omega), getI_at (by omega), bind_some', w64_succ (by omega), List.getElem_take]
          cases t.Cols[j].Name == t.Cols[i].Name <;> rfl) (by
          show (bif _ then _ else _) = _
          rw [bif_decF (by omega)]) rfl
    cases ha : ((t.Cols.take i).any fun d => d.Name == t.Cols[i].Name) with
    | true =>
      rw [ha] at inner
      rw [inner]; rfl
    | false =>
      rw [ha] at inner
      rw [inner]; rfl
  · show (bif _ then _ else _) = _
    rw [bif_decF (by omega)]
  rw [firstF_map]
  cases hc : firstF (colE t.Cols) 0 t.Cols with
  | some e => rfl
  | none =>
  have hcol := cols_of_none hc
  have hmax : ∀ c ∈ t.Cols, 0 ≤ c.Max ∧ c.Max ≤ 64 := fun c hm => colS_max (hcol c hm)
  simp only [Option.map_none, Option.getD_none, Sum.elim_inl]
  refine bo (a := decide (t.Primary.length < 1 ∨ t.Primary.length > 4 ∨ placesS t.Cols.length t.Primary = false)) ?_ ?_
  · by_cases k : t.Primary.length < 1
    · rw [bif_decT (by omega)]; simp [k]
    rw [bif_decF (by omega)]
    by_cases k2 : t.Primary.length > 4
    · rw [bif_decT (by omega)]; simp [k2]
    rw [bif_decF (by omega), ref17_places_eq _ _ h.prim, bind_some']
    cases placesS t.Cols.length t.Primary <;> simp [k, k2]
  by_cases q2 : t.Primary.length < 1 ∨ t.Primary.length > 4 ∨ placesS t.Cols.length t.Primary = false
  · rw [bif_decT q2, if_pos q2]
  rw [bif_decF q2, if_neg q2]
  simp only [not_or, Bool.not_eq_false] at q2
  refine lpE (lq3 t.Primary (fun c => (colAt t.Cols c).Nulls) (.inr 1) (.inl ()) (fun i => (i : Int)) (fun i hi => ?_) ?_ rfl) ?_
  · show (bif _ then _ else _) = _
    rw [bif_decT (by omega), getI_at hi, bind_some', colAt_eq (placesS_in q2.2.2 _ (List.getElem_mem hi)), bind_some', w64_succ (by omega)]
    cases (colAt t.Cols t.Primary[i]).Nulls <;> rfl
  · show (bif _ then _ else _) = _
    rw [bif_decF (by omega)]
  cases (t.Primary.any fun c => (colAt t.Cols c).Nulls) with
  | true => rfl
  | false =>
  simp only [Bool.false_eq_true, if_false, Sum.elim_inl]
  refine bo (a := decide (rowMaxS t.Cols > 512 ∨ keyMaxS t.Cols (upS t.Primary) > 128 ∨ t.Indexes.length > 6)) ?_ ?_
  · rw [ref17_RowMax_eq _ (by omega) hmax, bind_some']
    by_cases k : rowMaxS t.Cols > 512
    · rw [bif_decT k]; simp [k]
    rw [bif_decF k, ref17_Up_eq _ (by omega), bind_some', ref17_KeyMax_eq _ _ (by simp [upS]; omega) (up_in q2.2.2) hmax, bind_some']
    by_cases k2 : keyMaxS t.Cols (upS t.Primary) > 128
    · rw [bif_decT k2]; simp [k2]
    rw [bif_decF k2]; congr 1; simp only [k, k2, false_or]; exact decI (by omega)
  by_cases q3 : rowMaxS t.Cols > 512 ∨ keyMaxS t.Cols (upS t.Primary) > 128 ∨ t.Indexes.length > 6
  · rw [bif_decT q3, if_pos q3]
  rw [bif_decF q3, if_neg q3]
  refine lpE (lq5 t.Indexes (fun i x => (idxE t i x).map fun e => (.inr e : Unit ⊕ Int)) (.inl ()) (fun i => (i : Int)) (fun i hi => ?_) ?_ rfl) ?_
  · have hm := List.getElem_mem hi
    show (bif _ then _ else _) = _
    rw [bif_decT (by omega), getI_at hi, w64_succ (by omega)]
    unfold idxE
    refine (?_ : bindE _ _ _ = _)
    simp only [bind_some']
    rw [ref06_Name_eq _ (h.idx _ hm).1, bind_some']
    cases hn : nameS t.Indexes[i].Name with
    | false => rfl
    | true =>
    rw [Bool.not_true, cond_false, if_neg (by simp)]
    have tl : (t.Indexes.take i).length = i := by simp; omega
    have inner := lq3 (y0 := (0 : Int)) (B := (fun y874 : Int =>
                                    bif (decide (y874 < (i : Int))) then
                                      Option.bind (getI t.Indexes y874) fun v879 =>
                                      bif (v879.Name == t.Indexes[i].Name) then
                                        some (Sum.inr (Sum.inr (6 : Int)))
                                      else
                                        some (Sum.inl (w64 (y874 + (1 : Int))))
                                    else
                                      some (Sum.inr (Sum.inl ())))) (t.Indexes.take i) (fun d => d.Name == t.Indexes[i].Name) (.inr 6) (.inl ()) (fun j => (j : Int)) (fun j hj => by
          show (bif _ then _ else _) = _
          rw [bif_decT (by omega), getI_at (by omega), bind_some', w64_succ (by omega), List.getElem_take]
          cases t.Indexes[j].Name == t.Indexes[i].Name <;> rfl) (by
          show (bif _ then _ else _) = _
          rw [bif_decF (by omega)]) rfl
    rw [inner]
    cases ha : ((t.Indexes.take i).any fun d => d.Name == t.Indexes[i].Name) with
    | true => rfl
    | false =>
      simp only [Bool.false_eq_true, if_false]
      rw [ref17_index_eq t _ hmax (h.idx _ hm) h.prim]
      by_cases k : indexS t t.Indexes[i] = 0
      · rw [k]; rfl
      · rw [if_pos k]
        refine beE (x := indexS t t.Indexes[i]) ?_ rfl
        refine beY (y := ()) rfl ?_
        rw [bind_some', show (indexS t t.Indexes[i] != 0) = true by simpa using k]; rfl
  · show (bif _ then _ else _) = _
    rw [bif_decF (by omega)]
  rw [firstF_map]
  cases firstF (idxE t) 0 t.Indexes <;> rfl
structure Right (t : ApiTable) : Prop where
 len : 1 ≤ t.Cols.length ∧ t.Cols.length ≤ 24
 col : ∀ c ∈ t.Cols, colS c = 0
 pri : 1 ≤ t.Primary.length ∧ t.Primary.length ≤ 4
 pla : placesS t.Cols.length t.Primary = true
 row : rowMaxS t.Cols ≤ 512
 key : keyMaxS t.Cols (upS t.Primary) ≤ 128
 ixs : t.Indexes.length ≤ 6
 idx : ∀ x ∈ t.Indexes, indexS t x = 0
theorem Right.of {t : ApiTable} (h : chkS t = 0) : Right t := by
 unfold chkS at h
 by_cases h1 : nameS t.Name = false
 ·rw [if_pos h1] at h; cases h
 rw [if_neg h1] at h
 by_cases h2 : t.Cols.length < 1 ∨ t.Cols.length > 24
 ·rw [if_pos h2] at h; cases h
 rw [if_neg h2] at h
 cases h3 : firstF (colE t.Cols) 0 t.Cols with
 | some e =>
  rw [h3] at h
  exfalso
  have : ∀ (l : List ApiColumn) (i : Nat) (e : Int), firstF (colE t.Cols) i l = some e → e ≠ 0 := by
   intro l
   induction l with
   | nil => intro i e h; cases h
   | cons x r ih =>
    intro i e h
    rw [firstF] at h
    cases hx : colE t.Cols i x with
    | none => rw [hx] at h; exact ih _ _ h
    | some e' =>
     rw [hx] at h
     cases h
     unfold colE at hx
     by_cases q : colS x = 0
     ·rw [if_neg (by simpa using q)] at hx
      by_cases q2 : ((t.Cols.take i).any fun d => d.Name == x.Name) = true
      ·rw [if_pos q2] at hx; cases hx; decide
      ·rw [if_neg q2] at hx; cases hx
     ·rw [if_pos q] at hx; cases hx; exact q
  exact this _ _ _ h3 h
 | none =>
 rw [h3] at h
 simp only at h
 by_cases h4 : t.Primary.length < 1 ∨ t.Primary.length > 4 ∨ placesS t.Cols.length t.Primary = false
 ·rw [if_pos h4] at h; cases h
 rw [if_neg h4] at h
 by_cases h5 : (t.Primary.any fun c => (colAt t.Cols c).Nulls) = true
 ·rw [if_pos h5] at h; cases h
 rw [if_neg h5] at h
 by_cases h6 : rowMaxS t.Cols > 512 ∨ keyMaxS t.Cols (upS t.Primary) > 128 ∨ t.Indexes.length > 6
 ·rw [if_pos h6] at h; cases h
 rw [if_neg h6] at h
 simp only [not_or, Bool.not_eq_false] at h2 h4 h6
 refine ⟨by omega, cols_of_none h3, by omega, h4.2.2, by omega, by omega, by omega, fun x hx => ?_⟩
 obtain ⟨i, hi, rfl⟩ := List.mem_iff_getElem.1 hx
 cases h7 : firstF (idxE t) 0 t.Indexes with
 | none =>
  rw [firstF_none] at h7
  have := h7 i hi
  unfold idxE at this
  by_cases q : nameS t.Indexes[i].Name = false
  ·rw [if_pos q] at this; cases this
  rw [if_neg q] at this
  by_cases q2 : ((t.Indexes.take (0 + i)).any fun y => y.Name == t.Indexes[i].Name) = true
  ·rw [if_pos q2] at this; cases this
  rw [if_neg q2] at this
  by_cases q3 : indexS t t.Indexes[i] = 0
  ·exact q3
  ·rw [if_pos q3] at this; cases this
 | some e =>
  rw [h7] at h
  exfalso
  have : ∀ (l : List ApiIndex) (i : Nat) (e : Int), firstF (idxE t) i l = some e → e ≠ 0 := by
   intro l
   induction l with
   | nil => intro i e h; cases h
   | cons x r ih =>
    intro i e h
    rw [firstF] at h
    cases hx : idxE t i x with
    | none => rw [hx] at h; exact ih _ _ h
    | some e' =>
     rw [hx] at h
     cases h
     unfold idxE at hx
     by_cases q : nameS x.Name = false
     ·rw [if_pos q] at hx; cases hx; decide
     rw [if_neg q] at hx
     by_cases q2 : ((t.Indexes.take i).any fun y => y.Name == x.Name) = true
     ·rw [if_pos q2] at hx; cases hx; decide
     rw [if_neg q2] at hx
     by_cases q3 : indexS t x = 0
     ·rw [if_neg (by simpa using q3)] at hx; cases hx
     ·rw [if_pos q3] at hx; cases hx; exact q3
  exact this _ _ _ h7 h
structure RightX (t : ApiTable) (x : ApiIndex) : Prop where
 par : 1 ≤ x.Parts.length ∧ x.Parts.length ≤ 4
 pla : placesS t.Cols.length (colsOf x.Parts) = true
 ext : placesS t.Cols.length x.Extra = true
 key : keyMaxS t.Cols x.Parts ≤ 128
theorem RightX.of {t : ApiTable} {x : ApiIndex} (h : indexS t x = 0) : RightX t x := by
 unfold indexS at h
 by_cases h1 : x.Parts.length < 1 ∨ x.Parts.length > 4 ∨ placesS t.Cols.length (colsOf x.Parts) = false ∨ placesS t.Cols.length x.Extra = false
 ·rw [if_pos h1] at h; cases h
 rw [if_neg h1] at h
 by_cases h2 : (x.Extra.any fun c => hasS (colsOf x.Parts) c || hasS t.Primary c) = true
 ·rw [if_pos h2] at h; cases h
 rw [if_neg h2] at h
 by_cases h3 : keyMaxS t.Cols x.Parts > 128
 ·rw [if_pos h3] at h; cases h
 simp only [not_or, Bool.not_eq_false] at h1
 exact ⟨by omega, h1.2.2.1, h1.2.2.2, by omega⟩
theorem nd_len : ∀ (n : Nat) (l : List Nat), l.Nodup → (∀ x ∈ l, x < n) → l.length ≤ n
 | 0, [], _, _ => by simp
 | 0, x :: l, _, h => absurd (h x (by simp)) (by omega)
 | n + 1, l, hd, h => by
  have h1 := nd_len n (l.erase n) (hd.erase n) (fun x hx => by
   have := (List.Nodup.mem_erase_iff hd).1 hx
   have := h x this.2
   omega)
  have := List.length_erase (a := n) (l := l)
  split at this <;> omega
theorem nodup_len {n : Nat} {l : List Int} (h : placesS n l = true) : l.length ≤ n := by
 have h1 := placesS_in h
 have h2 := placesS_nodup h
 have h3 : (l.map Int.toNat).Nodup := by
  show List.Pairwise (· ≠ ·) _
  rw [List.pairwise_map]
  refine List.Pairwise.imp_of_mem ?_ h2
  intro a b ha hb hab e
  have := h1 a ha; have := h1 b hb
  omega
 have h4 : ∀ x ∈ l.map Int.toNat, x < n := by
  intro x hx
  obtain ⟨c, hc, rfl⟩ := List.mem_map.1 hx
  have := h1 c hc; omega
 have := nd_len n _ h3 h4
 simpa using this
end Lv
/- Plain laws: the keys and entries of a table's rows. -/
namespace Lv
open Go Go.Proofs
set_option linter.unusedVariables false
set_option linter.unusedSimpArgs false
set_option linter.unusedSectionVars false
set_option maxRecDepth 100000
variable [BaseTab]
theorem fitS_ok {c : ApiColumn} {v : ApiValue} (h : fitS c v = 0) : val v = true ∧ (v.Kind = 0 ∨ v.Kind = c.Kind) ∧ ((v.Kind = 4 ∨ v.Kind = 5) → (v.S.length : Int) ≤ c.Max) := by
 unfold fitS at h
 by_cases h1 : val v = false
 ·rw [if_pos h1] at h; cases h
 rw [if_neg h1] at h
 have hv : val v = true := by simpa using h1
 by_cases h2 : v.Kind = 0
 ·exact ⟨hv, .inl h2, fun k => by omega⟩
 rw [if_neg h2] at h
 by_cases h3 : v.Kind ≠ c.Kind
 ·rw [if_pos h3] at h; cases h
 rw [if_neg h3] at h
 by_cases h4 : (v.Kind = 4 ∨ v.Kind = 5) ∧ (v.S.length : Int) > c.Max
 ·rw [if_pos h4] at h; cases h
 exact ⟨hv, .inr (by simpa using h3), fun k => by
  rcases Int.lt_or_le c.Max v.S.length with q | q
  ·exact absurd ⟨k, q⟩ h4
  ·exact q⟩
theorem valKind {v : ApiValue} (h : val v = true) : 0 ≤ v.Kind ∧ v.Kind ≤ 5 := by
 unfold val at h
 simp only [Bool.or_eq_true, Bool.and_eq_true, beq_iff_eq, decide_eq_true_eq] at h
 omega
structure Fit (cols : List ApiColumn) (l : List ApiValue) : Prop where
 rc : colsS cols = true
 len : l.length = cols.length
 fit : ∀ i (h1 : i < cols.length) (h2 : i < l.length), fitS cols[i] l[i] = 0
theorem Fit.of {cols : List ApiColumn} {l : List ApiValue} (h : fitsS cols l = 0) : Fit cols l := by
 unfold fitsS at h
 by_cases q : colsS cols = false ∨ l.length ≠ cols.length
 ·rw [if_pos q] at h; cases h
 rw [if_neg q] at h
 simp only [not_or, Bool.not_eq_false, ne_eq, Decidable.not_not] at q
 refine ⟨q.1, q.2, fun i h1 h2 => ?_⟩
 have hn : (cols.zip l).findSome? fitE = none := by
  cases hf : (cols.zip l).findSome? fitE with
  | none => rfl
  | some e =>
   rw [hf] at h
   exfalso
   obtain ⟨p, _, hp⟩ := List.exists_of_findSome?_eq_some hf
   unfold fitE at hp
   by_cases k : fitS p.1 p.2 = 0
   ·rw [if_pos k] at hp; cases hp
   ·rw [if_neg k] at hp; cases hp; exact k h
 rw [List.findSome?_eq_none_iff] at hn
 have := hn (cols[i], l[i]) (List.mem_iff_getElem.2 ⟨i, by simp; omega, by rw [List.getElem_zip]⟩)
 unfold fitE at this
 by_cases k : fitS cols[i] l[i] = 0
 ·exact k
 ·rw [if_neg k] at this; cases this
theorem Fit.to {cols : List ApiColumn} {l : List ApiValue} (h : Fit cols l) : fitsS cols l = 0 := by
 unfold fitsS
 rw [if_neg (by rw [h.rc, h.len]; simp)]
 have hn : (cols.zip l).findSome? fitE = none := by
  rw [List.findSome?_eq_none_iff]
  intro p hp
  obtain ⟨i, hi, rfl⟩ := List.mem_iff_getElem.1 hp
  have hi' : i < cols.length ∧ i < l.length := by have := hi; simp at this; omega
  rw [List.getElem_zip]
  unfold fitE
  rw [if_pos (h.fit i hi'.1 hi'.2)]
 rw [hn]; rfl
theorem Fit.num {cols : List ApiColumn} {l : List ApiValue} (h : Fit cols l) : 1 ≤ cols.length ∧ cols.length ≤ 24 ∧ ∀ c ∈ cols, colS c = 0 := by
 have := h.rc
 unfold colsS at this
 simp only [Bool.and_eq_true, decide_eq_true_eq, List.all_eq_true, beq_iff_eq] at this
 exact ⟨this.1.1, this.1.2, this.2⟩
theorem Fit.val {cols : List ApiColumn} {l : List ApiValue} (h : Fit cols l) : ∀ v ∈ l, val v = true := by
 intro v hv
 obtain ⟨i, hi, rfl⟩ := List.mem_iff_getElem.1 hv
 exact (fitS_ok (h.fit i (by rw [← h.len]; exact hi) hi)).1
theorem Fit.short {cols : List ApiColumn} {l : List ApiValue} (h : Fit cols l) : ∀ v ∈ l, v.S.length ≤ 64 := fun v hv => val_short (h.val v hv)
def vAt (l : List ApiValue) (i : Int) : ApiValue := (l[i.toNat]?).getD default
theorem vAt_eq {l : List ApiValue} {i : Int} (h : 0 ≤ i ∧ i < l.length) : getI l i = some (vAt l i) := by
 unfold getI vAt
 rw [if_pos h.1]
 have hl : i.toNat < l.length := by omega
 rw [List.getElem?_eq_getElem hl]; rfl
theorem vAt_mem {l : List ApiValue} {i : Int} (h : 0 ≤ i ∧ i < l.length) : vAt l i ∈ l := by
 unfold vAt
 have hl : i.toNat < l.length := by omega
 rw [List.getElem?_eq_getElem hl]; exact List.getElem_mem hl
theorem Fit.at {cols : List ApiColumn} {l : List ApiValue} (h : Fit cols l) {i : Int} (hi : 0 ≤ i ∧ i < cols.length) : fitS (colAt cols i) (vAt l i) = 0 := by
 unfold colAt vAt
 have h1 : i.toNat < cols.length := by omega
 have h2 : i.toNat < l.length := by rw [h.len]; exact h1
 rw [List.getElem?_eq_getElem h1, List.getElem?_eq_getElem h2]
 exact h.fit _ h1 h2
def partV (l : List ApiValue) (ps : List ApiPart) : List ApiValue := ps.map fun p => vAt l p.Col
def downs (ps : List ApiPart) : List Bool := ps.map (·.Down)
def nullS (l : List ApiValue) (ps : List ApiPart) : Bool := ps.any fun p => (vAt l p.Col).Kind == 0
def keyS (l : List ApiValue) (ps : List ApiPart) : List UInt8 := encL (partV l ps) (downs ps)
theorem enc_wide {c : ApiColumn} {v : ApiValue} (hc : colS c = 0) (h : fitS c v = 0) : ((enc v).length : Int) ≤ wideS c 2 ∧ ((putS v).length : Int) ≤ wideS c 1 := by
 obtain ⟨h1, h2, h3⟩ := fitS_ok h
 obtain ⟨_, k1, k2, km, _⟩ := colS_ok hc
 have he := esc_len v.S
 have hk := valKind h1
 have hm0 := colS_max hc
 rcases h2 with h0 | hkc
 ·have e1 : enc v = [0] := by unfold enc body; simp [h0]
  have e2 : putS v = [1] := by unfold putS; simp [h0]
  rw [e1, e2]
  unfold wideS
  simp only [List.length_cons, List.length_nil]
  by_cases q : c.Kind = 1 ∨ c.Kind = 2
  ·rw [if_pos q, if_pos q]; omega
  rw [if_neg q, if_neg q]
  by_cases q3 : c.Kind = 3
  ·rw [if_pos q3, if_pos q3]; omega
  ·rw [if_neg q3, if_neg q3]; omega
 ·have wide : ∀ each, wideS c each = if v.Kind = 1 ∨ v.Kind = 2 then 9 else if v.Kind = 3 then 2 else 3 + each * c.Max := by intro each; unfold wideS; rw [hkc]
  rw [wide, wide]
  by_cases q1 : v.Kind = 1
  ·simp [enc, body, putS, q1, bytesN_len]
  by_cases q2 : v.Kind = 2
  ·simp [enc, body, putS, q2, bytesN_len]
  by_cases q3 : v.Kind = 3
  ·simp [enc, body, putS, q3, bytesN_len]
  have q4 : v.Kind = 4 ∨ v.Kind = 5 := by omega
  have hm := h3 q4
  have e1 : enc v = 1 :: (esc v.S ++ [0, 0]) := by unfold enc body; rcases q4 with k | k <;> simp [k]
  have e2 : putS v = 0 :: (bytesN (u64i v.S.length) 2 ++ v.S) := by unfold putS; rcases q4 with k | k <;> simp [k]
  rw [e1, e2, if_neg (show ¬ (v.Kind = 1 ∨ v.Kind = 2) by omega), if_neg q3, if_neg (show ¬ (v.Kind = 1 ∨ v.Kind = 2) by omega), if_neg q3]
  simp only [List.length_cons, List.length_append, bytesN_len, List.length_nil]
  omega
theorem keyS_len {cols : List ApiColumn} {l : List ApiValue} (h : Fit cols l) : ∀ {ps : List ApiPart}, (∀ p ∈ ps, 0 ≤ p.Col ∧ p.Col < cols.length) → ((keyS l ps).length : Int) ≤ keyMaxS cols ps
 | [], _ => by simp [keyS, partV, downs, encL, keyMaxS]
 | p :: ps, hp => by
  have h1 := keyS_len h (ps := ps) (fun q hq => hp q (by simp [hq]))
  have hq := hp p (by simp)
  have h2 := (enc_wide (h.num.2.2 _ (colAt_mem hq)) (h.at hq)).1
  unfold keyS partV downs keyMaxS at h1 ⊢
  simp only [List.map_cons, encL, List.sum_cons, List.length_append, turn_len]
  omega
theorem nobad {cols : List ApiColumn} {l : List ApiValue} (h : Fit cols l) {ps : List ApiPart} (hp : ∀ p ∈ ps, 0 ≤ p.Col ∧ p.Col < cols.length) : (partV l ps).any bad = false := by
 rw [List.any_eq_false]
 intro v hv
 obtain ⟨p, hm, rfl⟩ := List.mem_map.1 hv
 have := h.val _ (vAt_mem (l := l) (by have := hp p hm; rw [h.len]; exact this))
 simp [bad, this]
theorem nullS_take (l : List ApiValue) (ps : List ApiPart) (i : Nat) (hi : i < ps.length) : nullS l (ps.take (i + 1)) = (nullS l (ps.take i) || (vAt l ps[i].Col).Kind == 0) := by
 unfold nullS
 rw [List.take_succ_eq_append_getElem hi, List.any_append]; simp
theorem schema_keyed_eq (t : ApiTable) (ps : List ApiPart) (l : List ApiValue) (hc : OkCs t.Cols) (hv : OkVs l) (hn : ps.length ≤ 1048576) (hp : ∀ p ∈ ps, 0 ≤ p.Col ∧ p.Col < t.Cols.length) (hk : keyMaxS t.Cols ps ≤ 256) :
  schema_keyed t ps l = some (if fitsS t.Cols l ≠ 0 then ([], false, fitsS t.Cols l) else (keyS l ps, nullS l ps, 0)) := by
 unfold schema_keyed
 rw [row_Fits_eq _ _ hc hv, bind_some']
 by_cases q : fitsS t.Cols l = 0
 rotate_left
 ·rw [show (fitsS t.Cols l != 0) = true by simpa using q, cond_true, if_pos q]
 rw [show (fitsS t.Cols l != 0) = false by simpa using q, cond_false, if_neg (by simpa using q)]
 have hf := Fit.of q
 refine lpA (w := (partV l ps, downs ps, nullS l ps)) (lq1 (fun i => (partV l (ps.take i), downs (ps.take i), nullS l (ps.take i), (i : Int))) ps.length (fun i hi => ?_) ?_ rfl) ?_
 ·have hq := hp _ (List.getElem_mem hi)
  have hq' : 0 ≤ ps[i].Col ∧ ps[i].Col < l.length := by rw [hf.len]; exact hq
  show (bif _ then _ else _) = _
  rw [bif_decT (by omega), getI_at hi, bind_some', vAt_eq hq', bind_some', bif_decT (by rw [room_val]; simp [partV]; omega), bif_decT (by rw [room_val]; simp [downs]; omega), w64_succ (by omega), nullS_take l ps i hi,
   show partV l (ps.take (i + 1)) = _ from map_ts _ ps hi, show downs (ps.take (i + 1)) = _ from map_ts _ ps hi]
  cases nullS l (ps.take i) <;> rfl
 ·show (bif _ then _ else _) = _
  rw [bif_decF (by omega), List.take_length]
 ·have hb := nobad hf hp
  have hl := keyS_len hf hp
  have sm : Sm (partV l ps) := ⟨by simp [partV]; omega, fun v hv => by
   obtain ⟨p, hm, rfl⟩ := List.mem_map.1 hv
   have := hf.short _ (vAt_mem (l := l) (by have := hp p hm; rw [hf.len]; exact this))
   omega⟩
  show Option.bind (key_Encode (partV l ps) (downs ps)) _ = _
  rw [key_Encode_eq _ _ sm]
  unfold encS
  rw [if_pos (by simp [partV, downs]), hb, if_neg (by simp), if_neg (by unfold keyS at hl; omega)]
  rfl
theorem schema_Primary_eq (t : ApiTable) (l : List ApiValue) (hc : OkCs t.Cols) (hv : OkVs l) (r : Right t) : schema_Primary t l = some (if fitsS t.Cols l ≠ 0 then ([], fitsS t.Cols l) else (keyS l (upS t.Primary), 0)) := by
 unfold schema_Primary
 rw [schema_up_eq _ (by have := r.pri; omega), bind_some', schema_keyed_eq t _ l hc hv (by have := r.pri; simp [upS]; omega) (up_in r.pla) (by have := r.key; omega), bind_some']
 by_cases q : fitsS t.Cols l = 0
 ·rw [if_neg (by simpa using q), if_neg (by simpa using q)]
 ·rw [if_pos q, if_pos q]
theorem schema_Front_eq (t : ApiTable) (x : ApiIndex) (l : List ApiValue) (hc : OkCs t.Cols) (hv : OkVs l) (r : RightX t x) : schema_Front t x l = some (if fitsS t.Cols l ≠ 0 then ([], false, fitsS t.Cols l) else (keyS l x.Parts, nullS l x.Parts, 0)) := by
 unfold schema_Front
 rw [schema_keyed_eq t _ l hc hv (by have := r.par; omega) (parts_in r.pla) (by have := r.key; omega), bind_some']
def extV (l : List ApiValue) (cs : List Int) : List ApiValue := cs.map (vAt l)
def extC (cols : List ApiColumn) (cs : List Int) : List ApiColumn := cs.map (colAt cols)
theorem schema_extras_eq (t : ApiTable) (x : ApiIndex) (h : x.Extra.length ≤ 1048576) (hp : ∀ c ∈ x.Extra, 0 ≤ c ∧ c < t.Cols.length) : schema_extras t x = some (extC t.Cols x.Extra) := by
 unfold schema_extras
 refine lpA (w := extC t.Cols x.Extra) (lq1 (fun i => (extC t.Cols (x.Extra.take i), (i : Int))) x.Extra.length (fun i hi => ?_) ?_ rfl) rfl
 ·show (bif _ then _ else _) = _
  rw [bif_decT (by omega), getI_at hi, bind_some', colAt_eq (hp _ (List.getElem_mem hi)), bind_some', bif_decT (by rw [room_val]; simp [extC]; omega), w64_succ (by omega), show extC t.Cols (x.Extra.take (i + 1)) = _ from map_ts _ _ hi]
  rfl
 ·show (bif _ then _ else _) = _
  rw [bif_decF (by omega), List.take_length]
theorem ext_fit {cols : List ApiColumn} {l : List ApiValue} (h : Fit cols l) {cs : List Int} (hp : ∀ c ∈ cs, 0 ≤ c ∧ c < cols.length) (h1 : 1 ≤ cs.length) (h24 : cs.length ≤ 24) : Fit (extC cols cs) (extV l cs) := by
 refine ⟨?_, by simp [extV, extC], fun i k1 k2 => ?_⟩
 ·unfold colsS
  rw [decide_eq_true (by simp [extC]; omega), Bool.true_and, List.all_eq_true]
  intro c hc
  obtain ⟨j, hj, rfl⟩ := List.mem_map.1 hc
  simpa using h.num.2.2 _ (colAt_mem (hp j hj))
 ·simp only [extC, extV, List.getElem_map]
  exact h.at (hp _ (List.getElem_mem _))
theorem sum_nd (f : Nat → Int) (hf : ∀ i, 0 ≤ f i) : ∀ (n : Nat) (l : List Nat), l.Nodup → (∀ x ∈ l, x < n) → (l.map f).sum ≤ ((List.range n).map f).sum
 | 0, [], _, _ => by simp
 | 0, x :: l, _, h => absurd (h x (by simp)) (by omega)
 | n + 1, l, hd, h => by
  have h1 := sum_nd f hf n (l.erase n) (hd.erase n) (fun x hx => by
   have := (List.Nodup.mem_erase_iff hd).1 hx
   have := h x this.2
   omega)
  have e : (l.map f).sum ≤ ((l.erase n).map f).sum + f n := by
   clear h1 h hd
   induction l with
   | nil => have := hf n; simp; omega
   | cons x r ih =>
    rw [List.erase_cons]
    by_cases q : x = n
    ·subst q; simp; omega
    ·rw [if_neg (by simpa using q)]
     simp only [List.map_cons, List.sum_cons]
     omega
  rw [List.range_succ, List.map_append, List.sum_append]
  simp only [List.map_cons, List.map_nil, List.sum_cons, List.sum_nil]
  omega
theorem rowS_len {cols : List ApiColumn} {l : List ApiValue} (h : Fit cols l) : ((rowS l).length : Int) ≤ rowMaxS cols := by
 have key : ∀ (cs : List ApiColumn) (vs : List ApiValue), cs.length = vs.length → (∀ i (h1 : i < cs.length) (h2 : i < vs.length), colS cs[i] = 0 ∧ fitS cs[i] vs[i] = 0) → (((vs.map putS).flatten.length : Nat) : Int) ≤ (cs.map fun c => wideS c 1).sum := by
  intro cs
  induction cs with
  | nil => intro vs hl _; cases vs <;> simp at hl ⊢
  | cons c cs ih =>
   intro vs hl hh
   cases vs with
   | nil => simp at hl
   | cons v vs =>
    have h0 := hh 0 (by simp) (by simp)
    have h1 := ih vs (by simpa using hl) (fun i k1 k2 => by have := hh (i + 1) (by simpa using k1) (by simpa using k2); simpa using this)
    have h2 := (enc_wide h0.1 h0.2).2
    simp only [List.getElem_cons_zero] at h2
    simp only [List.map_cons, List.flatten_cons, List.sum_cons, List.length_append]
    omega
 have := key cols l h.len.symm (fun i k1 k2 => ⟨h.num.2.2 _ (List.getElem_mem _), h.fit i k1 k2⟩)
 unfold rowS rowMaxS
 rw [List.length_append, bytesN_len]
 omega
theorem ext_rowMax {cols : List ApiColumn} (hc : ∀ c ∈ cols, colS c = 0) {cs : List Int} (h : placesS cols.length cs = true) : rowMaxS (extC cols cs) ≤ rowMaxS cols := by
 have h1 := placesS_in h
 have h2 := placesS_nodup h
 have h3 : (cs.map Int.toNat).Nodup := by
  show List.Pairwise (· ≠ ·) _
  rw [List.pairwise_map]
  refine List.Pairwise.imp_of_mem ?_ h2
  intro a b ha hb hab e
  have := h1 a ha; have := h1 b hb
  omega
 have h4 : ∀ x ∈ cs.map Int.toNat, x < cols.length := by
  intro x hx
  obtain ⟨c, hc, rfl⟩ := List.mem_map.1 hx
  have := h1 c hc; omega
 have h5 := sum_nd (fun i => if h : i < cols.length then wideS cols[i] 1 else 0) (fun i => by
  split
  ·rename_i hi; exact (wideS_le (colS_max (hc _ (List.getElem_mem hi))) (.inl rfl)).1
  ·exact Int.le_refl 0) cols.length _ h3 h4
 unfold rowMaxS
 have e1 : (cs.map Int.toNat).map (fun i => if h : i < cols.length then wideS cols[i] 1 else 0) = (extC cols cs).map fun c => wideS c 1 := by
  unfold extC
  rw [List.map_map, List.map_map]
  refine List.map_congr_left fun c hm => ?_
  have := h1 c hm
  have hl : c.toNat < cols.length := by omega
  simp only [Function.comp, hl, dite_true, colAt, List.getElem?_eq_getElem hl]
  rfl
 have e2 : (List.range cols.length).map (fun i => if h : i < cols.length then wideS cols[i] 1 else 0) = cols.map fun c => wideS c 1 := by
  apply List.ext_getElem
  ·simp
  ·intro i k1 k2
   have hi : i < cols.length := by simpa using k1
   simp [hi]
 rw [e1, e2] at h5
 omega
def entS (t : ApiTable) (x : ApiIndex) (l : List ApiValue) : ApiPair := ⟨keyS l x.Parts ++ keyS l (upS t.Primary), if x.Extra = [] then [] else rowS (extV l x.Extra)⟩
theorem ok_ext {cols : List ApiColumn} (h : OkCs cols) {cs : List Int} (hp : ∀ c ∈ cs, 0 ≤ c ∧ c < cols.length) (h24 : cs.length ≤ 24) : OkCs (extC cols cs) := ⟨by simp [extC]; omega, fun c hc => by
 obtain ⟨j, hj, rfl⟩ := List.mem_map.1 hc
 exact h.2 _ (colAt_mem (hp j hj))⟩
theorem ok_extV {l : List ApiValue} (h : OkVs l) {cs : List Int} (hp : ∀ c ∈ cs, 0 ≤ c ∧ c < l.length) (h24 : cs.length ≤ 24) : OkVs (extV l cs) := ⟨by simp [extV]; omega, fun c hc => by
 obtain ⟨j, hj, rfl⟩ := List.mem_map.1 hc
 exact h.2 _ (vAt_mem (hp j hj))⟩
theorem schema_Entry_eq (t : ApiTable) (x : ApiIndex) (l : List ApiValue) (hc : OkCs t.Cols) (hv : OkVs l) (r : Right t) (rx : RightX t x) : schema_Entry t x l = some (if fitsS t.Cols l ≠ 0 then (fitsS t.Cols l, ⟨[], []⟩) else (0, entS t x l)) := by
 unfold schema_Entry
 rw [schema_Front_eq t x l hc hv rx]
 by_cases q : fitsS t.Cols l = 0
 rotate_left
 ·rw [if_pos q, if_pos q, bind_some']
  show (bif (fitsS t.Cols l != 0) then _ else _) = _
  rw [show (fitsS t.Cols l != 0) = true by simpa using q, cond_true]
 rw [if_neg (by simpa using q), if_neg (by simpa using q), bind_some']
 show (bif ((0 : Int) != 0) then _ else Option.bind (schema_Primary t l) _) = _
 rw [show ((0 : Int) != 0) = false from rfl, cond_false, schema_Primary_eq t l hc hv r, if_neg (by simpa using q), bind_some']
 have hf := Fit.of q
 have l1 := keyS_len hf (parts_in rx.pla)
 have l2 := keyS_len hf (up_in r.pla)
 have k1 := rx.key
 have k2 := r.key
 show (bif decide ((keyS l x.Parts).length + (keyS l (upS t.Primary)).length ≤ 9223372036854775807) then _ else _) = _
 rw [bif_decT (by omega)]
 have e24 := nodup_len rx.ext
 have hlen := r.len
 have hin := placesS_in rx.ext
 have hin' : ∀ c ∈ x.Extra, 0 ≤ c ∧ c < l.length := fun c h => by rw [hf.len]; exact hin c h
 refine bo (a := (0, entS t x l)) ?_ rfl
 by_cases he : x.Extra = []
 ·rw [bif_decF (by rw [he]; simp)]
  unfold entS
  rw [if_pos he]
 have hpos : 1 ≤ x.Extra.length := by
  cases hx : x.Extra with
  | nil => exact absurd hx he
  | cons a b => simp
 rw [bif_decT (by omega)]
 refine lpA (w := extV l x.Extra) (lq1 (fun i => (extV l (x.Extra.take i), (i : Int))) x.Extra.length (fun i hi => ?_) ?_ rfl) ?_
 ·show (bif _ then _ else _) = _
  rw [bif_decT (by omega), getI_at hi, bind_some', vAt_eq (hin' _ (List.getElem_mem hi)), bind_some', bif_decT (by rw [room_val]; simp [extV]; omega), w64_succ (by omega), show extV l (x.Extra.take (i + 1)) = _ from map_ts _ _ hi]
  rfl
 ·show (bif _ then _ else _) = _
  rw [bif_decF (by omega), List.take_length]
 ·have ef := ext_fit hf hin hpos (by omega)
  have eq := ef.to
  have er := rowS_len ef
  have em := ext_rowMax r.col rx.ext
  have rr := r.row
  rw [schema_extras_eq t x (by omega) hin, bind_some', row_Encode_eq _ _ (ok_ext hc hin (by omega)) (ok_extV hv hin' (by omega)) (fun _ => ef.short) (fun _ => by simp [extV]; omega), if_neg (by simpa using eq), if_neg (by omega), bind_some']
  unfold entS
  rw [if_neg he]
end Lv
/- Plain laws: what a change of a row asks of its table's trees. -/
namespace Lv
open Go Go.Proofs
set_option linter.unusedVariables false
set_option linter.unusedSimpArgs false
set_option linter.unusedSectionVars false
set_option maxRecDepth 100000
variable [BaseTab]
end Lv
/- Plain laws: a change of a row, by the program. -/
namespace Lv
open Go Go.Proofs
set_option linter.unusedVariables false
set_option linter.unusedSimpArgs false
set_option linter.unusedSectionVars false
set_option maxRecDepth 100000
variable [BaseTab]
end Lv
/- Plain laws: a change of a row, by the reference. -/
namespace Lv
open Go Go.Proofs
set_option linter.unusedVariables false
set_option linter.unusedSimpArgs false
set_option linter.unusedSectionVars false
set_option maxRecDepth 100000
variable [BaseTab]
end Lv
/- Plain laws: the same tables, the same work; the law FanChanges. -/
namespace Lv
open Go Go.Proofs
set_option linter.unusedVariables false
set_option linter.unusedSimpArgs false
set_option linter.unusedSectionVars false
set_option maxRecDepth 100000
variable [BaseTab]
theorem eqlp {α : Type} [DecidableEq α] (a b : List α) (eq : α → α → Bool) (heq : ∀ x y, eq x y = decide (x = y)) (hl : a.length = b.length) {B : Int → Option (Int ⊕ (Unit ⊕ Bool))}
  (h : ∀ i (h1 : i < a.length) (h2 : i < b.length), B (i : Int) = some (if eq a[i] b[i] = true then .inl ((i + 1 : Nat) : Int) else .inr (.inr false))) (he : B (a.length : Int) = some (.inr (.inl ()))) :
  loop B 0 = some (if a = b then .inl () else .inr false) := by
 have z : (a.zip b).length = a.length := by simp [hl]
 refine (lq3 (a.zip b) (fun p => !eq p.1 p.2) (.inr false) (.inl ()) (fun i => (i : Int)) (fun i hi => ?_) ?_ rfl).trans ?_
 ·rw [h i (by omega) (by omega), List.getElem_zip]
  cases eq a[i] b[i] <;> rfl
 ·rw [z]; exact he
 ·have key : ((a.zip b).any fun p => !eq p.1 p.2) = !decide (a = b) := by
   by_cases q : a = b
   ·subst q
    rw [decide_eq_true rfl, Bool.not_true, List.any_eq_false]
    intro p hp
    obtain ⟨i, hi, rfl⟩ := List.mem_iff_getElem.1 hp
    rw [List.getElem_zip, heq]; simp
   ·rw [decide_eq_false q, Bool.not_false, List.any_eq_true]
    have : ∃ i, ∃ h1 : i < a.length, ∃ h2 : i < b.length, a[i] ≠ b[i] := Decidable.byContradiction fun hn => q (List.ext_getElem hl fun i h1 h2 => Decidable.byContradiction fun hne => hn ⟨i, h1, h2, hne⟩)
    obtain ⟨i, h1, h2, hne⟩ := this
    refine ⟨(a[i], b[i]), List.mem_iff_getElem.2 ⟨i, by omega, by rw [List.getElem_zip]⟩, ?_⟩
    rw [heq, decide_eq_false hne]; rfl
  rw [key]
  by_cases q : a = b <;> simp [q]
theorem raw_Ints_eq (a b : List Int) (h : a.length < 4611686018427387904) : raw_Ints a b = some (decide (a = b)) := by
 unfold raw_Ints
 rw [nat_ne]
 by_cases hl : a.length = b.length
 rotate_left
 ·rw [show (a.length != b.length) = true by simpa using hl, cond_true, decide_eq_false (fun e => hl (by rw [e]))]
 rw [show (a.length != b.length) = false by simpa using hl, cond_false]
 refine lpE (eqlp a b (fun x y => x == y) (fun x y => by simp [Bool.beq_eq_decide_eq]) hl (fun i h1 h2 => ?_) ?_) (by by_cases q : a = b <;> simp [q])
 ·show (bif _ then _ else _) = _
  rw [bif_decT (by omega), getI_at h1, bind_some', getI_at h2, bind_some', w64_succ (by omega)]
  by_cases k : a[i] = b[i]
  ·rw [show (a[i] != b[i]) = false by simpa using k, if_pos (by simpa using k)]; rfl
  ·rw [show (a[i] != b[i]) = true by simpa using k, if_neg (by simpa using k)]; rfl
 ·show (bif _ then _ else _) = _
  rw [bif_decF (by omega)]
theorem eqCol (a b : ApiColumn) : eqApiColumn a b = decide (a = b) := by
 cases a; cases b
 simp only [eqApiColumn, ApiColumn.mk.injEq, eqV]
 rw [Bool.eq_iff_iff]
 simp
theorem eqPart (a b : ApiPart) : eqApiPart a b = decide (a = b) := by
 cases a; cases b
 simp only [eqApiPart, ApiPart.mk.injEq]
 rw [Bool.eq_iff_iff]
 simp
def sameX (a b : ApiIndex) : Bool := decide (a = b)
theorem ref17_Same_eq (a b : ApiTable) (h : OkT a) : ref17_Same a b = some (decide (a = b)) := by
 unfold ref17_Same
 have hcl := h.cols.1
 refine bo (a := !decide (a.Name = b.Name ∧ a.Tree = b.Tree ∧ a.Cols.length = b.Cols.length ∧ a.Primary = b.Primary ∧ a.Indexes.length = b.Indexes.length)) ?_ ?_
 ·by_cases h1 : a.Name = b.Name
  rotate_left
  ·rw [show (a.Name != b.Name) = true by simpa using h1]; simp [h1]
  rw [show (a.Name != b.Name) = false by simpa using h1, cond_false]
  by_cases h2 : a.Tree = b.Tree
  rotate_left
  ·rw [show (a.Tree != b.Tree) = true by simpa using h2]; simp [h2]
  rw [show (a.Tree != b.Tree) = false by simpa using h2, cond_false, nat_ne]
  by_cases h3 : a.Cols.length = b.Cols.length
  rotate_left
  ·rw [show (a.Cols.length != b.Cols.length) = true by simpa using h3]; simp [h3]
  rw [show (a.Cols.length != b.Cols.length) = false by simpa using h3, cond_false, raw_Ints_eq _ _ h.prim, bind_some']
  by_cases h4 : a.Primary = b.Primary
  rotate_left
  ·rw [decide_eq_false h4]; simp [h4]
  rw [decide_eq_true h4, Bool.not_true, cond_false, nat_ne]
  by_cases h5 : a.Indexes.length = b.Indexes.length
  ·simp [h1, h2, h3, h4, h5]
  ·rw [show (a.Indexes.length != b.Indexes.length) = true by simpa using h5]; simp [h5]
 by_cases q : a.Name = b.Name ∧ a.Tree = b.Tree ∧ a.Cols.length = b.Cols.length ∧ a.Primary = b.Primary ∧ a.Indexes.length = b.Indexes.length
 rotate_left
 ·rw [decide_eq_false q, Bool.not_false, cond_true, decide_eq_false (fun e => q (by rw [e]; simp))]
 rw [decide_eq_true q, Bool.not_true, cond_false]
 obtain ⟨q1, q2, q3, q4, q5⟩ := q
 refine lpE (eqlp a.Cols b.Cols eqApiColumn eqCol q3 (fun i h1 h2 => ?_) ?_) ?_
 ·show (bif _ then _ else _) = _
  rw [bif_decT (by omega), getI_at h1, bind_some', getI_at h2, bind_some', w64_succ (by omega)]
  cases eqApiColumn a.Cols[i] b.Cols[i] <;> rfl
 ·show (bif _ then _ else _) = _
  rw [bif_decF (by omega)]
 by_cases e1 : a.Cols = b.Cols
 rotate_left
 ·rw [if_neg e1, decide_eq_false (fun e => e1 (by rw [e]))]; rfl
 rw [if_pos e1, Sum.elim_inl]
 have hil := h.idxs
 refine lpE (eqlp a.Indexes b.Indexes sameX (fun x y => rfl) q5 (fun i h1 h2 => ?_) ?_) ?_
 ·have hm := h.idx _ (List.getElem_mem h1)
  show (bif _ then _ else _) = _
  rw [bif_decT (by omega), getI_at h1, getI_at h2, w64_succ (by omega)]
  generalize hx : a.Indexes[i] = x at hm ⊢
  generalize hy : b.Indexes[i] = y
  obtain ⟨m1, m2, m3⟩ := hm
  have key : ∀ (o : Option (Unit ⊕ Bool)), o = some (if sameX x y = true then .inl () else .inr false) → bindE o (fun _ => some (Sum.inl ((i + 1 : Nat) : Int))) (fun e => some (Sum.inr (Sum.inr e))) = some (if sameX x y = true then .inl ((i + 1 : Nat) : Int) else .inr (.inr false) : Int ⊕ (Unit ⊕ Bool)) := by
   intro o ho
   subst ho
   cases sameX x y <;> rfl
  refine key _ ?_
  rw [bind_some', bind_some']
  refine bo (a := !decide (x.Name = y.Name ∧ x.Unique = y.Unique ∧ x.Ready = y.Ready ∧ x.Tree = y.Tree ∧ x.Extra = y.Extra ∧ x.Parts.length = y.Parts.length)) ?_ ?_
  ·by_cases k1 : x.Name = y.Name
   rotate_left
   ·rw [show (x.Name != y.Name) = true by simpa using k1]; simp [k1]
   rw [show (x.Name != y.Name) = false by simpa using k1, cond_false]
   by_cases k2 : x.Unique = y.Unique
   rotate_left
   ·rw [show (x.Unique != y.Unique) = true by simpa using k2]; simp [k2]
   rw [show (x.Unique != y.Unique) = false by simpa using k2, cond_false]
   by_cases k3 : x.Ready = y.Ready
   rotate_left
   ·rw [show (x.Ready != y.Ready) = true by simpa using k3]; simp [k3]
   rw [show (x.Ready != y.Ready) = false by simpa using k3, cond_false]
   by_cases k4 : x.Tree = y.Tree
   rotate_left
   ·rw [show (x.Tree != y.Tree) = true by simpa using k4]; simp [k4]
   rw [show (x.Tree != y.Tree) = false by simpa using k4, cond_false, raw_Ints_eq _ _ m3, bind_some']
   by_cases k5 : x.Extra = y.Extra
   rotate_left
   ·rw [decide_eq_false k5]; simp [k5]
   rw [decide_eq_true k5, Bool.not_true, cond_false, nat_ne]
   by_cases k6 : x.Parts.length = y.Parts.length
   ·simp [k1, k2, k3, k4, k5, k6]
   ·rw [show (x.Parts.length != y.Parts.length) = true by simpa using k6]; simp [k6]
  by_cases k : x.Name = y.Name ∧ x.Unique = y.Unique ∧ x.Ready = y.Ready ∧ x.Tree = y.Tree ∧ x.Extra = y.Extra ∧ x.Parts.length = y.Parts.length
  rotate_left
  ·rw [decide_eq_false k, Bool.not_false, cond_true, sameX, decide_eq_false (fun e => k (by rw [e]; simp))]; rfl
  rw [decide_eq_true k, Bool.not_true, cond_false]
  obtain ⟨k1, k2, k3, k4, k5, k6⟩ := k
  refine lpE' (eqlp x.Parts y.Parts eqApiPart eqPart k6 (fun j j1 j2 => ?_) ?_) ?_
  ·show (bif _ then _ else _) = _
   rw [bif_decT (by omega), getI_at j1, bind_some', getI_at j2, bind_some', w64_succ (by omega)]
   cases eqApiPart x.Parts[j] y.Parts[j] <;> rfl
  ·show (bif _ then _ else _) = _
   rw [bif_decF (by omega)]
  ·have : sameX x y = decide (x.Parts = y.Parts) := by
    unfold sameX
    refine decI ⟨fun e => by rw [e], fun e => ?_⟩
    cases x; cases y; simp_all
   rw [this]
   by_cases p : x.Parts = y.Parts <;> simp [p]
 ·show (bif _ then _ else _) = _
  rw [bif_decF (by omega)]
 ·by_cases e2 : a.Indexes = b.Indexes
  ·rw [if_pos e2, decide_eq_true]; · rfl
   cases a; cases b; simp_all
  ·rw [if_neg e2, decide_eq_false (fun e => e2 (by rw [e]))]; rfl
end Lv
/- Plain laws: the program's own look at tables. -/
namespace Lv
open Go Go.Proofs
set_option linter.unusedVariables false
set_option linter.unusedSimpArgs false
set_option linter.unusedSectionVars false
set_option maxRecDepth 100000
section
variable {κ : Type} [BEq κ] [LawfulBEq κ]
theorem mget_mset {β : Type} (k k' : κ) (v : β) : ∀ m : List (κ × β), mget (mset m k v) k' = if k' == k then some v else mget m k'
 | [] => by simp only [mset, mget]; cases k' == k <;> rfl
 | p :: m => by
  simp only [mset, mget]
  cases h : k == p.1 with
  | true =>
   have e := LawfulBEq.eq_of_beq h
   subst e
   simp only [cond_true, mget]
   cases hq : k' == p.1 <;> simp
  | false =>
   simp only [cond_false, mget, mget_mset k k' v m]
   cases h2 : k' == p.1 with
   | true =>
    have e := LawfulBEq.eq_of_beq h2
    subst e
    rw [show (p.1 == k) = false by rw [beq_eq_false_iff_ne] at h ⊢; exact fun e => h e.symm]
    rfl
   | false => rfl
def mS (l : List κ) : List (κ × Bool) := l.foldl (fun m k => mset m k true) []
theorem mS_get (l : List κ) (k : κ) : (mget (mS l) k).getD false = l.any fun x => x == k := by
 have key : ∀ (l : List κ) (m : List (κ × Bool)), (mget (l.foldl (fun m k => mset m k true) m) k).getD false = ((mget m k).getD false || l.any fun x => x == k) := by
  intro l
  induction l with
  | nil => intro m; simp
  | cons x l ih =>
   intro m
   rw [List.foldl_cons, ih, mget_mset, List.any_cons, show (x == k) = (k == x) from BEq.comm]
   cases k == x <;> simp
 rw [mS, key]
 rfl
theorem mS_succ (l : List κ) {i : Nat} (hi : i < l.length) : mS (l.take (i + 1)) = mset (mS (l.take i)) l[i] true := by
 unfold mS
 rw [List.take_succ_eq_append_getElem hi, List.foldl_append]
 rfl
end
variable [BaseTab]
theorem schema_columns_eq (l : List ApiColumn) (h : OkCs l) : schema_columns l = some (if l.length < 1 ∨ l.length > 24 then 7 else (firstF (colE l) 0 l).getD 0) := by
 unfold schema_columns
 refine bo (a := decide (l.length < 1 ∨ l.length > 24)) ?_ ?_
 ·by_cases k : l.length < 1
  ·rw [bif_decT (by omega)]; simp [k]
  ·rw [bif_decF (by omega)]; congr 1; exact decI (by omega)
 by_cases q : l.length < 1 ∨ l.length > 24
 ·rw [bif_decT q, if_pos q]
 rw [bif_decF q, if_neg q]
 refine lpE (lq5 l (fun i c => (colE l i c).map fun e => (.inr e : Unit ⊕ Int)) (.inl ()) (fun i => ((i : Int), mS ((l.take i).map (·.Name)))) (fun i hi => ?_) ?_ rfl) ?_
 ·have hm := List.getElem_mem hi
  show (bif _ then _ else _) = _
  rw [bif_decT (by omega), getI_at hi, bind_some', value_Column_eq _ (h.2 _ hm).1 (h.2 _ hm).2, bind_some', w64_succ (by omega), mS_get, List.any_map]
  unfold colE
  by_cases k : colS l[i] = 0
  rotate_left
  ·rw [show (colS l[i] != 0) = true by simpa using k, cond_true, if_pos k]; rfl
  rw [show (colS l[i] != 0) = false by simpa using k, cond_false, if_neg (by simpa using k)]
  show (bif ((l.take i).any fun d => d.Name == l[i].Name) then _ else _) = _
  cases ha : ((l.take i).any fun d => d.Name == l[i].Name) with
  | true => rfl
  | false =>
   have e : mS ((l.take (i + 1)).map (·.Name)) = mset (mS ((l.take i).map (·.Name))) l[i].Name true := by
    have := mS_succ (l.map (·.Name)) (i := i) (by simpa using hi)
    simpa [List.map_take] using this
   rw [e]; rfl
 ·show (bif _ then _ else _) = _
  rw [bif_decF (by omega)]
 rw [firstF_map]
 cases firstF (colE l) 0 l <;> rfl
theorem schema_places_eq (n : Int) (l : List Int) (h : l.length < 4611686018427387904) : schema_places n l = some (placesS n l) := by
 unfold schema_places
 refine lpE (lq5 l (fun i c => (plE n l i c).map fun _ => (.inr false : Unit ⊕ Bool)) (.inl ()) (fun i => ((i : Int), mS (l.take i))) (fun i hi => ?_) ?_ rfl) ?_
 ·show (bif _ then _ else _) = _
  rw [bif_decT (by omega), getI_at hi, w64_succ (by omega)]
  simp only [bind_some']
  refine bo (a := decide (l[i] < 0 ∨ l[i] ≥ n ∨ hasS (l.take i) l[i] = true)) ?_ ?_
  ·by_cases h1 : l[i] < 0
   ·rw [bif_decT h1]; simp [h1]
   rw [bif_decF h1]
   by_cases h2 : l[i] ≥ n
   ·rw [bif_decT h2]; simp [h2]
   rw [bif_decF h2, mS_get, show ((l.take i).any fun x => x == l[i]) = hasS (l.take i) l[i] from rfl]
   simp [h1, h2]
  ·unfold plE
   by_cases q : l[i] < 0 ∨ l[i] ≥ n ∨ hasS (l.take i) l[i] = true
   ·rw [bif_decT q, if_pos q]; rfl
   ·rw [bif_decF q, if_neg q, mS_succ l hi]; rfl
 ·show (bif _ then _ else _) = _
  rw [bif_decF (by omega)]
 ·unfold placesS
  have key : ∀ (r : List Int) (i : Nat), firstF (fun i c => (plE n l i c).map fun _ => (.inr false : Unit ⊕ Bool)) i r = (firstF (plE n l) i r).map fun _ => .inr false := by
   intro r
   induction r with
   | nil => intro i; rfl
   | cons x r ih => intro i; rw [firstF, firstF]; cases plE n l i x <;> simp [ih]
  rw [key]
  cases firstF (plE n l) 0 l <;> rfl
theorem idxF_nulls (l : List Int) (t : ApiTable) (h : l.length < 4611686018427387904) (hp : ∀ c ∈ l, 0 ≤ c ∧ c < t.Cols.length) : slices_ContainsFunc_int_int_1 l t = some (l.any fun c => (colAt t.Cols c).Nulls) := by
 unfold slices_ContainsFunc_int_int_1 slices_IndexFunc_int_int_1
 refine bo (a := idxI (fun c => (colAt t.Cols c).Nulls) l) (lqX l _ (fun i hi => ?_) ?_) (by rw [idxI_any])
 ·rw [bif_decT (by omega), getI_at hi, bind_some']
  unfold schema_Check_1
  rw [colAt_eq (hp _ (List.getElem_mem hi)), bind_some', bind_some', w64_succ (by omega)]
  cases (colAt t.Cols l[i]).Nulls <;> rfl
 ·rw [bif_decF (by omega)]
theorem schema_wide_eq (c : ApiColumn) (each : Int) (hc : 0 ≤ c.Max ∧ c.Max ≤ 64) (he : each = 1 ∨ each = 2) : schema_wide c each = some (wideS c each) := by
 unfold schema_wide wideS
 refine bo (a := decide (c.Kind = 1 ∨ c.Kind = 2)) ?_ ?_
 ·by_cases k : c.Kind = 1
  ·rw [k]; rfl
  ·rw [beq_eq_false_iff_ne.2 k, cond_false]; congr 1; simp [k, Bool.beq_eq_decide_eq]
 by_cases k : c.Kind = 1 ∨ c.Kind = 2
 ·rw [bif_decT k, if_pos k]
 rw [bif_decF k, if_neg k]
 by_cases k3 : c.Kind = 3
 ·rw [show (c.Kind == 3) = true by simpa using k3, cond_true, if_pos k3]
 rw [show (c.Kind == 3) = false by simpa using k3, cond_false, if_neg k3]
 have hm : 0 ≤ each * c.Max ∧ each * c.Max ≤ 128 := by rcases he with rfl | rfl <;> omega
 generalize each * c.Max = m at hm ⊢
 rw [w64_id (n := m) (by omega) (by omega), w64_id (by omega) (by omega)]
theorem schema_RowMax_eq (l : List ApiColumn) (h : l.length ≤ 24) (hc : ∀ c ∈ l, 0 ≤ c.Max ∧ c.Max ≤ 64) : schema_RowMax l = some (rowMaxS l) := by
 unfold schema_RowMax
 refine lpA (w := rowMaxS l) (lq1 (fun i => (rowMaxS (l.take i), (i : Int))) l.length (fun i hi => ?_) ?_ rfl) rfl
 ·have b := sum_bound (fun c => wideS c 1) (l := l.take i) (fun c h => wideS_le (hc c (List.mem_of_mem_take h)) (.inl rfl))
  have w := wideS_le (each := 1) (hc _ (List.getElem_mem hi)) (.inl rfl)
  have tl : (l.take i).length ≤ 24 := by simp; omega
  show (bif _ then _ else _) = _
  rw [bif_decT (by omega), getI_at hi, bind_some', schema_wide_eq _ _ (hc _ (List.getElem_mem hi)) (.inl rfl), bind_some', w64_succ (by omega)]
  have e : rowMaxS (l.take (i + 1)) = rowMaxS (l.take i) + wideS l[i] 1 := by
   unfold rowMaxS
   rw [List.map_take, List.map_take, sum_take _ _ (by simpa using hi)]; simp; omega
  rw [e, w64_id (by unfold rowMaxS; omega) (by unfold rowMaxS; omega)]
 ·show (bif _ then _ else _) = _
  rw [bif_decF (by omega), List.take_length]
theorem schema_KeyMax_eq (cols : List ApiColumn) (l : List ApiPart) (h : l.length ≤ 1048576) (hp : ∀ p ∈ l, 0 ≤ p.Col ∧ p.Col < cols.length) (hc : ∀ c ∈ cols, 0 ≤ c.Max ∧ c.Max ≤ 64) : schema_KeyMax cols l = some (keyMaxS cols l) := by
 unfold schema_KeyMax
 refine lpA (w := keyMaxS cols l) (lq1 (fun i => (keyMaxS cols (l.take i), (i : Int))) l.length (fun i hi => ?_) ?_ rfl) rfl
 ·have b := sum_bound (fun p : ApiPart => wideS (colAt cols p.Col) 2) (l := l.take i) (fun p h => wideS_le (hc _ (colAt_mem (hp p (List.mem_of_mem_take h)))) (.inr rfl))
  have hq := hp _ (List.getElem_mem hi)
  have w := wideS_le (each := 2) (hc _ (colAt_mem hq)) (.inr rfl)
  have tl : (l.take i).length ≤ 1048576 := by simp; omega
  show (bif _ then _ else _) = _
  rw [bif_decT (by omega), getI_at hi, bind_some', colAt_eq hq, bind_some', schema_wide_eq _ _ (hc _ (colAt_mem hq)) (.inr rfl), bind_some', w64_succ (by omega)]
  have e : keyMaxS cols (l.take (i + 1)) = keyMaxS cols (l.take i) + wideS (colAt cols l[i].Col) 2 := by
   unfold keyMaxS
   rw [List.map_take, List.map_take, sum_take _ _ (by simpa using hi)]; simp
  rw [e, w64_id (by unfold keyMaxS; omega) (by unfold keyMaxS; omega)]
 ·show (bif _ then _ else _) = _
  rw [bif_decF (by omega), List.take_length]
theorem schema_cols_eq (l : List ApiPart) (h : l.length * 8 ≤ room) : schema_cols l = some (colsOf l) := by
 have h' := h
 rw [room_val] at h'
 unfold schema_cols
 refine lpA (w := colsOf l) (lq1 (fun i => (colsOf (l.take i), (i : Int))) l.length (fun i hi => ?_) ?_ rfl) rfl
 ·show (bif _ then _ else _) = _
  rw [bif_decT (by omega), getI_at hi, bind_some', bif_decT (by rw [room_val]; simp [colsOf]; omega), w64_succ (by omega), show colsOf (l.take (i + 1)) = _ from map_ts _ l hi]
  rfl
 ·show (bif _ then _ else _) = _
  rw [bif_decF (by omega), List.take_length]
theorem contains_eq (l : List Int) (x : Int) (h : l.length < 4611686018427387904) : slices_Contains_int_int l x = some (hasS l x) := by
 unfold slices_Contains_int_int slices_Index_int_int
 refine bo (a := idxI (fun c => c == x) l) (lqX l _ (fun i hi => ?_) ?_) (by rw [idxI_any]; rfl)
 ·rw [bif_decT (by omega), getI_at hi, bind_some', w64_succ (by omega), show (x == l[i]) = (l[i] == x) from BEq.comm]
  cases l[i] == x <;> rfl
 ·rw [bif_decF (by omega)]
def OkY (x : ApiIndex) : Prop := OkX x ∧ x.Parts.length * 8 ≤ room
theorem schema_index_eq (t : ApiTable) (x : ApiIndex) (hc : ∀ c ∈ t.Cols, 0 ≤ c.Max ∧ c.Max ≤ 64) (hx : OkY x) (hp : t.Primary.length < 4611686018427387904) : schema_index t x = some (indexS t x) := by
 obtain ⟨⟨o1, o2, o3⟩, o4⟩ := hx
 unfold schema_index indexS
 rw [schema_cols_eq _ o4, bind_some']
 have hm : slices_ContainsFunc_int_int_2 x.Extra (colsOf x.Parts) t = some (x.Extra.any fun c => hasS (colsOf x.Parts) c || hasS t.Primary c) := by
  unfold slices_ContainsFunc_int_int_2 slices_IndexFunc_int_int_2
  refine bo (a := idxI (fun c => hasS (colsOf x.Parts) c || hasS t.Primary c) x.Extra) (lqX x.Extra _ (fun i hi => ?_) ?_) (by rw [idxI_any])
  ·rw [bif_decT (by omega), getI_at hi, bind_some']
   unfold schema_index_1
   rw [contains_eq _ _ (by simp [colsOf]; omega), contains_eq _ _ hp, w64_succ (by omega)]
   cases hasS (colsOf x.Parts) x.Extra[i] <;> cases hasS t.Primary x.Extra[i] <;> rfl
  ·rw [bif_decF (by omega)]
 rw [hm, bind_some']
 generalize x.Extra.any (fun c => hasS (colsOf x.Parts) c || hasS t.Primary c) = me
 have hl : (colsOf x.Parts).length = x.Parts.length := by simp [colsOf]
 rw [hl]
 refine bo (a := decide ((x.Parts.length < 1 ∨ x.Parts.length > 4 ∨ placesS t.Cols.length (colsOf x.Parts) = false ∨ placesS t.Cols.length x.Extra = false) ∨ me = true)) ?_ ?_
 ·by_cases h1 : x.Parts.length < 1
  ·rw [bif_decT (by omega), decide_eq_true (.inl (.inl h1))]
  rw [bif_decF (by omega)]
  by_cases h2 : x.Parts.length > 4
  ·rw [bif_decT (by omega), decide_eq_true (.inl (.inr (.inl h2)))]
  rw [bif_decF (by omega), schema_places_eq _ _ (by omega), bind_some']
  cases p1 : placesS t.Cols.length (colsOf x.Parts) with
  | false => simp
  | true =>
   rw [Bool.not_true, cond_false, schema_places_eq _ _ o3, bind_some']
   cases p2 : placesS t.Cols.length x.Extra <;> simp [h1, h2]
 by_cases q : x.Parts.length < 1 ∨ x.Parts.length > 4 ∨ placesS t.Cols.length (colsOf x.Parts) = false ∨ placesS t.Cols.length x.Extra = false
 ·rw [bif_decT (.inl q), if_pos q]
 rw [if_neg q]
 by_cases q2 : me = true
 ·rw [bif_decT (.inr q2), if_pos q2]
 rw [bif_decF (by rw [not_or]; exact ⟨q, q2⟩), if_neg q2]
 simp only [not_or, Bool.not_eq_false] at q
 rw [schema_KeyMax_eq _ _ (by omega) (parts_in q.2.2.1) hc, bind_some']
 by_cases k : keyMaxS t.Cols x.Parts > 128
 ·rw [bif_decT k, if_pos k]
 ·rw [bif_decF k, if_neg k]
theorem schema_Check_eq (t : ApiTable) (h : OkT t) (hy : ∀ x ∈ t.Indexes, OkY x) : schema_Check t = some (chkS t) := by
 unfold schema_Check chkS
 rw [value_Name_eq _ h.name, bind_some']
 cases nameS t.Name with
 | false => rfl
 | true =>
 rw [Bool.not_true, cond_false, if_neg (by simp), schema_columns_eq _ h.cols, bind_some']
 by_cases q : t.Cols.length < 1 ∨ t.Cols.length > 24
 ·rw [if_pos q, if_pos q]; rfl
 rw [if_neg q, if_neg q]
 cases hc : firstF (colE t.Cols) 0 t.Cols with
 | some e =>
  have he : e ≠ 0 := by
   have key : ∀ (l : List ApiColumn) (i : Nat), firstF (colE t.Cols) i l = some e → e ≠ 0 := by
    intro l
    induction l with
    | nil => intro i h; cases h
    | cons x l ih =>
     intro i h
     rw [firstF] at h
     cases hx : colE t.Cols i x with
     | none => rw [hx] at h; exact ih _ h
     | some e' =>
      rw [hx] at h
      obtain rfl := Option.some.inj h
      unfold colE at hx
      split at hx
      ·obtain rfl := Option.some.inj hx; assumption
      ·split at hx
       ·obtain rfl := Option.some.inj hx; decide
       ·cases hx
   exact key _ _ hc
  simp only [Option.getD_some]
  rw [show (e != 0) = true by simpa using he, cond_true]
 | none =>
 have hcol := cols_of_none hc
 have hmax : ∀ c ∈ t.Cols, 0 ≤ c.Max ∧ c.Max ≤ 64 := fun c hm => colS_max (hcol c hm)
 simp only [Option.getD_none]
 rw [show ((0 : Int) != 0) = false from rfl, cond_false]
 refine bo (a := decide (t.Primary.length < 1 ∨ t.Primary.length > 4 ∨ placesS t.Cols.length t.Primary = false)) ?_ ?_
 ·by_cases k : t.Primary.length < 1
  ·rw [bif_decT (by omega)]; simp [k]
  rw [bif_decF (by omega)]
  by_cases k2 : t.Primary.length > 4
  ·rw [bif_decT (by omega)]; simp [k2]
  rw [bif_decF (by omega), schema_places_eq _ _ h.prim, bind_some']
  cases placesS t.Cols.length t.Primary <;> simp [k, k2]
 by_cases q2 : t.Primary.length < 1 ∨ t.Primary.length > 4 ∨ placesS t.Cols.length t.Primary = false
 ·rw [bif_decT q2, if_pos q2]
 rw [bif_decF q2, if_neg q2]
 simp only [not_or, Bool.not_eq_false] at q2
 rw [idxF_nulls _ _ h.prim (placesS_in q2.2.2), bind_some']
 cases (t.Primary.any fun c => (colAt t.Cols c).Nulls) with
 | true => rfl
 | false =>
 rw [cond_false, if_neg (by simp)]
 refine bo (a := decide (rowMaxS t.Cols > 512 ∨ keyMaxS t.Cols (upS t.Primary) > 128 ∨ t.Indexes.length > 6)) ?_ ?_
 ·rw [schema_RowMax_eq _ (by omega) hmax, bind_some']
  by_cases k : rowMaxS t.Cols > 512
  ·rw [bif_decT k]; simp [k]
  rw [bif_decF k, schema_up_eq _ (by omega), bind_some', schema_KeyMax_eq _ _ (by simp [upS]; omega) (up_in q2.2.2) hmax, bind_some']
  by_cases k2 : keyMaxS t.Cols (upS t.Primary) > 128
  ·rw [bif_decT k2]; simp [k2]
  rw [bif_decF k2]; congr 1; simp only [k, k2, false_or]; exact decI (by omega)
 by_cases q3 : rowMaxS t.Cols > 512 ∨ keyMaxS t.Cols (upS t.Primary) > 128 ∨ t.Indexes.length > 6
 ·rw [bif_decT q3, if_pos q3]
 rw [bif_decF q3, if_neg q3]
 refine lpE (lq5 t.Indexes (fun i x => (idxE t i x).map fun e => (.inr e : Unit ⊕ Int)) (.inl ()) (fun i => ((i : Int), mS ((t.Indexes.take i).map (·.Name)))) (fun i hi => ?_) ?_ rfl) ?_
 ·have hm := List.getElem_mem hi
  show (bif _ then _ else _) = _
  rw [bif_decT (by omega), getI_at hi, bind_some', w64_succ (by omega), value_Name_eq _ (h.idx _ hm).1, bind_some', mS_get, List.any_map]
  unfold idxE
  cases hn : nameS t.Indexes[i].Name with
  | false => rfl
  | true =>
  rw [Bool.not_true, cond_false, if_neg (by simp)]
  show (bif ((t.Indexes.take i).any fun d => d.Name == t.Indexes[i].Name) then _ else _) = _
  cases ha : ((t.Indexes.take i).any fun d => d.Name == t.Indexes[i].Name) with
  | true => rfl
  | false =>
   rw [cond_false, if_neg (by simp), schema_index_eq t _ hmax (hy _ hm) h.prim, bind_some']
   by_cases k : indexS t t.Indexes[i] = 0
   ·have e : mS ((t.Indexes.take (i + 1)).map (·.Name)) = mset (mS ((t.Indexes.take i).map (·.Name))) t.Indexes[i].Name true := by
     have := mS_succ (t.Indexes.map (·.Name)) (i := i) (by simpa using hi)
     simpa [List.map_take] using this
    rw [k, e]; rfl
   ·rw [if_pos k, show (indexS t t.Indexes[i] != 0) = true by simpa using k]; rfl
 ·show (bif _ then _ else _) = _
  rw [bif_decF (by omega)]
 rw [firstF_map]
 cases firstF (idxE t) 0 t.Indexes <;> rfl
end Lv
/- Plain law: an index more and then without it. -/
namespace Lv
open Go Go.Proofs
set_option linter.unusedVariables false
set_option linter.unusedSimpArgs false
set_option linter.unusedSectionVars false
set_option maxRecDepth 100000
variable [BaseTab]
theorem firstF_ne {α : Type} {f : Nat → α → Option Int} (hf : ∀ i x e, f i x = some e → e ≠ 0) : ∀ (l : List α) (i : Nat) (e : Int), firstF f i l = some e → e ≠ 0
 | [], i, e, h => by cases h
 | x :: r, i, e, h => by
  rw [firstF] at h
  cases hx : f i x with
  | none => rw [hx] at h; exact firstF_ne hf r _ e h
  | some e' =>
   rw [hx] at h
   obtain rfl := Option.some.inj h
   exact hf _ _ _ hx
theorem idxE_ne {t : ApiTable} {i : Nat} {x : ApiIndex} {e : Int} (hx : idxE t i x = some e) : e ≠ 0 := by
 unfold idxE at hx
 by_cases q : nameS x.Name = false
 ·rw [if_pos q] at hx; obtain rfl := Option.some.inj hx; decide
 rw [if_neg q] at hx
 by_cases q2 : ((t.Indexes.take i).any fun y => y.Name == x.Name) = true
 ·rw [if_pos q2] at hx; obtain rfl := Option.some.inj hx; decide
 rw [if_neg q2] at hx
 by_cases q3 : indexS t x = 0
 ·rw [if_neg (by simpa using q3)] at hx; cases hx
 ·rw [if_pos q3] at hx; obtain rfl := Option.some.inj hx; exact q3
theorem colE_ne {l : List ApiColumn} {i : Nat} {x : ApiColumn} {e : Int} (hx : colE l i x = some e) : e ≠ 0 := by
 unfold colE at hx
 by_cases q : colS x = 0
 ·rw [if_neg (by simpa using q)] at hx
  by_cases q2 : ((l.take i).any fun d => d.Name == x.Name) = true
  ·rw [if_pos q2] at hx; obtain rfl := Option.some.inj hx; decide
  ·rw [if_neg q2] at hx; cases hx
 ·rw [if_pos q] at hx; obtain rfl := Option.some.inj hx; exact q
def withI (t : ApiTable) (l : List ApiIndex) : ApiTable := ⟨t.Name, t.Cols, t.Primary, l, t.Tree⟩
theorem chk_split {t : ApiTable} (h : chkS t = 0) (l : List ApiIndex) : chkS (withI t l) = if l.length > 6 then 7 else (firstF (idxE (withI t l)) 0 l).getD 0 := by
 unfold chkS at h
 show (if nameS t.Name = false then 1 else if t.Cols.length < 1 ∨ t.Cols.length > 24 then 7 else match firstF (colE t.Cols) 0 t.Cols with
 | some e => e
 | none => if t.Primary.length < 1 ∨ t.Primary.length > 4 ∨ placesS t.Cols.length t.Primary = false then 1
  else if (t.Primary.any fun c => (colAt t.Cols c).Nulls) = true then 1
  else if rowMaxS t.Cols > 512 ∨ keyMaxS t.Cols (upS t.Primary) > 128 ∨ l.length > 6 then 7
  else match firstF (idxE (withI t l)) 0 l with
   | some e => e
   | none => 0) = _
 by_cases h1 : nameS t.Name = false
 ·rw [if_pos h1] at h; cases h
 rw [if_neg h1] at h ⊢
 by_cases h2 : t.Cols.length < 1 ∨ t.Cols.length > 24
 ·rw [if_pos h2] at h; cases h
 rw [if_neg h2] at h ⊢
 cases h3 : firstF (colE t.Cols) 0 t.Cols with
 | some e => rw [h3] at h; exact absurd h (firstF_ne (fun _ _ _ => colE_ne) _ _ _ h3)
 | none =>
 rw [h3] at h
 simp only at h ⊢
 by_cases h4 : t.Primary.length < 1 ∨ t.Primary.length > 4 ∨ placesS t.Cols.length t.Primary = false
 ·rw [if_pos h4] at h; cases h
 rw [if_neg h4] at h ⊢
 by_cases h5 : (t.Primary.any fun c => (colAt t.Cols c).Nulls) = true
 ·rw [if_pos h5] at h; cases h
 rw [if_neg h5] at h ⊢
 by_cases h6 : rowMaxS t.Cols > 512 ∨ keyMaxS t.Cols (upS t.Primary) > 128 ∨ t.Indexes.length > 6
 ·rw [if_pos h6] at h; cases h
 simp only [not_or] at h6
 by_cases h7 : l.length > 6
 ·rw [if_pos (.inr (.inr h7)), if_pos h7]
 ·rw [if_neg (by simp only [not_or]; exact ⟨h6.1, h6.2.1, h7⟩), if_neg h7]
  cases firstF (idxE (withI t l)) 0 l <;> rfl
theorem chk_zero {t : ApiTable} {l : List ApiIndex} (h : chkS t = 0) : chkS (withI t l) = 0 ↔ l.length ≤ 6 ∧ ∀ i (hi : i < l.length), idxE (withI t l) i l[i] = none := by
 rw [chk_split h]
 by_cases k : l.length > 6
 ·rw [if_pos k]
  constructor
  ·intro h; cases h
  ·rintro ⟨h, _⟩; omega
 rw [if_neg k]
 constructor
 ·intro hz
  refine ⟨by omega, fun i hi => ?_⟩
  cases hf : firstF (idxE (withI t l)) 0 l with
  | some e => rw [hf] at hz; exact absurd hz (firstF_ne (fun _ _ _ => idxE_ne) _ _ _ hf)
  | none => rw [firstF_none] at hf; simpa using hf i hi
 ·rintro ⟨_, hn⟩
  have : firstF (idxE (withI t l)) 0 l = none := firstF_none.2 fun j hj => by simpa using hn j hj
  rw [this]; rfl
theorem idxE_pre {t : ApiTable} {l r : List ApiIndex} {i : Nat} {x : ApiIndex} (h : i ≤ l.length) : idxE (withI t (l ++ r)) i x = idxE (withI t l) i x := by
 unfold idxE
 show (if nameS x.Name = false then some 1 else if (((l ++ r).take i).any fun y => y.Name == x.Name) = true then some 6 else if indexS t x ≠ 0 then some (indexS t x) else none) = (if nameS x.Name = false then some 1 else if ((l.take i).any fun y => y.Name == x.Name) = true then some 6 else if indexS t x ≠ 0 then some (indexS t x) else none)
 rw [List.take_append_of_le_length h]
theorem firstF_pre {α : Type} {f : Nat → α → Option Int} {r : List α} : ∀ (l : List α) (i : Nat), firstF f i l = none → firstF f i (l ++ r) = firstF f (i + l.length) r
 | [], i, _ => by simp
 | x :: l, i, h => by
  rw [firstF] at h
  rw [List.cons_append, firstF]
  cases hx : f i x with
  | some e => rw [hx] at h; cases h
  | none =>
   rw [hx] at h
   simp only at h ⊢
   rw [firstF_pre l (i + 1) h, List.length_cons]
   congr 1; omega
theorem idxI_none {α : Type} {p : α → Bool} {l : List α} (h : l.any p = false) : idxI p l = -1 := by
 unfold idxI
 have : firstF (fun i x => if p x = true then some (i : Int) else none) 0 l = none := firstF_none.2 fun j hj => by
  rw [List.any_eq_false] at h
  rw [if_neg (h _ (List.getElem_mem hj))]
 rw [this]; rfl
theorem idxI_last {α : Type} {p : α → Bool} {l : List α} {x : α} (h : l.any p = false) (hx : p x = true) : idxI p (l ++ [x]) = (l.length : Int) := by
 unfold idxI
 have : firstF (fun i x => if p x = true then some (i : Int) else none) 0 l = none := firstF_none.2 fun j hj => by
  rw [List.any_eq_false] at h
  rw [if_neg (h _ (List.getElem_mem hj))]
 rw [firstF_pre l 0 this, firstF, if_pos hx]
 simp
theorem clone_C {l : List ApiColumn} (h : l.length ≤ 1000000) : slices_Clone_api_Column_api_Column l = some l := by
 unfold slices_Clone_api_Column_api_Column
 rw [bif_decT (by rw [room_val]; simp; omega)]; rfl
theorem clone_I {l : List Int} (h : l.length ≤ 1000000) : slices_Clone_int_int l = some l := by
 unfold slices_Clone_int_int
 rw [bif_decT (by rw [room_val]; simp; omega)]; rfl
theorem clone_X {l : List ApiIndex} (h : l.length ≤ 1000000) : slices_Clone_api_Index_api_Index l = some l := by
 unfold slices_Clone_api_Index_api_Index
 rw [bif_decT (by rw [room_val]; simp; omega)]; rfl
theorem clone_P {l : List ApiPart} (h : l.length ≤ 1000000) : slices_Clone_api_Part_api_Part l = some l := by
 unfold slices_Clone_api_Part_api_Part
 rw [bif_decT (by rw [room_val]; simp; omega)]; rfl
theorem schema_own_eq {t : ApiTable} (h1 : t.Cols.length ≤ 1000000) (h2 : t.Primary.length ≤ 1000000) (h3 : t.Indexes.length ≤ 1000000) (h4 : ∀ x ∈ t.Indexes, x.Parts.length ≤ 1000000 ∧ x.Extra.length ≤ 1000000) : schema_own t = some (t.Cols, t.Primary, t.Indexes) := by
 unfold schema_own
 rw [clone_C h1, bind_some', clone_I h2, bind_some', clone_X h3, bind_some']
 refine lpA (w := t.Indexes) (lq1 (fun i => (t.Indexes, (i : Int))) t.Indexes.length (fun i hi => ?_) ?_ rfl) rfl
 ·have hm := h4 _ (List.getElem_mem hi)
  show (bif _ then _ else _) = _
  rw [bif_decT (by omega), getI_at hi, bind_some', clone_P hm.1, bind_some', clone_I hm.2, bind_some', bind_some', Int.toNat_natCast]
  have e1 : t.Indexes.set i (ApiIndex.mk t.Indexes[i].Name t.Indexes[i].Parts t.Indexes[i].Extra t.Indexes[i].Unique t.Indexes[i].Ready t.Indexes[i].Tree) = t.Indexes := List.set_getElem_self hi
  rw [e1, getI_at hi, bind_some', w64_succ (by omega)]
  rw [e1]
 ·show (bif _ then _ else _) = _
  rw [bif_decF (by omega)]
theorem own_right {t : ApiTable} (r : Right t) : schema_own t = some (t.Cols, t.Primary, t.Indexes) := by
 have h1 := r.len; have h2 := r.pri; have h3 := r.ixs
 refine schema_own_eq (by omega) (by omega) (by omega) (fun x hx => ?_)
 have q := RightX.of (r.idx x hx)
 have q1 := q.par
 have q2 := nodup_len q.ext
 omega
theorem schema_checked_eq {t : ApiTable} (h : OkT t) (hy : ∀ x ∈ t.Indexes, OkY x) : schema_checked t = some (if chkS t ≠ 0 then (chkS t, [], [], [], [], 0) else (0, t.Name, t.Cols, t.Primary, t.Indexes, t.Tree)) := by
 unfold schema_checked
 rw [schema_Check_eq t h hy, bind_some']
 by_cases q : chkS t = 0
 ·rw [if_neg (by simpa using q), q, show ((0 : Int) != 0) = false from rfl, cond_false, own_right (Right.of q), bind_some']
 ·rw [if_pos q, show (chkS t != 0) = true by simpa using q, cond_true]
theorem OkT.withI {t : ApiTable} (h : OkT t) {l : List ApiIndex} (h1 : l.length < 4611686018427387904) (h2 : ∀ x ∈ l, OkX x) : OkT (withI t l) := ⟨h.name, h.cols, h.prim, h1, h2⟩
theorem schema_With_eq {t : ApiTable} {x : ApiIndex} (h : OkT t) (r : Right t) (hy : ∀ x ∈ t.Indexes, OkY x) (hx : OkY x) :
  schema_With t x = some (if chkS (withI t (t.Indexes ++ [x])) ≠ 0 then (chkS (withI t (t.Indexes ++ [x])), [], [], [], [], 0) else (0, t.Name, t.Cols, t.Primary, t.Indexes ++ [x], t.Tree)) := by
 have h3 := r.ixs
 unfold schema_With
 rw [own_right r, bind_some']
 show (bif decide _ then _ else _) = _
 rw [bif_decT (by rw [room_val]; simp; omega)]
 have hy' : ∀ y ∈ t.Indexes ++ [x], OkY y := by
  intro y hm
  rcases List.mem_append.1 hm with hm | hm
  ·exact hy y hm
  ·rw [List.mem_singleton.1 hm]; exact hx
 have e := schema_checked_eq (t := withI t (t.Indexes ++ [x])) (h.withI (by simp; omega) (fun y hm => (hy' y hm).1)) hy'
 show Option.bind (schema_checked (withI t (t.Indexes ++ [x]))) _ = _
 rw [e, bind_some']
 rfl
theorem without_idx (l : List ApiIndex) (n : List UInt8) (h : l.length < 4611686018427387904) : slices_IndexFunc_api_Index_api_Index_1 l n = some (idxI (fun x => x.Name == n) l) := by
 unfold slices_IndexFunc_api_Index_api_Index_1
 refine lqX l _ (fun i hi => ?_) ?_
 ·rw [bif_decT (by omega), getI_at hi, bind_some', w64_succ (by omega)]
  unfold schema_Without_1
  rw [bind_some']
  cases l[i].Name == n <;> rfl
 ·rw [bif_decF (by omega)]
theorem SchemaNames_aw (aw : law17_awake = some true) (t : ApiTable) (x : ApiIndex) (h : OkT t) (hy : ∀ x ∈ t.Indexes, OkY x) (hx : OkY x) : law17_SchemaNames t x = some true := by
 unfold law17_SchemaNames
 rw [aw, bind_some', Bool.not_true, cond_false, ref17_Check_eq t h, bind_some']
 by_cases q : chkS t = 0
 rotate_left
 ·rw [show (chkS t != 0) = true by simpa using q, cond_true]
 rw [q, show ((0 : Int) != 0) = false from rfl, cond_false]
 have r := Right.of q
 have h3 := r.ixs
 rw [schema_With_eq h r hy hx, bind_some']
 by_cases q1 : chkS (withI t (t.Indexes ++ [x])) = 0
 rotate_left
 ·rw [if_pos q1]
  show (bif (chkS (withI t (t.Indexes ++ [x])) != 0) then _ else _) = _
  rw [show (chkS (withI t (t.Indexes ++ [x])) != 0) = true by simpa using q1, cond_true]
  rfl
 rw [if_neg (by simpa using q1)]
 show (bif ((0 : Int) != 0) then _ else _) = _
 rw [show ((0 : Int) != 0) = false from rfl, cond_false]
 have hy' : ∀ y ∈ t.Indexes ++ [x], OkY y := by
  intro y hm
  rcases List.mem_append.1 hm with hm | hm
  ·exact hy y hm
  ·rw [List.mem_singleton.1 hm]; exact hx
 have hm : OkT (withI t (t.Indexes ++ [x])) := h.withI (by simp; omega) (fun y hm => (hy' y hm).1)
 have rm := Right.of q1
 obtain ⟨z1, z2⟩ := (chk_zero q).1 q1
 -- no other index has the name
 have hno : (t.Indexes.any fun y => y.Name == x.Name) = false := by
  have := z2 t.Indexes.length (by simp)
  unfold idxE at this
  have e : (t.Indexes ++ [x])[t.Indexes.length]'(by simp) = x := by simp
  rw [e] at this
  by_cases k : nameS x.Name = false
  ·rw [if_pos k] at this; cases this
  rw [if_neg k] at this
  have e2 : (withI t (t.Indexes ++ [x])).Indexes.take t.Indexes.length = t.Indexes := by
   show (t.Indexes ++ [x]).take t.Indexes.length = _
   rw [List.take_append_of_le_length (Nat.le_refl _), List.take_length]
  rw [e2] at this
  cases hq : (t.Indexes.any fun y => y.Name == x.Name) with
  | false => rfl
  | true => rw [hq, if_pos rfl] at this; cases this
 have hlast : (fun y : ApiIndex => y.Name == x.Name) x = true := by simp
 -- once more
 have e2 : ∃ e, (e = 6 ∨ e = 7) ∧ chkS (withI (withI t (t.Indexes ++ [x])) (t.Indexes ++ [x] ++ [x])) = e := by
  rw [chk_split q1]
  by_cases k : (t.Indexes ++ [x] ++ [x]).length > 6
  ·exact ⟨7, .inr rfl, if_pos k⟩
  refine ⟨6, .inl rfl, ?_⟩
  rw [if_neg k]
  have hpre : firstF (idxE (withI (withI t (t.Indexes ++ [x])) (t.Indexes ++ [x] ++ [x]))) 0 (t.Indexes ++ [x]) = none := firstF_none.2 fun j hj => by
   rw [Nat.zero_add]
   have := idxE_pre (t := withI t (t.Indexes ++ [x])) (l := t.Indexes ++ [x]) (r := [x]) (i := j) (x := (t.Indexes ++ [x])[j]) (by omega)
   rw [this]
   exact z2 j hj
  rw [firstF_pre _ _ hpre, firstF]
  have : idxE (withI (withI t (t.Indexes ++ [x])) (t.Indexes ++ [x] ++ [x])) (0 + (t.Indexes ++ [x]).length) x = some 6 := by
   unfold idxE
   have hn : ¬ nameS x.Name = false := by
    intro k
    have := z2 t.Indexes.length (by simp)
    unfold idxE at this
    have e : (t.Indexes ++ [x])[t.Indexes.length]'(by simp) = x := by simp
    rw [e, if_pos k] at this
    cases this
   rw [if_neg hn]
   have e2 : (withI (withI t (t.Indexes ++ [x])) (t.Indexes ++ [x] ++ [x])).Indexes.take (0 + (t.Indexes ++ [x]).length) = t.Indexes ++ [x] := by
    show (t.Indexes ++ [x] ++ [x]).take _ = _
    rw [List.take_append_of_le_length (by omega), Nat.zero_add, List.take_length]
   rw [e2, if_pos (by simp)]
  rw [this]; rfl
 obtain ⟨e, he, e2⟩ := e2
 have he0 : e ≠ 0 := by rcases he with rfl | rfl <;> decide
 have hW : schema_With (ApiTable.mk t.Name t.Cols t.Primary (t.Indexes ++ [x]) t.Tree) x = some (e, [], [], [], [], 0) := by
  have := schema_With_eq (t := withI t (t.Indexes ++ [x])) (x := x) hm rm hy' hx
  rw [show (withI t (t.Indexes ++ [x])).Indexes = t.Indexes ++ [x] from rfl, e2, if_pos he0] at this
  exact this
 rw [hW, bind_some']
 -- without it
 have hWo : schema_Without (ApiTable.mk t.Name t.Cols t.Primary (t.Indexes ++ [x]) t.Tree) x.Name = some (0, t.Name, t.Cols, t.Primary, t.Indexes, t.Tree) := by
  unfold schema_Without
  rw [without_idx _ _ (by simp; omega), bind_some', idxI_last hno hlast, bif_decF (by omega)]
  have := own_right rm
  show Option.bind (schema_own (withI t (t.Indexes ++ [x]))) _ = _
  rw [this, bind_some', w64_succ (by omega)]
  have hd : delF 80 (withI t (t.Indexes ++ [x])).Indexes (t.Indexes.length : Int) ((t.Indexes.length + 1 : Nat) : Int) = some t.Indexes := by
   unfold delF
   rw [bif_decT (by
    refine ⟨by omega, by omega, ?_, ?_⟩
    ·show _ ≤ (((t.Indexes ++ [x]).length : Nat) : Int)
     rw [List.length_append]; simp
    ·show (t.Indexes ++ [x]).length * 80 ≤ room
     rw [room_val, List.length_append]; simp; omega)]
   show some ((t.Indexes ++ [x]).take _ ++ (t.Indexes ++ [x]).drop _) = _
   rw [Int.toNat_natCast, Int.toNat_natCast, List.take_append_of_le_length (Nat.le_refl _), List.take_length, List.drop_eq_nil_of_le (by simp), List.append_nil]
  show Option.bind (delF 80 (withI t (t.Indexes ++ [x])).Indexes _ _) _ = _
  rw [hd, bind_some']
  rfl
 show Option.bind (schema_Without _ x.Name) _ = _
 rw [hWo, bind_some']
 show Option.bind (schema_Without t x.Name) _ = _
 have hWn : schema_Without t x.Name = some (5, [], [], [], [], 0) := by
  unfold schema_Without
  rw [without_idx _ _ (by omega), bind_some', idxI_none hno, bif_decT (by omega)]
 rw [hWn, bind_some']
 have hS : ref17_Same (ApiTable.mk t.Name t.Cols t.Primary t.Indexes t.Tree) t = some true := by
  rw [show ApiTable.mk t.Name t.Cols t.Primary t.Indexes t.Tree = t from rfl, ref17_Same_eq t t h, decide_eq_true rfl]
 have hC : schema_Check (ApiTable.mk t.Name t.Cols t.Primary (t.Indexes ++ [x]) t.Tree) = some 0 := by
  have := schema_Check_eq (withI t (t.Indexes ++ [x])) hm hy'
  rw [q1] at this
  exact this
 refine bo (a := true) ?_ rfl
 rcases he with rfl | rfl
 ·show (bif ((6 : Int) == 6) then bif ((0 : Int) == 0) then _ else _ else _) = _
  rw [show ((6 : Int) == 6) = true from rfl, cond_true, show ((0 : Int) == 0) = true from rfl, cond_true, hS, bind_some', cond_true, show ((5 : Int) == 5) = true from rfl, cond_true, hC, bind_some']
  rfl
 ·show (bif ((7 : Int) == 6) then _ else bif ((7 : Int) == 7) then bif ((0 : Int) == 0) then _ else _ else _) = _
  rw [show ((7 : Int) == 6) = false from rfl, cond_false, show ((7 : Int) == 7) = true from rfl, cond_true, show ((0 : Int) == 0) = true from rfl, cond_true, hS, bind_some', cond_true, show ((5 : Int) == 5) = true from rfl, cond_true, hC, bind_some']
  rfl
end Lv
/- Plain law: the layer's own example. -/
namespace Lv
open Go Go.Proofs
set_option linter.unusedVariables false
set_option linter.unusedSimpArgs false
set_option linter.unusedSectionVars false
set_option maxRecDepth 100000
variable [BaseTab]
def tP : ApiTable := (ApiTable.mk ([112, 101, 111, 112, 108, 101] : List UInt8) [(ApiColumn.mk ([105, 100] : List UInt8) (1 : Int) (0 : Int) false (ApiValue.mk (1 : Int) (0 : UInt64) ([] : List UInt8))), (ApiColumn.mk ([110, 97, 109, 101] : List UInt8) (5 : Int) (4 : Int) true (ApiValue.mk (0 : Int) (0 : UInt64) ([] : List UInt8))), (ApiColumn.mk ([97, 103, 101] : List UInt8) (2 : Int) (0 : Int) false (ApiValue.mk (2 : Int) (0 : UInt64) ([] : List UInt8)))] [(0 : Int)] ([] : List ApiIndex) (0 : Int))
def tP1 : ApiTable := { tP with Primary := [1] }
def xP : ApiIndex := (ApiIndex.mk ([98, 121, 95, 110, 97, 109, 101] : List UInt8) [(ApiPart.mk (1 : Int) true)] [(2 : Int)] false false (0 : Int))
def rP : List ApiValue := [(ApiValue.mk (1 : Int) (1 : UInt64) ([] : List UInt8)), (ApiValue.mk (5 : Int) (0 : UInt64) ([97] : List UInt8)), (ApiValue.mk (2 : Int) (7 : UInt64) ([] : List UInt8))]
theorem tP_ok : OkCs tP.Cols := ⟨by decide, by
 intro c hc
 simp only [tP, List.mem_cons, List.not_mem_nil, or_false] at hc
 rcases hc with rfl | rfl | rfl <;> exact ⟨by decide, by decide⟩⟩
theorem tP_okT : OkT tP := ⟨by decide, tP_ok, by decide, by decide, by intro x hx; cases hx⟩
theorem tP1_okT : OkT tP1 := ⟨by decide, tP_ok, by decide, by decide, by intro x hx; cases hx⟩
theorem tP_chk : chkS tP = 0 := by decide +kernel
theorem tP1_chk : chkS tP1 = 1 := by decide +kernel
theorem awake17 : law17_awake = some true := by
 unfold law17_awake
 have hv : OkVs rP := ⟨by decide, by
  intro c hc
  simp only [rP, List.mem_cons, List.not_mem_nil, or_false] at hc
  rcases hc with rfl | rfl | rfl <;> decide⟩
 refine bo (a := ()) rfl ?_
 have e := schema_Entry_eq tP xP rP tP_ok hv (Right.of tP_chk) (RightX.of (by decide +kernel))
 have f : fitsS tP.Cols rP = 0 := by decide +kernel
 have g : entS tP xP rP = ⟨[254, 158, 255, 255, 1, 128, 0, 0, 0, 0, 0, 0, 1], [1, 0, 0, 0, 0, 0, 0, 0, 0, 7]⟩ := by decide +kernel
 rw [if_neg (by simpa using f), g] at e
 refine bo e ?_
 have c0 : schema_Check tP = some 0 := by rw [schema_Check_eq tP tP_okT (by intro x hx; cases hx), tP_chk]
 have c1 : schema_Check tP1 = some 1 := by rw [schema_Check_eq tP1 tP1_okT (by intro x hx; cases hx), tP1_chk]
 have c2 : schema_RowMax tP.Cols = some 26 := by
  rw [schema_RowMax_eq _ (by decide) (fun c hm => colS_max ((Right.of tP_chk).col c hm))]
  exact congrArg some (by decide +kernel)
 refine bo (a := true) ?_ rfl
 show Option.bind (schema_Check tP) _ = _
 rw [c0, bind_some', show ((0 : Int) == 0) = true from rfl, cond_true]
 show Option.bind (schema_Check tP1) _ = _
 rw [c1, bind_some', show ((1 : Int) == 1) = true from rfl, cond_true]
 show Option.bind (schema_RowMax tP.Cols) _ = _
 rw [c2, bind_some', show ((26 : Int) == 26) = true from rfl, cond_true]
 rfl
theorem SchemaNames_true (t : ApiTable) (x : ApiIndex) (h : OkT t) (hy : ∀ x ∈ t.Indexes, OkY x) (hx : OkY x) : law17_SchemaNames t x = some true := SchemaNames_aw awake17 t x h hy hx
end Lv
/- From the sizes in bytes to the plain law's conditions. -/
namespace Lv
open Go
variable [BaseTab]
omit [BaseTab] in
theorem okY_ofB {R : Nat} (hR : R ≤ 140737488355328) {x : ApiIndex} (h : okApiIndex R x) : OkY x := by
 obtain ⟨k1, k2, k3, _⟩ := h
 have q2 := k2.1
 have q3 := k3.1
 exact ⟨⟨by omega, by omega, by omega⟩, by rw [room_val]; omega⟩
omit [BaseTab] in
theorem okT_ofB {R : Nat} (hR : R ≤ 140737488355328) {t : ApiTable} (h : okApiTable R t) : OkT t := by
 obtain ⟨h1, h2, h3, h4, h5, _⟩ := h
 have q2 := h2.1
 have q3 := h3.1
 have q4 := h4.1
 refine ⟨by omega, ⟨by omega, fun c hc => ?_⟩, by omega, by omega, fun x hx => (okY_ofB hR (h4.2 x hx)).1⟩
 obtain ⟨k1, k2, k3, k4, k5, _⟩ := h2.2 c hc
 exact ⟨by omega, by have := k5.2.2.1; omega⟩
omit [BaseTab] in
theorem okYs_ofB {R : Nat} (hR : R ≤ 140737488355328) {t : ApiTable} (h : okApiTable R t) : ∀ x ∈ t.Indexes, OkY x := fun x hx => okY_ofB hR (h.2.2.2.1.2 x hx)
end Lv
