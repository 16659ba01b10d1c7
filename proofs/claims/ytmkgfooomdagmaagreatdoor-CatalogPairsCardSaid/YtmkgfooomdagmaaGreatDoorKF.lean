/- Part of the proof of a law. -/
import Derived.Test.YtmkgfooomdagmaaGreatDoorXAll
import Derived.Test.YtmkgfooomdagmaaGreatDoorGwPlain
import Derived.Lib.ValidLaws
import Derived.Test.YtmkgfooomdagmaaGreatDoorGwQ
import Derived.Test.YtmkgfooomdagmaaGreatDoorXOk
import Derived.Test.YtmkgfooomdagmaaGreatDoorKK18
/- Plain laws of layer 07: values that are right. -/
namespace Lv
open Go Go.Proofs
set_option linter.unusedVariables false
set_option linter.unusedSimpArgs false
set_option linter.unusedSectionVars false
set_option maxRecDepth 100000
variable [BaseTab]
def val (v : ApiValue) : Bool :=
 (v.Kind == 0 && (v.N == 0 && v.S == [])) || ((v.Kind == 1 || v.Kind == 2) && v.S == []) || (v.Kind == 3 && (decide (v.N < 2) && v.S == [])) ||
 (v.Kind == 4 && (v.N == 0 && decide (v.S.length ≤ 64))) || (v.Kind == 5 && (v.N == 0 && (decide (v.S.length ≤ 64) && Go.Lib.validD v.S)))
theorem value_Valid_eq (v : ApiValue) (h : v.S.length < 4611686018427387904) : value_Valid v = some (val v) := by
 have e1 : validF v.S = some (Go.Lib.validD v.S) := by unfold validF; rw [if_pos (by omega)]
 have e2 : ((v.S.length : Int) ≤ 64) = (v.S.length ≤ 64) := propext (by omega)
 have e3 : (v.N ≤ 1) = (v.N < 2) := propext (by rw [UInt64.le_iff_toNat_le, UInt64.lt_iff_toNat_lt]; show _ ≤ 1 ↔ _ < 2; omega)
 obtain ⟨K, N, S⟩ := v
 unfold value_Valid val
 simp only [e1, e2, e3, eqApiValue, Bool.and_true] at *
 by_cases k0 : K = 0
 ·subst k0; simp
 by_cases k1 : K = 1
 ·subst k1; simp
 by_cases k2 : K = 2
 ·subst k2; simp
 by_cases k3 : K = 3
 ·subst k3; by_cases hN : N < 2 <;> simp [hN]
 by_cases k4 : K = 4
 ·subst k4; cases hN : (N == 0) <;> simp [hN]
 by_cases k5 : K = 5
 ·subst k5; cases hN : (N == 0) <;> by_cases hS : S.length ≤ 64 <;> simp [hN, hS]
 simp [beq_eq_false_iff_ne.2 k0, beq_eq_false_iff_ne.2 k1, beq_eq_false_iff_ne.2 k2, beq_eq_false_iff_ne.2 k3, beq_eq_false_iff_ne.2 k4, beq_eq_false_iff_ne.2 k5]
def utfB (s : List UInt8) (i n : Int) : Int × Int → Option ((Int × Int) ⊕ (Int ⊕ Bool)) := fun (y1265, y1266) =>
                      bif (decide (y1266 < n)) then
                        Option.bind (getI s (w64 (i + y1266))) fun v1279 =>
                        Option.bind (α := Bool)
                          (bif (decide ((v1279.toNat : Int) < (128 : Int))) then
                            some true
                          else
                            some (decide ((v1279.toNat : Int) ≥ (192 : Int))))
                          fun y1281 =>
                        bif y1281 then
                          some (Sum.inr (Sum.inr false))
                        else
                          some (Sum.inl ((w64 ((w64 ((w64 (y1265 * (64 : Int))) + (v1279.toNat : Int))) - (128 : Int))), (w64 (y1266 + (1 : Int)))))
                      else
                        some (Sum.inr (Sum.inl y1265))
theorem utf_more (s : List UInt8) (i : Nat) (n k c : Int) (b : UInt8) (hk : 0 ≤ k) (hn : k < n) (hn4 : n ≤ 4) (hi : i + k.toNat < s.length) (hs : s.length < 4611686018427387904) (hc : 0 ≤ c ∧ c < 4294967296) (hb : s.getD (i + k.toNat) 0 = b) :
  loop (utfB s i n) (c, k) = if b.toNat / 64 = 2 then loop (utfB s i n) (c * 64 + (b.toNat : Int) - 128, k + 1) else some (.inr false) := by
 have hg : getI s (w64 ((i : Int) + k)) = some b := by
  rw [w64_id (by omega) (by omega)]
  unfold getI
  rw [if_pos (by omega), show ((i : Int) + k).toNat = i + k.toNat by omega, List.getElem?_eq_getElem hi]
  rw [List.getD_eq_getElem?_getD, List.getElem?_eq_getElem hi] at hb
  exact congrArg some hb
 have hlt := b.toNat_lt
 by_cases h : b.toNat / 64 = 2
 ·rw [if_pos h]
  refine loop_step ?_
  show (bif (decide (k < n)) then _ else _) = _
  rw [decide_eq_true hn, cond_true, hg, bind_some', bif_decF (show ¬ ((b.toNat : Int) < 128) by omega), bind_some', bif_decF (show ¬ ((b.toNat : Int) ≥ 192) by omega)]
  rw [w64_id (n := c * 64) (by omega) (by omega), w64_id (n := c * 64 + _) (by omega) (by omega), w64_id (n := c * 64 + _ - _) (by omega) (by omega), w64_id (n := k + 1) (by omega) (by omega)]
 ·rw [if_neg h]
  refine loop_end ?_
  show (bif (decide (k < n)) then _ else _) = _
  rw [decide_eq_true hn, cond_true, hg, bind_some']
  by_cases h2 : b.toNat < 128
  ·rw [bif_decT (show ((b.toNat : Int) < 128) by omega), bind_some', cond_true]
  ·rw [bif_decF (show ¬ ((b.toNat : Int) < 128) by omega), bind_some', bif_decT (show ((b.toNat : Int) ≥ 192) by omega)]
theorem utf_end (s : List UInt8) (i : Nat) (n c : Int) : loop (utfB s i n) (c, n) = some (.inl c) := by
 refine loop_end ?_
 show (bif (decide (n < n)) then _ else _) = _
 rw [bif_decF (show ¬ (n < n) by omega)]
def utfN (l : List UInt8) : Nat :=
 if (Go.Lib.decodeN l.length (l.getD 0 0).toNat (l.getD 1 0).toNat (l.getD 2 0).toNat (l.getD 3 0).toNat).1 = 65533 ∧ (Go.Lib.decodeN l.length (l.getD 0 0).toNat (l.getD 1 0).toNat (l.getD 2 0).toNat (l.getD 3 0).toNat).2 = 1 then 0
 else (Go.Lib.decodeN l.length (l.getD 0 0).toNat (l.getD 1 0).toNat (l.getD 2 0).toNat (l.getD 3 0).toNat).2
theorem validD_utfN (l : List UInt8) (hne : l ≠ []) : Go.Lib.validD l = if utfN l = 0 then false else Go.Lib.validD (l.drop (utfN l)) := by
 have hw := Go.Lib.decodeL_width l
 have hl : 0 < l.length := List.length_pos_iff.2 hne
 rw [Go.Lib.validD_step l hne, Go.Lib.decodeL_N]
 rw [Go.Lib.decodeL_N] at hw
 unfold utfN
 split
 ·simp
 ·rw [if_neg (by omega)]
theorem utfN_1 (l : List UInt8) (h : (l.getD 0 0).toNat < 128) : utfN l = 1 := by
 unfold utfN Go.Lib.decodeN
 rw [if_pos h]
 simp only
 rw [if_neg (by omega)]
theorem utfN_bad (l : List UInt8) (h : (128 ≤ (l.getD 0 0).toNat ∧ (l.getD 0 0).toNat < 194) ∨ 245 ≤ (l.getD 0 0).toNat) : utfN l = 0 := by
 unfold utfN
 have := (l.getD 0 0).toNat_lt
 rw [Go.Lib.decodeN_bad _ _ _ _ _ (by omega)]
 rfl
theorem utfN_2 (l : List UInt8) (h : 194 ≤ (l.getD 0 0).toNat ∧ (l.getD 0 0).toNat < 224) : utfN l = if 1 < l.length ∧ (l.getD 1 0).toNat / 64 = 2 then 2 else 0 := by
 unfold utfN Go.Lib.decodeN
 repeat' split
 all_goals first | rfl | (exfalso; omega) | (simp only at *; omega)
theorem utfN_3 (l : List UInt8) (h : 224 ≤ (l.getD 0 0).toNat ∧ (l.getD 0 0).toNat < 240) : utfN l = if (2 < l.length ∧ (l.getD 1 0).toNat / 64 = 2 ∧ (l.getD 2 0).toNat / 64 = 2) ∧ 2048 ≤ (l.getD 0 0).toNat % 16 * 4096 + (l.getD 1 0).toNat % 64 * 64 + (l.getD 2 0).toNat % 64 ∧ ((l.getD 0 0).toNat % 16 * 4096 + (l.getD 1 0).toNat % 64 * 64 + (l.getD 2 0).toNat % 64 < 55296 ∨ 57344 ≤ (l.getD 0 0).toNat % 16 * 4096 + (l.getD 1 0).toNat % 64 * 64 + (l.getD 2 0).toNat % 64) then 3 else 0 := by
 unfold utfN Go.Lib.decodeN
 repeat' split
 all_goals first | rfl | (exfalso; omega) | (simp only at *; omega)
theorem utfN_4 (l : List UInt8) (h : 240 ≤ (l.getD 0 0).toNat ∧ (l.getD 0 0).toNat < 245) : utfN l = if (3 < l.length ∧ (l.getD 1 0).toNat / 64 = 2 ∧ (l.getD 2 0).toNat / 64 = 2 ∧ (l.getD 3 0).toNat / 64 = 2) ∧ 65536 ≤ (l.getD 0 0).toNat % 8 * 262144 + (l.getD 1 0).toNat % 64 * 4096 + (l.getD 2 0).toNat % 64 * 64 + (l.getD 3 0).toNat % 64 ∧ (l.getD 0 0).toNat % 8 * 262144 + (l.getD 1 0).toNat % 64 * 4096 + (l.getD 2 0).toNat % 64 * 64 + (l.getD 3 0).toNat % 64 ≤ 1114111 then 4 else 0 := by
 unfold utfN Go.Lib.decodeN
 repeat' split
 all_goals first | rfl | (exfalso; omega) | (simp only at *; omega)
theorem decI {p q : Prop} [Decidable p] [Decidable q] (h : p ↔ q) : decide p = decide q := decide_eq_decide.2 h
noncomputable def utfT (p0 : List UInt8) (y1079 y1207 y1208 y1209 : Int) : Option (Int ⊕ (Unit ⊕ Bool)) :=
              bif (decide ((w64 (y1079 + y1207)) > (p0.length : Int))) then
                some (Sum.inr (Sum.inr false))
              else
                bindE (Y := Int) (E := Bool)
                  (Option.bind (α := Int ⊕ Bool) (loop (utfB p0 y1079 y1207) (y1209, (1 : Int)))
                    (Sum.elim (fun e => some (Sum.inl e)) (fun e => some (Sum.inr e))))
                  (fun y1256 =>
                    Option.bind (α := Bool)
                      (bif (decide (y1256 < y1208)) then
                        some true
                      else
                        bif (decide (y1256 > (1114111 : Int))) then
                          some true
                        else
                          bif (decide (y1256 ≥ (55296 : Int))) then
                            some (decide (y1256 < (57344 : Int)))
                          else
                            some false)
                      fun y1289 =>
                    bif y1289 then
                      some (Sum.inr (Sum.inr false))
                    else
                      some (Sum.inl (w64 (y1079 + y1207))))
                  (fun e => some (Sum.inr (Sum.inr e)))
theorem utfT_all {s : List UInt8} {i n : Nat} {m c c' : Int} (hn : n ≤ 4) (hs : s.length < 4611686018427387904) (hi : i + n ≤ s.length) (h : loop (utfB s i n) (c, 1) = some (.inl c')) :
  utfT s i n m c = some (if c' < m ∨ c' > 1114111 ∨ (55296 ≤ c' ∧ c' < 57344) then .inr (.inr false) else .inl ((i + n : Nat) : Int)) := by
 unfold utfT
 rw [w64_id (n := (i : Int) + n) (by omega) (by omega), bif_decF (show ¬ ((i : Int) + n > (s.length : Int)) by omega), h, bind_some', Sum.elim_inl, bindE_l]
 by_cases h1 : c' < m
 ·rw [bif_decT h1, bind_some', cond_true, if_pos (.inl h1)]
 rw [bif_decF h1]
 by_cases h2 : c' > 1114111
 ·rw [bif_decT h2, bind_some', cond_true, if_pos (.inr (.inl h2))]
 rw [bif_decF h2]
 by_cases h3 : c' ≥ 55296
 ·rw [bif_decT h3, bind_some']
  by_cases h4 : c' < 57344
  ·rw [bif_decT h4, if_pos (.inr (.inr ⟨h3, h4⟩))]
  ·rw [bif_decF h4, if_neg (by omega)]; rfl
 ·rw [bif_decF h3, bind_some', cond_false, if_neg (by omega)]; rfl
theorem utfT_no {s : List UInt8} {i n : Nat} {m c : Int} (hn : n ≤ 4) (hs : s.length < 4611686018427387904) (hi : i + n ≤ s.length) (h : loop (utfB s i n) (c, 1) = some (.inr false)) :
  utfT s i n m c = some (.inr (.inr false)) := by
 unfold utfT
 rw [w64_id (n := (i : Int) + n) (by omega) (by omega), bif_decF (show ¬ ((i : Int) + n > (s.length : Int)) by omega), h, bind_some', Sum.elim_inr, bindE_r]
theorem utfT_short {s : List UInt8} {i n : Nat} {m c : Int} (hn : n ≤ 4) (hs : s.length < 4611686018427387904) (hi : i ≤ s.length) (hi : ¬ i + n ≤ s.length) : utfT s i n m c = some (.inr (.inr false)) := by
 unfold utfT
 rw [w64_id (n := (i : Int) + n) (by omega) (by omega), bif_decT (show ((i : Int) + n > (s.length : Int)) by omega)]
theorem ref06_utf8_eq (s : List UInt8) (hs : s.length < 4611686018427387904) : ref06_utf8 s = some (Go.Lib.validD s) := by
 unfold ref06_utf8
 refine Eq.trans (congrArg (fun x => bindE (Y := Unit) (E := Bool) (Option.bind (α := Unit ⊕ Bool) x (Sum.elim (fun e => some (Sum.inl e)) (fun e => some (Sum.inr e)))) (fun _ => some true) (fun e => some e))
  (loop_by (fun y : Int => ∃ i : Nat, y = i ∧ i ≤ s.length) (fun y => s.length - y.toNat) (fun y => if Go.Lib.validD (s.drop y.toNat) = true then .inl () else .inr false) ?_ 0 ⟨0, rfl, by omega⟩)) ?_
 ·rintro y ⟨i, rfl, hi⟩
  rcases Nat.lt_or_ge i s.length with hlt | hge
  rotate_left
  ·right
   have : i = s.length := by omega
   subst this
   simp only [ltI, Nat.lt_irrefl, decide_false, cond_false, Int.toNat_natCast, List.drop_length, Go.Lib.validD_nil, if_true]
  have hne : s.drop i ≠ [] := by intro e; have := congrArg List.length e; simp at this; omega
  have hv := validD_utfN (s.drop i) hne
  have hlen : (s.drop i).length = s.length - i := by simp
  have hd : ∀ k, (s.drop i).getD k 0 = s.getD (i + k) 0 := fun k => Go.Lib.getD_dropU s i k
  have hg : getI s (i : Int) = some (s.getD i 0) := by
   rw [getI_at hlt, List.getD_eq_getElem?_getD, List.getElem?_eq_getElem hlt]; rfl
  have hb := (s.getD i 0).toNat_lt
  -- what a round must show
  suffices hB : ∀ B : Option (Int ⊕ (Unit ⊕ Bool)), B = some (if utfN (s.drop i) = 0 then .inr (.inr false) else .inl ((i + utfN (s.drop i) : Nat) : Int)) → utfN (s.drop i) ≤ s.length - i →
    (∃ y', B = some (.inl y') ∧ (∃ j : Nat, y' = j ∧ j ≤ s.length) ∧ s.length - y'.toNat < s.length - ((i : Int)).toNat ∧ (if Go.Lib.validD (s.drop y'.toNat) = true then Sum.inl () else Sum.inr false) = (if Go.Lib.validD (s.drop ((i : Int)).toNat) = true then Sum.inl () else Sum.inr false)) ∨ B = some (.inr (if Go.Lib.validD (s.drop ((i : Int)).toNat) = true then .inl () else .inr false)) by
   have hle : utfN (s.drop i) ≤ s.length - i := by
    rcases Nat.lt_or_ge (s.getD i 0).toNat 128 with c1 | c1
    ·rw [utfN_1 _ (by rw [hd]; exact c1)]; omega
    rcases Nat.lt_or_ge (s.getD i 0).toNat 194 with c2 | c2
    ·rw [utfN_bad _ (by rw [hd, Nat.add_zero]; omega)]; omega
    rcases Nat.lt_or_ge (s.getD i 0).toNat 224 with c3 | c3
    ·rw [utfN_2 _ (by rw [hd, Nat.add_zero]; omega)]; split <;> omega
    rcases Nat.lt_or_ge (s.getD i 0).toNat 240 with c4 | c4
    ·rw [utfN_3 _ (by rw [hd, Nat.add_zero]; omega)]; split <;> omega
    rcases Nat.lt_or_ge (s.getD i 0).toNat 245 with c5 | c5
    ·rw [utfN_4 _ (by rw [hd, Nat.add_zero]; omega)]; split <;> omega
    ·rw [utfN_bad _ (by rw [hd, Nat.add_zero]; omega)]; omega
   refine hB _ ?_ hle
   rw [ltI, decide_eq_true hlt, cond_true, hg, bind_some']
   have d0 := hd 0
   rw [Nat.add_zero] at d0
   have d1 := hd 1
   have d2 := hd 2
   have d3 := hd 3
   have b1 := (s.getD (i + 1) 0).toNat_lt
   have b2 := (s.getD (i + 2) 0).toNat_lt
   have b3 := (s.getD (i + 3) 0).toNat_lt
   rcases Nat.lt_or_ge (s.getD i 0).toNat 128 with c1 | c1
   ·have hu := utfN_1 (s.drop i) (by rw [d0]; exact c1)
    rw [hu, bif_decT (show ((s.getD i 0).toNat : Int) < 128 by omega), bindE_l]
    refine (utfT_all (n := 1) (by omega) hs (by omega) (utf_end s i 1 _)).trans ?_
    rw [if_neg (by omega), if_neg (by omega)]
   rw [bif_decF (show ¬ (((s.getD i 0).toNat : Int) < 128) by omega)]
   rcases Nat.lt_or_ge (s.getD i 0).toNat 194 with c2 | c2
   ·have hu := utfN_bad (s.drop i) (by rw [d0]; omega)
    rw [hu, bif_decF (show ¬ (((s.getD i 0).toNat : Int) ≥ 194) by omega), bind_some', cond_false, bif_decF (show ¬ (((s.getD i 0).toNat : Int) ≥ 224) by omega), bind_some', cond_false, bif_decF (show ¬ (((s.getD i 0).toNat : Int) ≥ 240) by omega), bind_some', cond_false]
    rfl
   rw [bif_decT (show (((s.getD i 0).toNat : Int) ≥ 194) by omega), bind_some']
   rcases Nat.lt_or_ge (s.getD i 0).toNat 224 with c3 | c3
   ·have hu := utfN_2 (s.drop i) (by rw [d0]; omega)
    rw [d1, hlen] at hu
    rw [bif_decT (show (((s.getD i 0).toNat : Int) < 224) by omega), bindE_l]
    show utfT s i (2 : Nat) 128 _ = _
    by_cases hn : i + 2 ≤ s.length
    ·rw [w64_id (n := ((s.getD i 0).toNat : Int) - 192) (by omega) (by omega)]
     have q := utf_more s i 2 1 (((s.getD i 0).toNat : Int) - 192) (s.getD (i + 1) 0) (by omega) (by omega) (by omega) (by omega) hs (by omega) rfl
     by_cases t1 : (s.getD (i + 1) 0).toNat / 64 = 2
     ·rw [if_pos t1] at q
      refine (utfT_all (n := 2) (by omega) hs (by omega) (q.trans (utf_end s i 2 _))).trans ?_
      rw [hu, if_pos (show 1 < s.length - i ∧ (s.getD (i + 1) 0).toNat / 64 = 2 by omega)]
      split
      ·exfalso; omega
      ·rfl
     ·rw [if_neg t1] at q
      refine (utfT_no (n := 2) (by omega) hs (by omega) q).trans ?_
      rw [show utfN (s.drop i) = 0 by rw [hu]; exact if_neg (by omega)]
      rfl
    ·rw [show utfN (s.drop i) = 0 by rw [hu]; exact if_neg (by omega)]
     exact utfT_short (by omega) hs hi hn
   rw [bif_decF (show ¬ (((s.getD i 0).toNat : Int) < 224) by omega), bif_decT (show (((s.getD i 0).toNat : Int) ≥ 224) by omega), bind_some']
   rcases Nat.lt_or_ge (s.getD i 0).toNat 240 with c4 | c4
   ·have hu := utfN_3 (s.drop i) (by rw [d0]; omega)
    rw [d0, d1, d2, hlen] at hu
    rw [bif_decT (show (((s.getD i 0).toNat : Int) < 240) by omega), bindE_l]
    show utfT s i (3 : Nat) 2048 _ = _
    by_cases hn : i + 3 ≤ s.length
    ·rw [w64_id (n := ((s.getD i 0).toNat : Int) - 224) (by omega) (by omega)]
     have q := utf_more s i 3 1 (((s.getD i 0).toNat : Int) - 224) (s.getD (i + 1) 0) (by omega) (by omega) (by omega) (by omega) hs (by omega) rfl
     by_cases t1 : (s.getD (i + 1) 0).toNat / 64 = 2
     ·rw [if_pos t1] at q
      have q2 := utf_more s i 3 2 ((((s.getD i 0).toNat : Int) - 224) * 64 + ((s.getD (i + 1) 0).toNat : Int) - 128) (s.getD (i + 2) 0) (by omega) (by omega) (by omega) (by omega) hs (by omega) rfl
      by_cases t2 : (s.getD (i + 2) 0).toNat / 64 = 2
      ·rw [if_pos t2] at q2
       refine (utfT_all (n := 3) (by omega) hs (by omega) (q.trans (q2.trans (utf_end s i 3 _)))).trans ?_
       split
       ·rw [show utfN (s.drop i) = 0 by rw [hu]; exact if_neg (by omega)]
        rfl
       ·rw [show utfN (s.drop i) = 3 by rw [hu]; exact if_pos (by omega)]
        rfl
      ·rw [if_neg t2] at q2
       refine (utfT_no (n := 3) (by omega) hs (by omega) (q.trans q2)).trans ?_
       rw [show utfN (s.drop i) = 0 by rw [hu]; exact if_neg (by omega)]
       rfl
     ·rw [if_neg t1] at q
      refine (utfT_no (n := 3) (by omega) hs (by omega) q).trans ?_
      rw [show utfN (s.drop i) = 0 by rw [hu]; exact if_neg (by omega)]
      rfl
    ·rw [show utfN (s.drop i) = 0 by rw [hu]; exact if_neg (by omega)]
     exact utfT_short (by omega) hs hi hn
   rw [bif_decF (show ¬ (((s.getD i 0).toNat : Int) < 240) by omega), bif_decT (show (((s.getD i 0).toNat : Int) ≥ 240) by omega), bind_some']
   rcases Nat.lt_or_ge (s.getD i 0).toNat 245 with c5 | c5
   ·have hu := utfN_4 (s.drop i) (by rw [d0]; omega)
    rw [d0, d1, d2, d3, hlen] at hu
    rw [bif_decT (show (((s.getD i 0).toNat : Int) < 245) by omega), bindE_l]
    show utfT s i (4 : Nat) 65536 _ = _
    by_cases hn : i + 4 ≤ s.length
    ·rw [w64_id (n := ((s.getD i 0).toNat : Int) - 240) (by omega) (by omega)]
     have q := utf_more s i 4 1 (((s.getD i 0).toNat : Int) - 240) (s.getD (i + 1) 0) (by omega) (by omega) (by omega) (by omega) hs (by omega) rfl
     by_cases t1 : (s.getD (i + 1) 0).toNat / 64 = 2
     ·rw [if_pos t1] at q
      have q2 := utf_more s i 4 2 ((((s.getD i 0).toNat : Int) - 240) * 64 + ((s.getD (i + 1) 0).toNat : Int) - 128) (s.getD (i + 2) 0) (by omega) (by omega) (by omega) (by omega) hs (by omega) rfl
      by_cases t2 : (s.getD (i + 2) 0).toNat / 64 = 2
      ·rw [if_pos t2] at q2
       have q3 := utf_more s i 4 3 (((((s.getD i 0).toNat : Int) - 240) * 64 + ((s.getD (i + 1) 0).toNat : Int) - 128) * 64 + ((s.getD (i + 2) 0).toNat : Int) - 128) (s.getD (i + 3) 0) (by omega) (by omega) (by omega) (by omega) hs (by omega) rfl
       by_cases t3 : (s.getD (i + 3) 0).toNat / 64 = 2
       ·rw [if_pos t3] at q3
        refine (utfT_all (n := 4) (by omega) hs (by omega) (q.trans (q2.trans (q3.trans (utf_end s i 4 _))))).trans ?_
        split
        ·rw [show utfN (s.drop i) = 0 by rw [hu]; exact if_neg (by omega)]
         rfl
        ·rw [show utfN (s.drop i) = 4 by rw [hu]; exact if_pos (by omega)]
         rfl
       ·rw [if_neg t3] at q3
        refine (utfT_no (n := 4) (by omega) hs (by omega) (q.trans (q2.trans q3))).trans ?_
        rw [show utfN (s.drop i) = 0 by rw [hu]; exact if_neg (by omega)]
        rfl
      ·rw [if_neg t2] at q2
       refine (utfT_no (n := 4) (by omega) hs (by omega) (q.trans q2)).trans ?_
       rw [show utfN (s.drop i) = 0 by rw [hu]; exact if_neg (by omega)]
       rfl
     ·rw [if_neg t1] at q
      refine (utfT_no (n := 4) (by omega) hs (by omega) q).trans ?_
      rw [show utfN (s.drop i) = 0 by rw [hu]; exact if_neg (by omega)]
      rfl
    ·rw [show utfN (s.drop i) = 0 by rw [hu]; exact if_neg (by omega)]
     exact utfT_short (by omega) hs hi hn
   ·have hu := utfN_bad (s.drop i) (by rw [d0]; omega)
    rw [hu, bif_decF (show ¬ (((s.getD i 0).toNat : Int) < 245) by omega)]
    rfl
  intro B hB hle
  rw [Int.toNat_natCast, hv]
  by_cases h0 : utfN (s.drop i) = 0
  ·right; rw [hB, if_pos h0, if_pos h0]; rfl
  ·left
   rw [if_neg h0] at hB
   refine ⟨_, hB, ⟨_, rfl, by omega⟩, by rw [Int.toNat_natCast]; omega, ?_⟩
   rw [Int.toNat_natCast, if_neg h0, List.drop_drop]
 ·simp only [Int.toNat_zero, List.drop_zero]
  by_cases h : Go.Lib.validD s = true
  ·rw [h]; rfl
  ·rw [if_neg h, Bool.eq_false_iff.2 h]; rfl
theorem ref06_Valid_eq (v : ApiValue) (h : v.S.length < 4611686018427387904) : ref06_Valid v = some (val v) := by
 have e1 := ref06_utf8_eq v.S h
 have e2 : ((v.S.length : Int) ≤ 64) = (v.S.length ≤ 64) := propext (by omega)
 obtain ⟨K, N, S⟩ := v
 unfold ref06_Valid val
 simp only [e1, e2, Bool.and_true] at *
 by_cases k0 : K = 0
 ·subst k0; cases hN : (N == 0) <;> simp [hN]
 by_cases k1 : K = 1
 ·subst k1; simp
 by_cases k2 : K = 2
 ·subst k2; simp
 by_cases k3 : K = 3
 ·subst k3; by_cases hN : N < 2 <;> simp [hN]
 by_cases k4 : K = 4
 ·subst k4; cases hN : (N == 0) <;> simp [hN]
 by_cases k5 : K = 5
 ·subst k5; cases hN : (N == 0) <;> by_cases hS : S.length ≤ 64 <;> simp [hN, hS, e1]
 simp [beq_eq_false_iff_ne.2 k0, beq_eq_false_iff_ne.2 k1, beq_eq_false_iff_ne.2 k2, beq_eq_false_iff_ne.2 k3, beq_eq_false_iff_ne.2 k4, beq_eq_false_iff_ne.2 k5]
end Lv
/- Plain laws of layer 07: keys of values, keys of lists. -/
namespace Lv
open Go Go.Proofs
set_option linter.unusedVariables false
set_option linter.unusedSimpArgs false
set_option linter.unusedSectionVars false
set_option maxRecDepth 100000
variable [BaseTab]
def bytesN (n : UInt64) : Nat → List UInt8
 | 0 => []
 | k + 1 => UInt8.ofNat (n.toNat / 2 ^ (8 * k)) :: bytesN n k
theorem bytesN_len (n : UInt64) : ∀ k, (bytesN n k).length = k
 | 0 => rfl
 | k + 1 => by simp [bytesN, bytesN_len n k]
theorem shr64_low (n : UInt64) (m : Nat) : (shr64 n m).toUInt8 = UInt8.ofNat (n.toNat / 2 ^ m) := by
 unfold shr64
 rw [← UInt8.toNat_inj]
 have h : n.toNat / 2 ^ m < 18446744073709551616 := Nat.lt_of_le_of_lt (Nat.div_le_self _ _) n.toNat_lt
 simp [UInt64.toNat_ofNat, Nat.mod_eq_of_lt h]
theorem low8 (n : UInt64) : n.toUInt8 = UInt8.ofNat (n.toNat / 2 ^ (8 * 0)) := by
 rw [← UInt8.toNat_inj]; simp
theorem Out_Num_eq (n : UInt64) (k : Nat) (acc : List UInt8) (hk : k ≤ 8) (hr : acc.length + 8 ≤ 70368744177664) : ref01_Out_Num_1 n k acc = some (acc ++ bytesN n k) := by
 unfold ref01_Out_Num_1
 rw [w64_id (n := (k : Int) - 1) (by omega) (by omega)]
 suffices h : ∀ (k : Nat) (acc : List UInt8), k ≤ 8 → acc.length + k ≤ 70368744177664 → ∀ B : Int × List UInt8 → Option ((Int × List UInt8) ⊕ List UInt8), B = (fun (y21, y22) =>
   bif (decide (y21 ≥ (0 : Int))) then
    bif decide (0 ≤ (w64 ((8 : Int) * y21))) then
    bif decide ((y22.length + [((shr64 n ((w64 ((8 : Int) * y21)).toNat)).toUInt8)].length) * 1 ≤ room) then
    some (Sum.inl ((w64 (y21 - (1 : Int))), (y22 ++ [((shr64 n ((w64 ((8 : Int) * y21)).toNat)).toUInt8)])))
    else none
    else none
   else
    some (Sum.inr y22)) → loop B ((k : Int) - 1, acc) = some (acc ++ bytesN n k) by
  rw [show (loop _ ((k : Int) - 1, acc)) = _ from h k acc hk (by omega) _ rfl]
  rfl
 intro k
 induction k with
 | zero =>
  intro acc _ _ B hB
  rw [bytesN, List.append_nil]
  refine loop_end ?_
  rw [hB]
  rfl
 | succ k ih =>
  intro acc hk hr B hB
  have e : w64 ((8 : Int) * (((k + 1 : Nat) : Int) - 1)) = ((8 * k : Nat) : Int) := by rw [w64_id (by omega) (by omega)]; omega
  have e2 : w64 ((((k + 1 : Nat) : Int) - 1) - 1) = (k : Int) - 1 := by rw [w64_id (by omega) (by omega)]; omega
  have st : B (((k + 1 : Nat) : Int) - 1, acc) = some (Sum.inl ((k : Int) - 1, acc ++ [UInt8.ofNat (n.toNat / 2 ^ (8 * k))])) := by
   rw [hB]
   show (bif _ then _ else _) = _
   rw [e, e2, bif_decT (by omega), bif_decT (by omega), Int.toNat_natCast, shr64_low, bif_decT (by rw [room_val]; simp; omega)]
  rw [loop_step st, ih (acc ++ [_]) (by omega) (by simp; omega) B hB, bytesN, List.append_assoc]
  rfl
theorem Out_Num_nil (n : UInt64) (k : Int) : ref01_Out_Num n k = ref01_Out_Num_1 n k [] := rfl
end Lv
/- Plain laws of layer 07: the program's keys and the document's. -/
namespace Lv
open Go Go.Proofs
set_option linter.unusedVariables false
set_option linter.unusedSimpArgs false
set_option linter.unusedSectionVars false
set_option maxRecDepth 100000
variable [BaseTab]
theorem out_put1 (a b : List UInt8) (h : b.length + a.length ≤ 70368744177664) : pack_Out_put_1 a b = some () := by
 unfold pack_Out_put_1; rw [bif_decT (by rw [room_val]; omega)]
theorem u16_hi (n : UInt64) (m : Nat) (x : UInt16) (h : x.toNat = n.toNat / 2 ^ m % 65536) : (shr16 x 8).toUInt8 = UInt8.ofNat (n.toNat / 2 ^ (m + 8)) := by
 unfold shr16
 rw [← UInt8.toNat_inj]
 have hx := x.toNat_lt
 have e : n.toNat / 2 ^ (m + 8) = n.toNat / 2 ^ m / 256 := by rw [Nat.pow_add, Nat.div_div_eq_div_mul]
 simp [UInt16.toNat_ofNat, e]
 omega
theorem u16_lo (n : UInt64) (m : Nat) (x : UInt16) (h : x.toNat = n.toNat / 2 ^ m % 65536) : x.toUInt8 = UInt8.ofNat (n.toNat / 2 ^ m) := by
 rw [← UInt8.toNat_inj]
 simp [h]
 try omega
theorem sh32 (n : UInt64) : (shr64 n 32).toUInt32.toNat = n.toNat / 2 ^ 32 := by
 unfold shr64
 have := n.toNat_lt
 simp [UInt64.toNat_ofNat]
 omega
theorem bytes8_eq (n : UInt64) (acc : List UInt8) : (((acc ++ [((shr16 ((shr32 ((shr64 n 32).toUInt32) 16).toUInt16) 8).toUInt8), (((shr32 ((shr64 n 32).toUInt32) 16).toUInt16).toUInt8)]) ++ [((shr16 (((shr64 n 32).toUInt32).toUInt16) 8).toUInt8), ((((shr64 n 32).toUInt32).toUInt16).toUInt8)]) ++ [((shr16 ((shr32 (n.toUInt32) 16).toUInt16) 8).toUInt8), (((shr32 (n.toUInt32) 16).toUInt16).toUInt8)]) ++ [((shr16 ((n.toUInt32).toUInt16) 8).toUInt8), (((n.toUInt32).toUInt16).toUInt8)] = acc ++ bytesN n 8 := by
 have hn := n.toNat_lt
 have h1 : ((shr32 ((shr64 n 32).toUInt32) 16).toUInt16).toNat = n.toNat / 2 ^ 48 % 65536 := by
  unfold shr32
  have := sh32 n
  simp [UInt32.toNat_ofNat] at *
  omega
 have h2 : (((shr64 n 32).toUInt32).toUInt16).toNat = n.toNat / 2 ^ 32 % 65536 := by
  have := sh32 n
  simp at *
  omega
 have h3 : ((shr32 (n.toUInt32) 16).toUInt16).toNat = n.toNat / 2 ^ 16 % 65536 := by
  unfold shr32
  simp [UInt32.toNat_ofNat]
  omega
 have h4 : ((n.toUInt32).toUInt16).toNat = n.toNat / 2 ^ 0 % 65536 := by
  simp
 rw [u16_hi n 48 _ h1, u16_lo n 48 _ h1, u16_hi n 32 _ h2, u16_lo n 32 _ h2, u16_hi n 16 _ h3, u16_lo n 16 _ h3, u16_hi n 0 _ h4, u16_lo n 0 _ h4]
 simp [bytesN]
theorem Out_U16_eq (x : UInt16) (b : List UInt8) (h : b.length + 2 ≤ 70368744177664) : pack_Out_U16 x b = some () := by
 unfold pack_Out_U16; rw [out_put1 _ _ (by simpa using h)]; rfl
theorem Out_U32_eq (x : UInt32) (b : List UInt8) (h : b.length + 4 ≤ 70368744177664) : pack_Out_U32 x b = some () := by
 unfold pack_Out_U32; rw [Out_U16_eq _ _ (by omega), bind_some', Out_U16_eq _ _ (by simp; omega)]; rfl
theorem Out_U64_eq (x : UInt64) (b : List UInt8) (h : b.length + 8 ≤ 70368744177664) : pack_Out_U64 x b = some () := by
 unfold pack_Out_U64; rw [Out_U32_eq _ _ (by omega), bind_some', Out_U32_eq _ _ (by simp; omega)]; rfl
end Lv
/- Plain laws of layer 07: keys of lists. -/
namespace Lv
open Go Go.Proofs
set_option linter.unusedVariables false
set_option linter.unusedSimpArgs false
set_option linter.unusedSectionVars false
set_option maxRecDepth 100000
variable [BaseTab]
theorem val_short {v : ApiValue} (h : val v = true) : v.S.length ≤ 64 := by
 unfold val at h
 simp only [Bool.or_eq_true, Bool.and_eq_true, beq_iff_eq, decide_eq_true_eq] at h
 rcases h with (((⟨_, _, h⟩ | ⟨_, h⟩) | ⟨_, _, h⟩) | ⟨_, _, h⟩) | ⟨_, _, h, _⟩
 ·rw [h]; simp
 ·rw [h]; simp
 ·rw [h]; simp
 ·exact h
 ·exact h
end Lv
/- Plain laws of layer 07: the span of what begins with a text. -/
namespace Lv
open Go Go.Proofs
set_option linter.unusedVariables false
set_option linter.unusedSimpArgs false
set_option linter.unusedSectionVars false
set_option maxRecDepth 100000
variable [BaseTab]
end Lv
/- Plain laws: names, columns, what fits them. -/
namespace Lv
open Go Go.Proofs
set_option linter.unusedVariables false
set_option linter.unusedSimpArgs false
set_option linter.unusedSectionVars false
set_option maxRecDepth 100000
variable [BaseTab]
def letter (c : UInt8) : Bool := decide (97 ≤ c) && decide (c ≤ 122)
def nchar (c : UInt8) : Bool := letter c || c == 95 || (decide (48 ≤ c) && decide (c ≤ 57))
def nameS : List UInt8 → Bool
 | [] => false
 | c :: r => decide (r.length < 16) && (letter c && r.all nchar)
theorem nall (l : List UInt8) : (l.any fun c => !nchar c) = !l.all nchar := by induction l <;> simp_all [List.any_cons, List.all_cons]
theorem value_Name_eq (s : List UInt8) (hs : s.length < 4611686018427387904) : value_Name s = some (nameS s) := by
 unfold value_Name
 cases s with
 | nil => rfl
 | cons c r =>
  have hlen : (c :: r).length = r.length + 1 := rfl
  refine bo (a := decide (r.length ≥ 16)) ?_ ?_
  ·rw [show ((c :: r) == ([] : List UInt8)) = false from rfl, cond_false, hlen]; congr 1; exact decI (by omega)
  by_cases h16 : r.length ≥ 16
  ·rw [bif_decT h16]; simp only [nameS]; rw [decide_eq_false (by omega)]; rfl
  rw [bif_decF h16]
  have e1 : nameS (c :: r) = (letter c && r.all nchar) := by simp only [nameS]; rw [decide_eq_true (by omega)]; rfl
  rw [e1]
  refine lpE (w := if (letter c && r.all nchar) = true then .inl () else .inr false) (nmB fun B hB => ?_) ?_
  rotate_left
  ·cases (letter c && r.all nchar) <;> rfl
  have step : ∀ (i : Nat) (x : UInt8), i < (c :: r).length → (c :: r)[i]? = some x → B (i : Int) = some (if (if i = 0 then !letter x else !nchar x) = true then .inr (.inr false) else .inl ((i + 1 : Nat) : Int)) := by
   intro i x hi hx
   rw [hB]
   show (bif _ then _ else _) = _
   rw [bif_decT (by omega), getI_nat, hx, bind_some', show ((i : Int) == 0) = decide (i = 0) by rw [Bool.eq_iff_iff]; simp, w64_succ (by omega)]
   generalize ((i + 1 : Nat) : Int) = k
   by_cases h0 : i = 0
   ·simp only [h0, decide_true, if_true]
    clear hx
    refine bo (a := letter x) ?_ ?_
    ·revert x; exact u8F (by decide +kernel)
    ·cases letter x <;> rfl
   ·simp only [h0, decide_false, if_false]
    clear hx
    refine bo (a := letter x) ?_ (bo (a := !nchar x) ?_ ?_)
    ·revert x; exact u8F (by decide +kernel)
    ·revert x; exact u8F (by decide +kernel)
    ·cases nchar x <;> rfl
  have s0 := step 0 c (by omega) rfl
  rw [show (0 : Int) = ((0 : Nat) : Int) from rfl]
  cases hc : letter c with
  | false => rw [hc] at s0; exact loop_end s0
  | true =>
   rw [hc] at s0
   rw [loop_step (y' := ((0 + 1 : Nat) : Int)) s0]
   refine (lq3 r (fun c => !nchar c) (.inr false) (.inl ()) (fun i => ((i + 1 : Nat) : Int)) (fun i hi => ?_) ?_ rfl).trans ?_
   ·rw [step (i + 1) r[i] (by omega) (by simp [hi])]
    simp
   ·rw [hB]
    show (bif _ then _ else _) = _
    rw [bif_decF (by omega)]
   ·rw [nall]; cases r.all nchar <;> rfl
theorem ref06_Name_eq (s : List UInt8) (hs : s.length < 4611686018427387904) : ref06_Name s = some (nameS s) := by
 unfold ref06_Name
 cases s with
 | nil => rfl
 | cons c r =>
  have hlen : (c :: r).length = r.length + 1 := rfl
  have e1 : nameS (c :: r) = (decide (r.length < 16) && (letter c && r.all nchar)) := rfl
  rw [e1]
  refine bo (a := !(decide (r.length < 16) && letter c)) ?_ ?_
  ·rw [bif_decF (by omega), show getI (c :: r) 0 = some c from rfl]
   by_cases h16 : r.length < 16
   ·rw [bif_decF (by omega), decide_eq_true h16]
    simp only [bind_some', Bool.true_and]
    clear e1 hlen hs
    revert c; exact u8F (by decide +kernel)
   ·rw [bif_decT (by omega), decide_eq_false h16]; rfl
  by_cases h16 : r.length < 16
  rotate_left
  ·rw [decide_eq_false h16]; rfl
  rw [decide_eq_true h16, Bool.true_and, Bool.true_and]
  cases hc : letter c with
  | false => rfl
  | true =>
   rw [Bool.not_true, cond_false, Bool.true_and]
   refine lpE (w := if r.all nchar = true then .inl () else .inr false) (nmB fun B hB => ?_) ?_
   rotate_left
   ·cases r.all nchar <;> rfl
   refine (lq3 r (fun c => !nchar c) (.inr false) (.inl ()) (fun i => ((i + 1 : Nat) : Int)) (fun i hi => ?_) ?_ rfl).trans ?_
   ·rw [hB]
    show (bif _ then _ else _) = _
    rw [bif_decT (by omega), getI_nat, show (c :: r)[i + 1]? = some r[i] by simp [hi], w64_succ (by omega)]
    generalize ((i + 1 + 1 : Nat) : Int) = k
    generalize r[i] = x
    simp only [bind_some']
    refine bo (a := !nchar x) ?_ ?_
    ·revert x; exact u8F (by decide +kernel)
    ·cases nchar x <;> rfl
   ·rw [hB]
    show (bif _ then _ else _) = _
    rw [bif_decF (by omega)]
   ·rw [nall]; cases r.all nchar <;> rfl
def fitS (c : ApiColumn) (v : ApiValue) : Int :=
 if val v = false then 8 else if v.Kind = 0 then (if c.Nulls = true then 0 else 8) else if v.Kind ≠ c.Kind then 8 else if (v.Kind = 4 ∨ v.Kind = 5) ∧ (v.S.length : Int) > c.Max then 7 else 0
theorem long_eq (k : Int) : value_long k = some (decide (k = 4 ∨ k = 5)) := by
 unfold value_long
 by_cases h : k = 4
 ·subst h; rfl
 ·rw [show (k == 4) = false by simpa using h]
  simp only [cond_false, bind_some', h, false_or]
  congr 1
theorem value_Fits_eq (c : ApiColumn) (v : ApiValue) (h : v.S.length < 4611686018427387904) : value_Fits c v = some (fitS c v) := by
 unfold value_Fits fitS
 rw [value_Valid_eq v h, bind_some']
 cases hv : val v with
 | false => rfl
 | true =>
  simp only [Bool.not_true, cond_false, Bool.true_eq_false, if_false]
  by_cases h0 : v.Kind = 0
  ·rw [show (v.Kind == 0) = true by simpa using h0, if_pos h0]
   cases c.Nulls <;> rfl
  rw [show (v.Kind == 0) = false by simpa using h0, if_neg h0, cond_false]
  by_cases hk : v.Kind = c.Kind
  rotate_left
  ·rw [show (v.Kind != c.Kind) = true by simpa using hk, if_pos hk]; rfl
  rw [show (v.Kind != c.Kind) = false by simpa using hk, if_neg (by simpa using hk), cond_false, long_eq, bind_some']
  by_cases hl : v.Kind = 4 ∨ v.Kind = 5
  ·rw [bif_decT hl, bind_some']
   by_cases hm : (v.S.length : Int) > c.Max
   ·rw [if_pos ⟨hl, hm⟩, bif_decT hm]
   ·rw [if_neg (fun h => hm h.2), bif_decF hm]
  ·rw [bif_decF hl, bind_some', if_neg (fun h => hl h.1)]; rfl
theorem ref06_Fits_eq (c : ApiColumn) (v : ApiValue) (h : v.S.length < 4611686018427387904) : ref06_Fits c v = some (fitS c v) := by
 unfold ref06_Fits fitS
 rw [ref06_Valid_eq v h, bind_some']
 cases hv : val v with
 | false => rfl
 | true =>
  simp only [Bool.not_true, cond_false, Bool.true_eq_false, if_false]
  by_cases h0 : v.Kind = 0
  ·rw [show (v.Kind == 0) = true by simpa using h0, if_pos h0, show (v.Kind != 0) = false by simpa using h0, h0]
   cases c.Nulls <;> rfl
  rw [show (v.Kind == 0) = false by simpa using h0, if_neg h0, show (v.Kind != 0) = true by simpa using h0]
  simp only [cond_false, cond_true, bind_some']
  by_cases hk : v.Kind = c.Kind
  rotate_left
  ·rw [show (v.Kind != c.Kind) = true by simpa using hk, if_pos hk]; rfl
  rw [show (v.Kind != c.Kind) = false by simpa using hk, if_neg (by simpa using hk), cond_false]
  refine bo (a := decide ((v.Kind = 4 ∨ v.Kind = 5) ∧ (v.S.length : Int) > c.Max)) ?_ ?_
  ·by_cases h4 : v.Kind = 4
   ·rw [show (v.Kind == 4) = true by simpa using h4]; simp [h4]
   ·rw [show (v.Kind == 4) = false by simpa using h4]
    by_cases h5 : v.Kind = 5
    ·rw [show (v.Kind == 5) = true by simpa using h5]; simp [h5]
    ·rw [show (v.Kind == 5) = false by simpa using h5]; simp [h4, h5]
  ·by_cases q : (v.Kind = 4 ∨ v.Kind = 5) ∧ (v.S.length : Int) > c.Max
   ·rw [bif_decT q, if_pos q]
   ·rw [bif_decF q, if_neg q]
def colS (c : ApiColumn) : Int :=
 if nameS c.Name = false then 1 else if c.Kind < 1 ∨ c.Kind > 5 then 8 else if (if c.Kind = 4 ∨ c.Kind = 5 then c.Max < 1 ∨ c.Max > 64 else c.Max ≠ 0) then 7 else fitS c c.Default
theorem value_Column_eq (c : ApiColumn) (h : c.Name.length < 4611686018427387904) (h2 : c.Default.S.length < 4611686018427387904) : value_Column c = some (colS c) := by
 unfold value_Column colS
 rw [value_Name_eq _ h, bind_some']
 cases nameS c.Name with
 | false => rfl
 | true =>
  simp only [Bool.not_true, cond_false, Bool.true_eq_false, if_false]
  refine bo (a := decide (c.Kind < 1 ∨ c.Kind > 5)) ?_ ?_
  ·by_cases k1 : c.Kind < 1
   ·rw [bif_decT k1, decide_eq_true (Or.inl k1)]
   ·rw [bif_decF k1]; congr 1; exact decI (by omega)
  by_cases hk : c.Kind < 1 ∨ c.Kind > 5
  ·rw [bif_decT hk, if_pos hk]
  rw [bif_decF hk, if_neg hk]
  simp only [long_eq, bind_some']
  refine bo (a := decide (if c.Kind = 4 ∨ c.Kind = 5 then c.Max < 1 ∨ c.Max > 64 else c.Max ≠ 0)) ?_ ?_
  ·by_cases hl : c.Kind = 4 ∨ c.Kind = 5
   ·simp only [hl, decide_true, cond_true, if_true, Bool.not_true, cond_false]
    by_cases m1 : c.Max < 1
    ·rw [bif_decT m1]; simp [m1]
    ·rw [bif_decF m1]
     by_cases m2 : c.Max > 64
     ·rw [bif_decT m2]; simp [m2]
     ·rw [bif_decF m2]; simp [m1, m2]
   ·simp only [hl, decide_false, cond_false, if_false, Bool.not_false, cond_true]
    congr 1
    by_cases m : c.Max = 0
    ·simp [m]
    ·simp [m]
  by_cases q : (if c.Kind = 4 ∨ c.Kind = 5 then c.Max < 1 ∨ c.Max > 64 else c.Max ≠ 0)
  ·rw [bif_decT q, if_pos q]
  ·rw [bif_decF q, if_neg q, value_Fits_eq _ _ h2, bind_some']
theorem ref06_Column_eq (c : ApiColumn) (h : c.Name.length < 4611686018427387904) (h2 : c.Default.S.length < 4611686018427387904) : ref06_Column c = some (colS c) := by
 unfold ref06_Column colS
 rw [ref06_Name_eq _ h, bind_some']
 cases nameS c.Name with
 | false => rfl
 | true =>
  simp only [Bool.not_true, cond_false, Bool.true_eq_false, if_false]
  refine bo (a := decide (c.Kind < 1 ∨ c.Kind > 5)) ?_ ?_
  ·by_cases k1 : c.Kind < 1
   ·rw [bif_decT k1, decide_eq_true (Or.inl k1)]
   ·rw [bif_decF k1]; congr 1; exact decI (by omega)
  by_cases hk : c.Kind < 1 ∨ c.Kind > 5
  ·rw [bif_decT hk, if_pos hk]
  rw [bif_decF hk, if_neg hk]
  refine bo (a := decide (if c.Kind = 4 ∨ c.Kind = 5 then c.Max < 1 ∨ c.Max > 64 else c.Max ≠ 0)) ?_ ?_
  ·by_cases hl : c.Kind = 4 ∨ c.Kind = 5
   ·rw [bif_decF (by omega), bif_decT (by omega)]
    simp only [hl, if_true]
    by_cases m1 : c.Max < 1
    ·rw [bif_decT m1]; simp [m1]
    ·rw [bif_decF m1]; simp [m1]
   ·rw [bif_decT (by omega)]
    simp only [hl, if_false]
    by_cases m : c.Max = 0
    ·rw [show (c.Max != 0) = false by simpa using m, cond_false, bif_decF (by omega)]; simp [m]
    ·rw [show (c.Max != 0) = true by simpa using m]; simp [m]
  by_cases q : (if c.Kind = 4 ∨ c.Kind = 5 then c.Max < 1 ∨ c.Max > 64 else c.Max ≠ 0)
  ·rw [bif_decT q, if_pos q]
  ·rw [bif_decF q, if_neg q, ref06_Fits_eq _ _ h2, bind_some']
end Lv
/- Plain laws: rows that fit columns. -/
namespace Lv
open Go Go.Proofs
set_option linter.unusedVariables false
set_option linter.unusedSimpArgs false
set_option linter.unusedSectionVars false
set_option maxRecDepth 100000
variable [BaseTab]
def OkC (c : ApiColumn) : Prop := c.Name.length < 4611686018427387904 ∧ c.Default.S.length < 4611686018427387904
def OkCs (l : List ApiColumn) : Prop := l.length < 4611686018427387904 ∧ ∀ c ∈ l, OkC c
def colsS (l : List ApiColumn) : Bool := decide (1 ≤ l.length ∧ l.length ≤ 24) && l.all fun c => colS c == 0
def fitE (p : ApiColumn × ApiValue) : Option Int := if fitS p.1 p.2 = 0 then none else some (fitS p.1 p.2)
def fitsS (cols : List ApiColumn) (l : List ApiValue) : Int := if colsS cols = false ∨ l.length ≠ cols.length then 1 else ((cols.zip l).findSome? fitE).getD 0
end Lv
/- Plain laws: rows as bytes, keys as the reference makes them. -/
namespace Lv
open Go Go.Proofs
set_option linter.unusedVariables false
set_option linter.unusedSimpArgs false
set_option linter.unusedSectionVars false
set_option maxRecDepth 100000
variable [BaseTab]
theorem u16_len (n : Nat) (h : n < 65536) : [((shr16 (u16i (n : Int)) 8).toUInt8), ((u16i (n : Int)).toUInt8)] = bytesN (u64i (n : Int)) 2 := by
 have e : (u16i (n : Int)).toNat = (u64i (n : Int)).toNat / 2 ^ 0 % 65536 := by
  unfold u16i u64i
  simp
  omega
 rw [u16_hi (u64i (n : Int)) 0 _ e, u16_lo (u64i (n : Int)) 0 _ e]
 rfl
theorem Out_Text_eq (s b : List UInt8) (h : s.length ≤ 65535) (hb : b.length ≤ 1048576) : pack_Out_Text s b = some (true, b ++ (bytesN (u64i s.length) 2 ++ s)) := by
 unfold pack_Out_Text
 rw [bind_some', bif_decF (by omega), Out_U16_eq _ _ (by omega), bind_some', bif_decT (by rw [room_val]; simp; omega), u16_len _ (by omega), List.append_assoc]
theorem ref01_Text_eq (s b : List UInt8) (h : s.length ≤ 65535) (hb : b.length ≤ 1048576) : ref01_Out_Text s b = some (true, b ++ (bytesN (u64i s.length) 2 ++ s)) := by
 unfold ref01_Out_Text
 rw [bif_decF (by omega), show ref01_Out_Num_1 (u64i s.length) 2 b = _ from Out_Num_eq _ 2 _ (by omega) (by omega), bind_some', bif_decT (by rw [room_val]; simp [bytesN_len]; omega), List.append_assoc]
theorem num8 (n : UInt64) : bytesN n 1 = [n.toUInt8] := by
 rw [low8]; rfl
theorem eqV (v w : ApiValue) : eqApiValue v w = decide (v = w) := by
 cases v; cases w
 simp only [eqApiValue, ApiValue.mk.injEq]
 rw [Bool.eq_iff_iff]
 simp
end Lv
/- Plain laws: tables that are right. -/
namespace Lv
open Go Go.Proofs
set_option linter.unusedVariables false
set_option linter.unusedSimpArgs false
set_option linter.unusedSectionVars false
set_option maxRecDepth 100000
variable [BaseTab]
theorem firstF_none {α W : Type} {f : Nat → α → Option W} : ∀ {l : List α} {i : Nat}, firstF f i l = none ↔ ∀ j (h : j < l.length), f (i + j) (l[j]'h) = none
 | [], i => by simp [firstF]
 | x :: r, i => by
  rw [firstF]
  cases hf : f i x with
  | some w =>
   simp only [reduceCtorEq, false_iff]
   intro h
   have := h 0 (by simp)
   simp [hf] at this
  | none =>
   simp only
   rw [firstF_none (l := r) (i := i + 1)]
   constructor
   ·intro h j hj
    cases j with
    | zero => simpa using hf
    | succ j => have := h j (by simpa using hj); simpa [Nat.add_assoc, Nat.add_comm 1 j] using this
   ·intro h j hj
    have := h (j + 1) (by simpa using hj)
    simpa [Nat.add_assoc, Nat.add_comm 1 j] using this
def OkX (x : ApiIndex) : Prop := x.Name.length < 4611686018427387904 ∧ x.Parts.length < 4611686018427387904 ∧ x.Extra.length < 4611686018427387904
structure OkT (t : ApiTable) : Prop where
 name : t.Name.length < 4611686018427387904
 cols : OkCs t.Cols
 prim : t.Primary.length < 4611686018427387904
 idxs : t.Indexes.length < 4611686018427387904
 idx : ∀ x ∈ t.Indexes, OkX x
def hasS (l : List Int) (x : Int) : Bool := l.any fun y => y == x
theorem ref17_Has_eq (l : List Int) (x : Int) (h : l.length < 4611686018427387904) : ref17_Has l x = some (hasS l x) := by
 unfold ref17_Has
 refine lpE (lq3 l (fun y => y == x) (.inr true) (.inl ()) (fun i => (i : Int)) (fun i hi => ?_) ?_ rfl) ?_
 ·show (bif _ then _ else _) = _
  rw [bif_decT (by omega), getI_at hi, bind_some', w64_succ (by omega)]
  cases l[i] == x <;> rfl
 ·show (bif _ then _ else _) = _
  rw [bif_decF (by omega)]
 ·unfold hasS; cases (l.any fun y => y == x) <;> rfl
def plE (n : Int) (l : List Int) (i : Nat) (c : Int) : Option Unit := if c < 0 ∨ c ≥ n ∨ hasS (l.take i) c = true then some () else none
def placesS (n : Int) (l : List Int) : Bool := (firstF (plE n l) 0 l).isNone
theorem ref17_places_eq (n : Int) (l : List Int) (h : l.length < 4611686018427387904) : ref17_places n l = some (placesS n l) := by
 unfold ref17_places
 refine lpE (lq5 l (fun i c => (plE n l i c).map fun _ => (.inr false : Unit ⊕ Bool)) (.inl ()) (fun i => (i : Int)) (fun i hi => ?_) ?_ rfl) ?_
 ·show (bif _ then _ else _) = _
  rw [bif_decT (by omega), getI_at hi, w64_succ (by omega)]
  simp only [bind_some']
  refine bo (a := decide (l[i] < 0 ∨ l[i] ≥ n ∨ hasS (l.take i) l[i] = true)) ?_ ?_
  ·by_cases h1 : l[i] < 0
   ·rw [bif_decT h1]; simp [h1]
   rw [bif_decF h1]
   by_cases h2 : l[i] ≥ n
   ·rw [bif_decT h2]; simp [h2]
   rw [bif_decF h2, bif_decT (by omega), Int.toNat_natCast, ref17_Has_eq _ _ (by simp; omega), bind_some']
   simp [h1, h2]
  ·unfold plE
   by_cases q : l[i] < 0 ∨ l[i] ≥ n ∨ hasS (l.take i) l[i] = true
   ·rw [bif_decT q, if_pos q]; rfl
   ·rw [bif_decF q, if_neg q]; rfl
 ·show (bif _ then _ else _) = _
  rw [bif_decF (by omega)]
 ·unfold placesS
  have key : ∀ (r : List Int) (i : Nat), firstF (fun i c => (plE n l i c).map fun _ => (.inr false : Unit ⊕ Bool)) i r = (firstF (plE n l) i r).map fun _ => .inr false := by
   intro r
   induction r with
   | nil => intro i; rfl
   | cons x r ih => intro i; rw [firstF, firstF]; cases plE n l i x <;> simp [ih]
  rw [key]
  cases firstF (plE n l) 0 l <;> rfl
theorem placesS_in {n : Int} {l : List Int} (h : placesS n l = true) : ∀ c ∈ l, 0 ≤ c ∧ c < n := by
 unfold placesS at h
 rw [Option.isNone_iff_eq_none, firstF_none] at h
 intro c hc
 obtain ⟨i, hi, rfl⟩ := List.mem_iff_getElem.1 hc
 have := h i hi
 unfold plE at this
 split at this
 ·cases this
 ·rename_i q; rw [not_or, not_or] at q; omega
theorem placesS_nodup {n : Int} {l : List Int} (h : placesS n l = true) : l.Nodup := by
 unfold placesS at h
 rw [Option.isNone_iff_eq_none, firstF_none] at h
 show List.Pairwise (· ≠ ·) l
 rw [List.pairwise_iff_getElem]
 intro i j hi hj hij e
 have := h j hj
 unfold plE at this
 split at this
 ·cases this
 ·rename_i q
  rw [not_or, not_or] at q
  refine q.2.2 ?_
  unfold hasS
  rw [List.any_eq_true]
  refine ⟨l[i], ?_, by simp [e]⟩
  rw [Nat.zero_add]
  exact List.mem_iff_getElem.2 ⟨i, by simp; omega, by simp⟩
theorem map_ts {α β : Type} (f : α → β) (l : List α) {i : Nat} (hi : i < l.length) : (l.take (i + 1)).map f = (l.take i).map f ++ [f l[i]] := by
 rw [List.take_succ_eq_append_getElem hi, List.map_append]; rfl
def upS (l : List Int) : List ApiPart := l.map fun c => ⟨c, false⟩
theorem ref17_Up_eq (l : List Int) (h : l.length ≤ 1048576) : ref17_Up l = some (upS l) := by
 unfold ref17_Up
 refine lpA (w := upS l) (lq1 (fun i => (upS (l.take i), (i : Int))) l.length (fun i hi => ?_) ?_ rfl) rfl
 ·show (bif _ then _ else _) = _
  rw [bif_decT (by omega), getI_at hi, bind_some', bif_decT (by rw [room_val]; simp [upS]; omega), w64_succ (by omega), show upS (l.take (i + 1)) = _ from map_ts _ l hi]
  rfl
 ·show (bif _ then _ else _) = _
  rw [bif_decF (by omega), List.take_length]
theorem schema_up_eq (l : List Int) (h : l.length ≤ 1048576) : schema_up l = some (upS l) := by
 unfold schema_up
 refine lpA (w := upS l) (lq1 (fun i => (upS (l.take i), (i : Int))) l.length (fun i hi => ?_) ?_ rfl) rfl
 ·show (bif _ then _ else _) = _
  rw [bif_decT (by omega), getI_at hi, bind_some', bif_decT (by rw [room_val]; simp [upS]; omega), w64_succ (by omega), show upS (l.take (i + 1)) = _ from map_ts _ l hi]
  rfl
 ·show (bif _ then _ else _) = _
  rw [bif_decF (by omega), List.take_length]
def colsOf (l : List ApiPart) : List Int := l.map (·.Col)
theorem ref17_Cols_eq (l : List ApiPart) (h : l.length ≤ 1048576) : ref17_Cols l = some (colsOf l) := by
 unfold ref17_Cols
 refine lpA (w := colsOf l) (lq1 (fun i => (colsOf (l.take i), (i : Int))) l.length (fun i hi => ?_) ?_ rfl) rfl
 ·show (bif _ then _ else _) = _
  rw [bif_decT (by omega), getI_at hi, bind_some', bif_decT (by rw [room_val]; simp [colsOf]; omega), w64_succ (by omega), show colsOf (l.take (i + 1)) = _ from map_ts _ l hi]
  rfl
 ·show (bif _ then _ else _) = _
  rw [bif_decF (by omega), List.take_length]
def wideS (c : ApiColumn) (each : Int) : Int := if c.Kind = 1 ∨ c.Kind = 2 then 9 else if c.Kind = 3 then 2 else 3 + each * c.Max
theorem colS_ok {c : ApiColumn} (h : colS c = 0) : nameS c.Name = true ∧ 1 ≤ c.Kind ∧ c.Kind ≤ 5 ∧ (if c.Kind = 4 ∨ c.Kind = 5 then 1 ≤ c.Max ∧ c.Max ≤ 64 else c.Max = 0) ∧ fitS c c.Default = 0 := by
 unfold colS at h
 by_cases h1 : nameS c.Name = false
 ·rw [if_pos h1] at h; cases h
 rw [if_neg h1] at h
 by_cases h2 : c.Kind < 1 ∨ c.Kind > 5
 ·rw [if_pos h2] at h; cases h
 rw [if_neg h2] at h
 by_cases h3 : (if c.Kind = 4 ∨ c.Kind = 5 then c.Max < 1 ∨ c.Max > 64 else c.Max ≠ 0)
 ·rw [if_pos h3] at h; cases h
 rw [if_neg h3] at h
 refine ⟨by simpa using h1, by omega, by omega, ?_, h⟩
 by_cases k : c.Kind = 4 ∨ c.Kind = 5
 ·rw [if_pos k] at h3 ⊢; omega
 ·rw [if_neg k] at h3 ⊢; omega
theorem colS_max {c : ApiColumn} (h : colS c = 0) : 0 ≤ c.Max ∧ c.Max ≤ 64 := by
 have := (colS_ok h).2.2.2.1
 split at this <;> omega
theorem ref17_wide_eq (c : ApiColumn) (each : Int) (hc : 0 ≤ c.Max ∧ c.Max ≤ 64) (he : each = 1 ∨ each = 2) : ref17_wide c each = some (wideS c each) := by
 unfold ref17_wide wideS
 refine bo (a := decide (c.Kind = 1 ∨ c.Kind = 2)) ?_ ?_
 ·by_cases k : c.Kind = 1
  ·rw [k]; rfl
  ·rw [beq_eq_false_iff_ne.2 k, cond_false]; congr 1; simp [k, Bool.beq_eq_decide_eq]
 by_cases k : c.Kind = 1 ∨ c.Kind = 2
 ·rw [bif_decT k, if_pos k]
 rw [bif_decF k, if_neg k]
 by_cases k3 : c.Kind = 3
 ·rw [show (c.Kind == 3) = true by simpa using k3, cond_true, if_pos k3]
 rw [show (c.Kind == 3) = false by simpa using k3, cond_false, if_neg k3]
 have hm : 0 ≤ each * c.Max ∧ each * c.Max ≤ 128 := by rcases he with rfl | rfl <;> omega
 generalize each * c.Max = m at hm ⊢
 rw [w64_id (n := m) (by omega) (by omega), w64_id (by omega) (by omega)]
theorem wideS_le {c : ApiColumn} {each : Int} (hc : 0 ≤ c.Max ∧ c.Max ≤ 64) (he : each = 1 ∨ each = 2) : 0 ≤ wideS c each ∧ wideS c each ≤ 131 := by
 unfold wideS
 have hm : 0 ≤ each * c.Max ∧ each * c.Max ≤ 128 := by rcases he with rfl | rfl <;> omega
 repeat' split
 all_goals omega
theorem sum_bound {α : Type} (f : α → Int) : ∀ {l : List α}, (∀ x ∈ l, 0 ≤ f x ∧ f x ≤ 131) → 0 ≤ (l.map f).sum ∧ (l.map f).sum ≤ 131 * l.length
 | [], _ => by simp
 | x :: l, h => by
  have h1 := h x (by simp)
  have h2 := sum_bound f (l := l) (fun y hy => h y (by simp [hy]))
  simp only [List.map_cons, List.sum_cons, List.length_cons]
  omega
theorem sum_take (l : List Int) (i : Nat) (hi : i < l.length) : (l.take (i + 1)).sum = (l.take i).sum + l[i] := by
 rw [List.take_succ_eq_append_getElem hi, List.sum_append]
 simp only [List.sum_cons, List.sum_nil, Int.add_zero]
def rowMaxS (l : List ApiColumn) : Int := 1 + (l.map fun c => wideS c 1).sum
theorem ref17_RowMax_eq (l : List ApiColumn) (h : l.length ≤ 24) (hc : ∀ c ∈ l, 0 ≤ c.Max ∧ c.Max ≤ 64) : ref17_RowMax l = some (rowMaxS l) := by
 unfold ref17_RowMax
 refine lpA (w := rowMaxS l) (lq1 (fun i => (rowMaxS (l.take i), (i : Int))) l.length (fun i hi => ?_) ?_ rfl) rfl
 ·have b := sum_bound (fun c => wideS c 1) (l := l.take i) (fun c h => wideS_le (hc c (List.mem_of_mem_take h)) (.inl rfl))
  have w := wideS_le (each := 1) (hc _ (List.getElem_mem hi)) (.inl rfl)
  have tl : (l.take i).length ≤ 24 := by simp; omega
  show (bif _ then _ else _) = _
  rw [bif_decT (by omega), getI_at hi, bind_some', ref17_wide_eq _ _ (hc _ (List.getElem_mem hi)) (.inl rfl), bind_some', w64_succ (by omega)]
  have e : rowMaxS (l.take (i + 1)) = rowMaxS (l.take i) + wideS l[i] 1 := by
   unfold rowMaxS
   rw [List.map_take, List.map_take, sum_take _ _ (by simpa using hi)]; simp; omega
  rw [e, w64_id (by unfold rowMaxS; omega) (by unfold rowMaxS; omega)]
 ·show (bif _ then _ else _) = _
  rw [bif_decF (by omega), List.take_length]
def colAt (cols : List ApiColumn) (i : Int) : ApiColumn := (cols[i.toNat]?).getD default
theorem colAt_eq {cols : List ApiColumn} {i : Int} (h : 0 ≤ i ∧ i < cols.length) : getI cols i = some (colAt cols i) := by
 unfold getI colAt
 rw [if_pos h.1]
 have hl : i.toNat < cols.length := by omega
 rw [List.getElem?_eq_getElem hl]; rfl
theorem colAt_mem {cols : List ApiColumn} {i : Int} (h : 0 ≤ i ∧ i < cols.length) : colAt cols i ∈ cols := by
 unfold colAt
 have hl : i.toNat < cols.length := by omega
 rw [List.getElem?_eq_getElem hl]; exact List.getElem_mem hl
def keyMaxS (cols : List ApiColumn) (l : List ApiPart) : Int := (l.map fun p => wideS (colAt cols p.Col) 2).sum
theorem ref17_KeyMax_eq (cols : List ApiColumn) (l : List ApiPart) (h : l.length ≤ 1048576) (hp : ∀ p ∈ l, 0 ≤ p.Col ∧ p.Col < cols.length) (hc : ∀ c ∈ cols, 0 ≤ c.Max ∧ c.Max ≤ 64) : ref17_KeyMax cols l = some (keyMaxS cols l) := by
 unfold ref17_KeyMax
 refine lpA (w := keyMaxS cols l) (lq1 (fun i => (keyMaxS cols (l.take i), (i : Int))) l.length (fun i hi => ?_) ?_ rfl) rfl
 ·have b := sum_bound (fun p : ApiPart => wideS (colAt cols p.Col) 2) (l := l.take i) (fun p h => wideS_le (hc _ (colAt_mem (hp p (List.mem_of_mem_take h)))) (.inr rfl))
  have hq := hp _ (List.getElem_mem hi)
  have w := wideS_le (each := 2) (hc _ (colAt_mem hq)) (.inr rfl)
  have tl : (l.take i).length ≤ 1048576 := by simp; omega
  show (bif _ then _ else _) = _
  rw [bif_decT (by omega), getI_at hi, bind_some', colAt_eq hq, bind_some', ref17_wide_eq _ _ (hc _ (colAt_mem hq)) (.inr rfl), bind_some', w64_succ (by omega)]
  have e : keyMaxS cols (l.take (i + 1)) = keyMaxS cols (l.take i) + wideS (colAt cols l[i].Col) 2 := by
   unfold keyMaxS
   rw [List.map_take, List.map_take, sum_take _ _ (by simpa using hi)]; simp
  rw [e, w64_id (by unfold keyMaxS; omega) (by unfold keyMaxS; omega)]
 ·show (bif _ then _ else _) = _
  rw [bif_decF (by omega), List.take_length]
def indexS (t : ApiTable) (x : ApiIndex) : Int :=
 if x.Parts.length < 1 ∨ x.Parts.length > 4 ∨ placesS t.Cols.length (colsOf x.Parts) = false ∨ placesS t.Cols.length x.Extra = false then 1
 else if (x.Extra.any fun c => hasS (colsOf x.Parts) c || hasS t.Primary c) = true then 1
 else if keyMaxS t.Cols x.Parts > 128 then 7 else 0
theorem parts_in {n : Int} {l : List ApiPart} (h : placesS n (colsOf l) = true) : ∀ p ∈ l, 0 ≤ p.Col ∧ p.Col < n := fun p hp => placesS_in h p.Col (List.mem_map.2 ⟨p, hp, rfl⟩)
theorem ref17_index_eq (t : ApiTable) (x : ApiIndex) (hc : ∀ c ∈ t.Cols, 0 ≤ c.Max ∧ c.Max ≤ 64) (hx : OkX x) (hp : t.Primary.length < 4611686018427387904) : ref17_index t x = some (indexS t x) := by
 unfold ref17_index indexS
 obtain ⟨o1, o2, o3⟩ := hx
 refine bo (a := decide (x.Parts.length < 1 ∨ x.Parts.length > 4 ∨ placesS t.Cols.length (colsOf x.Parts) = false ∨ placesS t.Cols.length x.Extra = false)) ?_ ?_
 ·by_cases h1 : x.Parts.length < 1
  ·rw [bif_decT (by omega), decide_eq_true (.inl h1)]
  rw [bif_decF (by omega)]
  by_cases h2 : x.Parts.length > 4
  ·rw [bif_decT (by omega), decide_eq_true (.inr (.inl h2))]
  rw [bif_decF (by omega), ref17_Cols_eq _ (by omega), bind_some', ref17_places_eq _ _ (by simp [colsOf]; omega), bind_some']
  cases p1 : placesS t.Cols.length (colsOf x.Parts) with
  | false => simp
  | true =>
   rw [Bool.not_true, cond_false, ref17_places_eq _ _ o3, bind_some']
   cases p2 : placesS t.Cols.length x.Extra <;> simp [h1, h2]
 by_cases q : x.Parts.length < 1 ∨ x.Parts.length > 4 ∨ placesS t.Cols.length (colsOf x.Parts) = false ∨ placesS t.Cols.length x.Extra = false
 ·rw [bif_decT q, if_pos q]
 rw [bif_decF q, if_neg q]
 simp only [not_or, Bool.not_eq_false] at q
 refine lpE (lq3 x.Extra (fun c => hasS (colsOf x.Parts) c || hasS t.Primary c) (.inr 1) (.inl ()) (fun i => (i : Int)) (fun i hi => ?_) ?_ rfl) ?_
 ·show (bif _ then _ else _) = _
  rw [bif_decT (by omega), getI_at hi, w64_succ (by omega), ref17_Cols_eq _ (by omega)]
  simp only [bind_some']
  rw [ref17_Has_eq _ _ (by simp [colsOf]; omega), bind_some', ref17_Has_eq _ _ hp]
  cases hasS (colsOf x.Parts) x.Extra[i] <;> cases hasS t.Primary x.Extra[i] <;> rfl
 ·show (bif _ then _ else _) = _
  rw [bif_decF (by omega)]
 ·cases (x.Extra.any fun c => hasS (colsOf x.Parts) c || hasS t.Primary c) with
  | true => rfl
  | false =>
   simp only [Bool.false_eq_true, if_false, Sum.elim_inl]
   rw [ref17_KeyMax_eq _ _ (by omega) (parts_in q.2.2.1) hc, bind_some']
   by_cases k : keyMaxS t.Cols x.Parts > 128
   ·rw [bif_decT k, if_pos k]
   ·rw [bif_decF k, if_neg k]
end Lv
/- Plain laws: which tables are right; a copy. -/
namespace Lv
open Go Go.Proofs
set_option linter.unusedVariables false
set_option linter.unusedSimpArgs false
set_option linter.unusedSectionVars false
set_option maxRecDepth 100000
variable [BaseTab]
def colE (l : List ApiColumn) (i : Nat) (c : ApiColumn) : Option Int := if colS c ≠ 0 then some (colS c) else if ((l.take i).any fun d => d.Name == c.Name) = true then some 6 else none
def idxE (t : ApiTable) (i : Nat) (x : ApiIndex) : Option Int :=
 if nameS x.Name = false then some 1 else if ((t.Indexes.take i).any fun y => y.Name == x.Name) = true then some 6 else if indexS t x ≠ 0 then some (indexS t x) else none
def chkS (t : ApiTable) : Int :=
 if nameS t.Name = false then 1 else if t.Cols.length < 1 ∨ t.Cols.length > 24 then 7 else match firstF (colE t.Cols) 0 t.Cols with
 | some e => e
 | none => if t.Primary.length < 1 ∨ t.Primary.length > 4 ∨ placesS t.Cols.length t.Primary = false then 1
  else if (t.Primary.any fun c => (colAt t.Cols c).Nulls) = true then 1
  else if rowMaxS t.Cols > 512 ∨ keyMaxS t.Cols (upS t.Primary) > 128 ∨ t.Indexes.length > 6 then 7
  else match firstF (idxE t) 0 t.Indexes with
   | some e => e
   | none => 0
theorem up_in {n : Int} {l : List Int} (h : placesS n l = true) : ∀ p ∈ upS l, 0 ≤ p.Col ∧ p.Col < n := by
 intro p hp
 obtain ⟨c, hc, rfl⟩ := List.mem_map.1 hp
 exact placesS_in h c hc
theorem firstF_map {α W V : Type} (f : Nat → α → Option W) (g : W → V) : ∀ (l : List α) (i : Nat), firstF (fun i x => (f i x).map g) i l = (firstF f i l).map g
 | [], i => rfl
 | x :: r, i => by rw [firstF, firstF]; cases f i x <;> simp [firstF_map f g r]
theorem cols_of_none {l : List ApiColumn} (h : firstF (colE l) 0 l = none) : ∀ c ∈ l, colS c = 0 := by
 rw [firstF_none] at h
 intro c hc
 obtain ⟨i, hi, rfl⟩ := List.mem_iff_getElem.1 hc
 have := h i hi
 unfold colE at this
 by_cases q : colS l[i] = 0
 ·exact q
 ·rw [if_pos q] at this; cases this
theorem ref17_Check_eq (t : ApiTable) (h : OkT t) : ref17_Check t = some (chkS t) := by
  unfold ref17_Check chkS
  rw [ref06_Name_eq _ h.name, bind_some']
  cases nameS t.Name with
  | false => rfl
  | true =>
  rw [Bool.not_true, cond_false, if_neg (by simp)]
  refine bo (a := decide (t.Cols.length < 1 ∨ t.Cols.length > 24)) ?_ ?_
  · by_cases k : t.Cols.length < 1
    · rw [bif_decT (by omega)]; simp [k]
    · rw [bif_decF (by omega)]; congr 1; exact decI (by omega)
  by_cases q : t.Cols.length < 1 ∨ t.Cols.length > 24
  · rw [bif_decT q, if_pos q]
  rw [bif_decF q, if_neg q]
  refine lpE (lq5 t.Cols (fun i c => (colE t.Cols i c).map fun e => (.inr e : Unit ⊕ Int)) (.inl ()) (fun i => (i : Int)) (fun i hi => ?_) ?_ rfl) ?_
  · have hm := List.getElem_mem hi
    show (bif _ then _ else _) = _
    rw [bif_decT (by omega), getI_at hi, w64_succ (by omega)]
    unfold colE
    refine (?_ : bindE _ _ _ = _)
    simp only [bind_some']
    rw [ref06_Column_eq _ (h.cols.2 _ hm).1 (h.cols.2 _ hm).2, bind_some']
    by_cases k : colS t.Cols[i] = 0
    rotate_left
    · rw [show (colS t.Cols[i] != 0) = true by simpa using k, cond_true, bindE_r, if_pos k]; rfl
    rw [show (colS t.Cols[i] != 0) = false by simpa using k, cond_false, if_neg (by simpa using k)]
    have tl : (t.Cols.take i).length = i := by simp; omega
    have inner := lq3 (y0 := (0 : Int)) (B := (fun y590 : Int =>
                      bif (decide (y590 < (i : Int))) then
                        Option.bind (getI t.Cols y590) fun v596 =>
                        bif (v596.Name == t.Cols[i].Name) then
                          some (Sum.inr (Sum.inr (6 : Int)))
                        else
                          some (Sum.inl (w64 (y590 + (1 : Int))))
                      else
                        some (Sum.inr (Sum.inl ())))) (t.Cols.take i) (fun d => d.Name == t.Cols[i].Name) (.inr 6) (.inl ()) (fun j => (j : Int)) (fun j hj => by
          show (bif _ then _ else _) = _
          rw [bif_decT (by omega), getI_at (by omega), bind_some', w64_succ (by omega), List.getElem_take]
          cases t.Cols[j].Name == t.Cols[i].Name <;> rfl) (by
          show (bif _ then _ else _) = _
          rw [bif_decF (by omega)]) rfl
    cases ha : ((t.Cols.take i).any fun d => d.Name == t.Cols[i].Name) with
    | true =>
      rw [ha] at inner
      rw [inner]; rfl
    | false =>
      rw [ha] at inner
      rw [inner]; rfl
  · show (bif _ then _ else _) = _
    rw [bif_decF (by omega)]
  rw [firstF_map]
  cases hc : firstF (colE t.Cols) 0 t.Cols with
  | some e => rfl
  | none =>
  have hcol := cols_of_none hc
  have hmax : ∀ c ∈ t.Cols, 0 ≤ c.Max ∧ c.Max ≤ 64 := fun c hm => colS_max (hcol c hm)
  simp only [Option.map_none, Option.getD_none, Sum.elim_inl]
  refine bo (a := decide (t.Primary.length < 1 ∨ t.Primary.length > 4 ∨ placesS t.Cols.length t.Primary = false)) ?_ ?_
  · by_cases k : t.Primary.length < 1
    · rw [bif_decT (by omega)]; simp [k]
    rw [bif_decF (by omega)]
    by_cases k2 : t.Primary.length > 4
    · rw [bif_decT (by omega)]; simp [k2]
    rw [bif_decF (by omega), ref17_places_eq _ _ h.prim, bind_some']
    cases placesS t.Cols.length t.Primary <;> simp [k, k2]
  by_cases q2 : t.Primary.length < 1 ∨ t.Primary.length > 4 ∨ placesS t.Cols.length t.Primary = false
  · rw [bif_decT q2, if_pos q2]
  rw [bif_decF q2, if_neg q2]
  simp only [not_or, Bool.not_eq_false] at q2
  refine lpE (lq3 t.Primary (fun c => (colAt t.Cols c).Nulls) (.inr 1) (.inl ()) (fun i => (i : Int)) (fun i hi => ?_) ?_ rfl) ?_
  · show (bif _ then _ else _) = _
    rw [bif_decT (by omega), getI_at hi, bind_some', colAt_eq (placesS_in q2.2.2 _ (List.getElem_mem hi)), bind_some', w64_succ (by omega)]
    cases (colAt t.Cols t.Primary[i]).Nulls <;> rfl
  · show (bif _ then _ else _) = _
    rw [bif_decF (by omega)]
  cases (t.Primary.any fun c => (colAt t.Cols c).Nulls) with
  | true => rfl
  | false =>
  simp only [Bool.false_eq_true, if_false, Sum.elim_inl]
  refine bo (a := decide (rowMaxS t.Cols > 512 ∨ keyMaxS t.Cols (upS t.Primary) > 128 ∨ t.Indexes.length > 6)) ?_ ?_
  · rw [ref17_RowMax_eq _ (by omega) hmax, bind_some']
    by_cases k : rowMaxS t.Cols > 512
    · rw [bif_decT k]; simp [k]
    rw [bif_decF k, ref17_Up_eq _ (by omega), bind_some', ref17_KeyMax_eq _ _ (by simp [upS]; omega) (up_in q2.2.2) hmax, bind_some']
    by_cases k2 : keyMaxS t.Cols (upS t.Primary) > 128
    · rw [bif_decT k2]; simp [k2]
    rw [bif_decF k2]; congr 1; simp only [k, k2, false_or]; exact decI (by omega)
  by_cases q3 : rowMaxS t.Cols > 512 ∨ keyMaxS t.Cols (upS t.Primary) > 128 ∨ t.Indexes.length > 6
  · rw [bif_decT q3, if_pos q3]
  rw [bif_decF q3, if_neg q3]
  refine lpE (lq5 t.Indexes (fun i x => (idxE t i x).map fun e => (.inr e : Unit ⊕ Int)) (.inl ()) (fun i => (i : Int)) (fun i hi => ?_) ?_ rfl) ?_
  · have hm := List.getElem_mem hi
    show (bif _ then _ else _) = _
    rw [bif_decT (by omega), getI_at hi, w64_succ (by omega)]
    unfold idxE
    refine (?_ : bindE _ _ _ = _)
    simp only [bind_some']
    rw [ref06_Name_eq _ (h.idx _ hm).1, bind_some']
    cases hn : nameS t.Indexes[i].Name with
    | false => rfl
    | true =>
    rw [Bool.not_true, cond_false, if_neg (by simp)]
    have tl : (t.Indexes.take i).length = i := by simp; omega
    have inner := lq3 (y0 := (0 : Int)) (B := (fun y874 : Int =>
                                    bif (decide (y874 < (i : Int))) then
                                      Option.bind (getI t.Indexes y874) fun v879 =>
                                      bif (v879.Name == t.Indexes[i].Name) then
                                        some (Sum.inr (Sum.inr (6 : Int)))
                                      else
                                        some (Sum.inl (w64 (y874 + (1 : Int))))
                                    else
                                      some (Sum.inr (Sum.inl ())))) (t.Indexes.take i) (fun d => d.Name == t.Indexes[i].Name) (.inr 6) (.inl ()) (fun j => (j : Int)) (fun j hj => by
          show (bif _ then _ else _) = _
          rw [bif_decT (by omega), getI_at (by omega), bind_some', w64_succ (by omega), List.getElem_take]
          cases t.Indexes[j].Name == t.Indexes[i].Name <;> rfl) (by
          show (bif _ then _ else _) = _
          rw [bif_decF (by omega)]) rfl
    rw [inner]
    cases ha : ((t.Indexes.take i).any fun d => d.Name == t.Indexes[i].Name) with
    | true => rfl
    | false =>
      simp only [Bool.false_eq_true, if_false]
      rw [ref17_index_eq t _ hmax (h.idx _ hm) h.prim]
      by_cases k : indexS t t.Indexes[i] = 0
      · rw [k]; rfl
      · rw [if_pos k]
        refine beE (x := indexS t t.Indexes[i]) ?_ rfl
        refine beY (y := ()) rfl ?_
        rw [bind_some', show (indexS t t.Indexes[i] != 0) = true by simpa using k]; rfl
  · show (bif _ then _ else _) = _
    rw [bif_decF (by omega)]
  rw [firstF_map]
  cases firstF (idxE t) 0 t.Indexes <;> rfl
structure Right (t : ApiTable) : Prop where
 len : 1 ≤ t.Cols.length ∧ t.Cols.length ≤ 24
 col : ∀ c ∈ t.Cols, colS c = 0
 pri : 1 ≤ t.Primary.length ∧ t.Primary.length ≤ 4
 pla : placesS t.Cols.length t.Primary = true
 row : rowMaxS t.Cols ≤ 512
 key : keyMaxS t.Cols (upS t.Primary) ≤ 128
 ixs : t.Indexes.length ≤ 6
 idx : ∀ x ∈ t.Indexes, indexS t x = 0
theorem Right.of {t : ApiTable} (h : chkS t = 0) : Right t := by
 unfold chkS at h
 by_cases h1 : nameS t.Name = false
 ·rw [if_pos h1] at h; cases h
 rw [if_neg h1] at h
 by_cases h2 : t.Cols.length < 1 ∨ t.Cols.length > 24
 ·rw [if_pos h2] at h; cases h
 rw [if_neg h2] at h
 cases h3 : firstF (colE t.Cols) 0 t.Cols with
 | some e =>
  rw [h3] at h
  exfalso
  have : ∀ (l : List ApiColumn) (i : Nat) (e : Int), firstF (colE t.Cols) i l = some e → e ≠ 0 := by
   intro l
   induction l with
   | nil => intro i e h; cases h
   | cons x r ih =>
    intro i e h
    rw [firstF] at h
    cases hx : colE t.Cols i x with
    | none => rw [hx] at h; exact ih _ _ h
    | some e' =>
     rw [hx] at h
     cases h
     unfold colE at hx
     by_cases q : colS x = 0
     ·rw [if_neg (by simpa using q)] at hx
      by_cases q2 : ((t.Cols.take i).any fun d => d.Name == x.Name) = true
      ·rw [if_pos q2] at hx; cases hx; decide
      ·rw [if_neg q2] at hx; cases hx
     ·rw [if_pos q] at hx; cases hx; exact q
  exact this _ _ _ h3 h
 | none =>
 rw [h3] at h
 simp only at h
 by_cases h4 : t.Primary.length < 1 ∨ t.Primary.length > 4 ∨ placesS t.Cols.length t.Primary = false
 ·rw [if_pos h4] at h; cases h
 rw [if_neg h4] at h
 by_cases h5 : (t.Primary.any fun c => (colAt t.Cols c).Nulls) = true
 ·rw [if_pos h5] at h; cases h
 rw [if_neg h5] at h
 by_cases h6 : rowMaxS t.Cols > 512 ∨ keyMaxS t.Cols (upS t.Primary) > 128 ∨ t.Indexes.length > 6
 ·rw [if_pos h6] at h; cases h
 rw [if_neg h6] at h
 simp only [not_or, Bool.not_eq_false] at h2 h4 h6
 refine ⟨by omega, cols_of_none h3, by omega, h4.2.2, by omega, by omega, by omega, fun x hx => ?_⟩
 obtain ⟨i, hi, rfl⟩ := List.mem_iff_getElem.1 hx
 cases h7 : firstF (idxE t) 0 t.Indexes with
 | none =>
  rw [firstF_none] at h7
  have := h7 i hi
  unfold idxE at this
  by_cases q : nameS t.Indexes[i].Name = false
  ·rw [if_pos q] at this; cases this
  rw [if_neg q] at this
  by_cases q2 : ((t.Indexes.take (0 + i)).any fun y => y.Name == t.Indexes[i].Name) = true
  ·rw [if_pos q2] at this; cases this
  rw [if_neg q2] at this
  by_cases q3 : indexS t t.Indexes[i] = 0
  ·exact q3
  ·rw [if_pos q3] at this; cases this
 | some e =>
  rw [h7] at h
  exfalso
  have : ∀ (l : List ApiIndex) (i : Nat) (e : Int), firstF (idxE t) i l = some e → e ≠ 0 := by
   intro l
   induction l with
   | nil => intro i e h; cases h
   | cons x r ih =>
    intro i e h
    rw [firstF] at h
    cases hx : idxE t i x with
    | none => rw [hx] at h; exact ih _ _ h
    | some e' =>
     rw [hx] at h
     cases h
     unfold idxE at hx
     by_cases q : nameS x.Name = false
     ·rw [if_pos q] at hx; cases hx; decide
     rw [if_neg q] at hx
     by_cases q2 : ((t.Indexes.take i).any fun y => y.Name == x.Name) = true
     ·rw [if_pos q2] at hx; cases hx; decide
     rw [if_neg q2] at hx
     by_cases q3 : indexS t x = 0
     ·rw [if_neg (by simpa using q3)] at hx; cases hx
     ·rw [if_pos q3] at hx; cases hx; exact q3
  exact this _ _ _ h7 h
structure RightX (t : ApiTable) (x : ApiIndex) : Prop where
 par : 1 ≤ x.Parts.length ∧ x.Parts.length ≤ 4
 pla : placesS t.Cols.length (colsOf x.Parts) = true
 ext : placesS t.Cols.length x.Extra = true
 key : keyMaxS t.Cols x.Parts ≤ 128
theorem RightX.of {t : ApiTable} {x : ApiIndex} (h : indexS t x = 0) : RightX t x := by
 unfold indexS at h
 by_cases h1 : x.Parts.length < 1 ∨ x.Parts.length > 4 ∨ placesS t.Cols.length (colsOf x.Parts) = false ∨ placesS t.Cols.length x.Extra = false
 ·rw [if_pos h1] at h; cases h
 rw [if_neg h1] at h
 by_cases h2 : (x.Extra.any fun c => hasS (colsOf x.Parts) c || hasS t.Primary c) = true
 ·rw [if_pos h2] at h; cases h
 rw [if_neg h2] at h
 by_cases h3 : keyMaxS t.Cols x.Parts > 128
 ·rw [if_pos h3] at h; cases h
 simp only [not_or, Bool.not_eq_false] at h1
 exact ⟨by omega, h1.2.2.1, h1.2.2.2, by omega⟩
theorem nd_len : ∀ (n : Nat) (l : List Nat), l.Nodup → (∀ x ∈ l, x < n) → l.length ≤ n
 | 0, [], _, _ => by simp
 | 0, x :: l, _, h => absurd (h x (by simp)) (by omega)
 | n + 1, l, hd, h => by
  have h1 := nd_len n (l.erase n) (hd.erase n) (fun x hx => by
   have := (List.Nodup.mem_erase_iff hd).1 hx
   have := h x this.2
   omega)
  have := List.length_erase (a := n) (l := l)
  split at this <;> omega
theorem nodup_len {n : Nat} {l : List Int} (h : placesS n l = true) : l.length ≤ n := by
 have h1 := placesS_in h
 have h2 := placesS_nodup h
 have h3 : (l.map Int.toNat).Nodup := by
  show List.Pairwise (· ≠ ·) _
  rw [List.pairwise_map]
  refine List.Pairwise.imp_of_mem ?_ h2
  intro a b ha hb hab e
  have := h1 a ha; have := h1 b hb
  omega
 have h4 : ∀ x ∈ l.map Int.toNat, x < n := by
  intro x hx
  obtain ⟨c, hc, rfl⟩ := List.mem_map.1 hx
  have := h1 c hc; omega
 have := nd_len n _ h3 h4
 simpa using this
end Lv
/- Plain laws: the keys and entries of a table's rows. -/
namespace Lv
open Go Go.Proofs
set_option linter.unusedVariables false
set_option linter.unusedSimpArgs false
set_option linter.unusedSectionVars false
set_option maxRecDepth 100000
variable [BaseTab]
theorem fitS_ok {c : ApiColumn} {v : ApiValue} (h : fitS c v = 0) : val v = true ∧ (v.Kind = 0 ∨ v.Kind = c.Kind) ∧ ((v.Kind = 4 ∨ v.Kind = 5) → (v.S.length : Int) ≤ c.Max) := by
 unfold fitS at h
 by_cases h1 : val v = false
 ·rw [if_pos h1] at h; cases h
 rw [if_neg h1] at h
 have hv : val v = true := by simpa using h1
 by_cases h2 : v.Kind = 0
 ·exact ⟨hv, .inl h2, fun k => by omega⟩
 rw [if_neg h2] at h
 by_cases h3 : v.Kind ≠ c.Kind
 ·rw [if_pos h3] at h; cases h
 rw [if_neg h3] at h
 by_cases h4 : (v.Kind = 4 ∨ v.Kind = 5) ∧ (v.S.length : Int) > c.Max
 ·rw [if_pos h4] at h; cases h
 exact ⟨hv, .inr (by simpa using h3), fun k => by
  rcases Int.lt_or_le c.Max v.S.length with q | q
  ·exact absurd ⟨k, q⟩ h4
  ·exact q⟩
structure Fit (cols : List ApiColumn) (l : List ApiValue) : Prop where
 rc : colsS cols = true
 len : l.length = cols.length
 fit : ∀ i (h1 : i < cols.length) (h2 : i < l.length), fitS cols[i] l[i] = 0
theorem Fit.of {cols : List ApiColumn} {l : List ApiValue} (h : fitsS cols l = 0) : Fit cols l := by
 unfold fitsS at h
 by_cases q : colsS cols = false ∨ l.length ≠ cols.length
 ·rw [if_pos q] at h; cases h
 rw [if_neg q] at h
 simp only [not_or, Bool.not_eq_false, ne_eq, Decidable.not_not] at q
 refine ⟨q.1, q.2, fun i h1 h2 => ?_⟩
 have hn : (cols.zip l).findSome? fitE = none := by
  cases hf : (cols.zip l).findSome? fitE with
  | none => rfl
  | some e =>
   rw [hf] at h
   exfalso
   obtain ⟨p, _, hp⟩ := List.exists_of_findSome?_eq_some hf
   unfold fitE at hp
   by_cases k : fitS p.1 p.2 = 0
   ·rw [if_pos k] at hp; cases hp
   ·rw [if_neg k] at hp; cases hp; exact k h
 rw [List.findSome?_eq_none_iff] at hn
 have := hn (cols[i], l[i]) (List.mem_iff_getElem.2 ⟨i, by simp; omega, by rw [List.getElem_zip]⟩)
 unfold fitE at this
 by_cases k : fitS cols[i] l[i] = 0
 ·exact k
 ·rw [if_neg k] at this; cases this
theorem Fit.to {cols : List ApiColumn} {l : List ApiValue} (h : Fit cols l) : fitsS cols l = 0 := by
 unfold fitsS
 rw [if_neg (by rw [h.rc, h.len]; simp)]
 have hn : (cols.zip l).findSome? fitE = none := by
  rw [List.findSome?_eq_none_iff]
  intro p hp
  obtain ⟨i, hi, rfl⟩ := List.mem_iff_getElem.1 hp
  have hi' : i < cols.length ∧ i < l.length := by have := hi; simp at this; omega
  rw [List.getElem_zip]
  unfold fitE
  rw [if_pos (h.fit i hi'.1 hi'.2)]
 rw [hn]; rfl
theorem Fit.val {cols : List ApiColumn} {l : List ApiValue} (h : Fit cols l) : ∀ v ∈ l, val v = true := by
 intro v hv
 obtain ⟨i, hi, rfl⟩ := List.mem_iff_getElem.1 hv
 exact (fitS_ok (h.fit i (by rw [← h.len]; exact hi) hi)).1
def vAt (l : List ApiValue) (i : Int) : ApiValue := (l[i.toNat]?).getD default
theorem Fit.at {cols : List ApiColumn} {l : List ApiValue} (h : Fit cols l) {i : Int} (hi : 0 ≤ i ∧ i < cols.length) : fitS (colAt cols i) (vAt l i) = 0 := by
 unfold colAt vAt
 have h1 : i.toNat < cols.length := by omega
 have h2 : i.toNat < l.length := by rw [h.len]; exact h1
 rw [List.getElem?_eq_getElem h1, List.getElem?_eq_getElem h2]
 exact h.fit _ h1 h2
end Lv
/- Plain laws: what a change of a row asks of its table's trees. -/
namespace Lv
open Go Go.Proofs
set_option linter.unusedVariables false
set_option linter.unusedSimpArgs false
set_option linter.unusedSectionVars false
set_option maxRecDepth 100000
variable [BaseTab]
end Lv
/- Plain laws: a change of a row, by the program. -/
namespace Lv
open Go Go.Proofs
set_option linter.unusedVariables false
set_option linter.unusedSimpArgs false
set_option linter.unusedSectionVars false
set_option maxRecDepth 100000
variable [BaseTab]
end Lv
/- Plain laws: a change of a row, by the reference. -/
namespace Lv
open Go Go.Proofs
set_option linter.unusedVariables false
set_option linter.unusedSimpArgs false
set_option linter.unusedSectionVars false
set_option maxRecDepth 100000
variable [BaseTab]
end Lv
/- Plain laws: the same tables, the same work; the law FanChanges. -/
namespace Lv
open Go Go.Proofs
set_option linter.unusedVariables false
set_option linter.unusedSimpArgs false
set_option linter.unusedSectionVars false
set_option maxRecDepth 100000
variable [BaseTab]
theorem eqlp {α : Type} [DecidableEq α] (a b : List α) (eq : α → α → Bool) (heq : ∀ x y, eq x y = decide (x = y)) (hl : a.length = b.length) {B : Int → Option (Int ⊕ (Unit ⊕ Bool))}
  (h : ∀ i (h1 : i < a.length) (h2 : i < b.length), B (i : Int) = some (if eq a[i] b[i] = true then .inl ((i + 1 : Nat) : Int) else .inr (.inr false))) (he : B (a.length : Int) = some (.inr (.inl ()))) :
  loop B 0 = some (if a = b then .inl () else .inr false) := by
 have z : (a.zip b).length = a.length := by simp [hl]
 refine (lq3 (a.zip b) (fun p => !eq p.1 p.2) (.inr false) (.inl ()) (fun i => (i : Int)) (fun i hi => ?_) ?_ rfl).trans ?_
 ·rw [h i (by omega) (by omega), List.getElem_zip]
  cases eq a[i] b[i] <;> rfl
 ·rw [z]; exact he
 ·have key : ((a.zip b).any fun p => !eq p.1 p.2) = !decide (a = b) := by
   by_cases q : a = b
   ·subst q
    rw [decide_eq_true rfl, Bool.not_true, List.any_eq_false]
    intro p hp
    obtain ⟨i, hi, rfl⟩ := List.mem_iff_getElem.1 hp
    rw [List.getElem_zip, heq]; simp
   ·rw [decide_eq_false q, Bool.not_false, List.any_eq_true]
    have : ∃ i, ∃ h1 : i < a.length, ∃ h2 : i < b.length, a[i] ≠ b[i] := Decidable.byContradiction fun hn => q (List.ext_getElem hl fun i h1 h2 => Decidable.byContradiction fun hne => hn ⟨i, h1, h2, hne⟩)
    obtain ⟨i, h1, h2, hne⟩ := this
    refine ⟨(a[i], b[i]), List.mem_iff_getElem.2 ⟨i, by omega, by rw [List.getElem_zip]⟩, ?_⟩
    rw [heq, decide_eq_false hne]; rfl
  rw [key]
  by_cases q : a = b <;> simp [q]
theorem raw_Ints_eq (a b : List Int) (h : a.length < 4611686018427387904) : raw_Ints a b = some (decide (a = b)) := by
 unfold raw_Ints
 rw [nat_ne]
 by_cases hl : a.length = b.length
 rotate_left
 ·rw [show (a.length != b.length) = true by simpa using hl, cond_true, decide_eq_false (fun e => hl (by rw [e]))]
 rw [show (a.length != b.length) = false by simpa using hl, cond_false]
 refine lpE (eqlp a b (fun x y => x == y) (fun x y => by simp [Bool.beq_eq_decide_eq]) hl (fun i h1 h2 => ?_) ?_) (by by_cases q : a = b <;> simp [q])
 ·show (bif _ then _ else _) = _
  rw [bif_decT (by omega), getI_at h1, bind_some', getI_at h2, bind_some', w64_succ (by omega)]
  by_cases k : a[i] = b[i]
  ·rw [show (a[i] != b[i]) = false by simpa using k, if_pos (by simpa using k)]; rfl
  ·rw [show (a[i] != b[i]) = true by simpa using k, if_neg (by simpa using k)]; rfl
 ·show (bif _ then _ else _) = _
  rw [bif_decF (by omega)]
theorem eqCol (a b : ApiColumn) : eqApiColumn a b = decide (a = b) := by
 cases a; cases b
 simp only [eqApiColumn, ApiColumn.mk.injEq, eqV]
 rw [Bool.eq_iff_iff]
 simp
theorem eqPart (a b : ApiPart) : eqApiPart a b = decide (a = b) := by
 cases a; cases b
 simp only [eqApiPart, ApiPart.mk.injEq]
 rw [Bool.eq_iff_iff]
 simp
def sameX (a b : ApiIndex) : Bool := decide (a = b)
theorem ref17_Same_eq (a b : ApiTable) (h : OkT a) : ref17_Same a b = some (decide (a = b)) := by
 unfold ref17_Same
 have hcl := h.cols.1
 refine bo (a := !decide (a.Name = b.Name ∧ a.Tree = b.Tree ∧ a.Cols.length = b.Cols.length ∧ a.Primary = b.Primary ∧ a.Indexes.length = b.Indexes.length)) ?_ ?_
 ·by_cases h1 : a.Name = b.Name
  rotate_left
  ·rw [show (a.Name != b.Name) = true by simpa using h1]; simp [h1]
  rw [show (a.Name != b.Name) = false by simpa using h1, cond_false]
  by_cases h2 : a.Tree = b.Tree
  rotate_left
  ·rw [show (a.Tree != b.Tree) = true by simpa using h2]; simp [h2]
  rw [show (a.Tree != b.Tree) = false by simpa using h2, cond_false, nat_ne]
  by_cases h3 : a.Cols.length = b.Cols.length
  rotate_left
  ·rw [show (a.Cols.length != b.Cols.length) = true by simpa using h3]; simp [h3]
  rw [show (a.Cols.length != b.Cols.length) = false by simpa using h3, cond_false, raw_Ints_eq _ _ h.prim, bind_some']
  by_cases h4 : a.Primary = b.Primary
  rotate_left
  ·rw [decide_eq_false h4]; simp [h4]
  rw [decide_eq_true h4, Bool.not_true, cond_false, nat_ne]
  by_cases h5 : a.Indexes.length = b.Indexes.length
  ·simp [h1, h2, h3, h4, h5]
  ·rw [show (a.Indexes.length != b.Indexes.length) = true by simpa using h5]; simp [h5]
 by_cases q : a.Name = b.Name ∧ a.Tree = b.Tree ∧ a.Cols.length = b.Cols.length ∧ a.Primary = b.Primary ∧ a.Indexes.length = b.Indexes.length
 rotate_left
 ·rw [decide_eq_false q, Bool.not_false, cond_true, decide_eq_false (fun e => q (by rw [e]; simp))]
 rw [decide_eq_true q, Bool.not_true, cond_false]
 obtain ⟨q1, q2, q3, q4, q5⟩ := q
 refine lpE (eqlp a.Cols b.Cols eqApiColumn eqCol q3 (fun i h1 h2 => ?_) ?_) ?_
 ·show (bif _ then _ else _) = _
  rw [bif_decT (by omega), getI_at h1, bind_some', getI_at h2, bind_some', w64_succ (by omega)]
  cases eqApiColumn a.Cols[i] b.Cols[i] <;> rfl
 ·show (bif _ then _ else _) = _
  rw [bif_decF (by omega)]
 by_cases e1 : a.Cols = b.Cols
 rotate_left
 ·rw [if_neg e1, decide_eq_false (fun e => e1 (by rw [e]))]; rfl
 rw [if_pos e1, Sum.elim_inl]
 have hil := h.idxs
 refine lpE (eqlp a.Indexes b.Indexes sameX (fun x y => rfl) q5 (fun i h1 h2 => ?_) ?_) ?_
 ·have hm := h.idx _ (List.getElem_mem h1)
  show (bif _ then _ else _) = _
  rw [bif_decT (by omega), getI_at h1, getI_at h2, w64_succ (by omega)]
  generalize hx : a.Indexes[i] = x at hm ⊢
  generalize hy : b.Indexes[i] = y
  obtain ⟨m1, m2, m3⟩ := hm
  have key : ∀ (o : Option (Unit ⊕ Bool)), o = some (if sameX x y = true then .inl () else .inr false) → bindE o (fun _ => some (Sum.inl ((i + 1 : Nat) : Int))) (fun e => some (Sum.inr (Sum.inr e))) = some (if sameX x y = true then .inl ((i + 1 : Nat) : Int) else .inr (.inr false) : Int ⊕ (Unit ⊕ Bool)) := by
   intro o ho
   subst ho
   cases sameX x y <;> rfl
  refine key _ ?_
  rw [bind_some', bind_some']
  refine bo (a := !decide (x.Name = y.Name ∧ x.Unique = y.Unique ∧ x.Ready = y.Ready ∧ x.Tree = y.Tree ∧ x.Extra = y.Extra ∧ x.Parts.length = y.Parts.length)) ?_ ?_
  ·by_cases k1 : x.Name = y.Name
   rotate_left
   ·rw [show (x.Name != y.Name) = true by simpa using k1]; simp [k1]
   rw [show (x.Name != y.Name) = false by simpa using k1, cond_false]
   by_cases k2 : x.Unique = y.Unique
   rotate_left
   ·rw [show (x.Unique != y.Unique) = true by simpa using k2]; simp [k2]
   rw [show (x.Unique != y.Unique) = false by simpa using k2, cond_false]
   by_cases k3 : x.Ready = y.Ready
   rotate_left
   ·rw [show (x.Ready != y.Ready) = true by simpa using k3]; simp [k3]
   rw [show (x.Ready != y.Ready) = false by simpa using k3, cond_false]
   by_cases k4 : x.Tree = y.Tree
   rotate_left
   ·rw [show (x.Tree != y.Tree) = true by simpa using k4]; simp [k4]
   rw [show (x.Tree != y.Tree) = false by simpa using k4, cond_false, raw_Ints_eq _ _ m3, bind_some']
   by_cases k5 : x.Extra = y.Extra
   rotate_left
   ·rw [decide_eq_false k5]; simp [k5]
   rw [decide_eq_true k5, Bool.not_true, cond_false, nat_ne]
   by_cases k6 : x.Parts.length = y.Parts.length
   ·simp [k1, k2, k3, k4, k5, k6]
   ·rw [show (x.Parts.length != y.Parts.length) = true by simpa using k6]; simp [k6]
  by_cases k : x.Name = y.Name ∧ x.Unique = y.Unique ∧ x.Ready = y.Ready ∧ x.Tree = y.Tree ∧ x.Extra = y.Extra ∧ x.Parts.length = y.Parts.length
  rotate_left
  ·rw [decide_eq_false k, Bool.not_false, cond_true, sameX, decide_eq_false (fun e => k (by rw [e]; simp))]; rfl
  rw [decide_eq_true k, Bool.not_true, cond_false]
  obtain ⟨k1, k2, k3, k4, k5, k6⟩ := k
  refine lpE' (eqlp x.Parts y.Parts eqApiPart eqPart k6 (fun j j1 j2 => ?_) ?_) ?_
  ·show (bif _ then _ else _) = _
   rw [bif_decT (by omega), getI_at j1, bind_some', getI_at j2, bind_some', w64_succ (by omega)]
   cases eqApiPart x.Parts[j] y.Parts[j] <;> rfl
  ·show (bif _ then _ else _) = _
   rw [bif_decF (by omega)]
  ·have : sameX x y = decide (x.Parts = y.Parts) := by
    unfold sameX
    refine decI ⟨fun e => by rw [e], fun e => ?_⟩
    cases x; cases y; simp_all
   rw [this]
   by_cases p : x.Parts = y.Parts <;> simp [p]
 ·show (bif _ then _ else _) = _
  rw [bif_decF (by omega)]
 ·by_cases e2 : a.Indexes = b.Indexes
  ·rw [if_pos e2, decide_eq_true]; · rfl
   cases a; cases b; simp_all
  ·rw [if_neg e2, decide_eq_false (fun e => e2 (by rw [e]))]; rfl
end Lv
/- Plain laws: the program's own look at tables. -/
namespace Lv
open Go Go.Proofs
set_option linter.unusedVariables false
set_option linter.unusedSimpArgs false
set_option linter.unusedSectionVars false
set_option maxRecDepth 100000
section
variable {κ : Type} [BEq κ] [LawfulBEq κ]
theorem mget_mset {β : Type} (k k' : κ) (v : β) : ∀ m : List (κ × β), mget (mset m k v) k' = if k' == k then some v else mget m k'
 | [] => by simp only [mset, mget]; cases k' == k <;> rfl
 | p :: m => by
  simp only [mset, mget]
  cases h : k == p.1 with
  | true =>
   have e := LawfulBEq.eq_of_beq h
   subst e
   simp only [cond_true, mget]
   cases hq : k' == p.1 <;> simp
  | false =>
   simp only [cond_false, mget, mget_mset k k' v m]
   cases h2 : k' == p.1 with
   | true =>
    have e := LawfulBEq.eq_of_beq h2
    subst e
    rw [show (p.1 == k) = false by rw [beq_eq_false_iff_ne] at h ⊢; exact fun e => h e.symm]
    rfl
   | false => rfl
def mS (l : List κ) : List (κ × Bool) := l.foldl (fun m k => mset m k true) []
theorem mS_get (l : List κ) (k : κ) : (mget (mS l) k).getD false = l.any fun x => x == k := by
 have key : ∀ (l : List κ) (m : List (κ × Bool)), (mget (l.foldl (fun m k => mset m k true) m) k).getD false = ((mget m k).getD false || l.any fun x => x == k) := by
  intro l
  induction l with
  | nil => intro m; simp
  | cons x l ih =>
   intro m
   rw [List.foldl_cons, ih, mget_mset, List.any_cons, show (x == k) = (k == x) from BEq.comm]
   cases k == x <;> simp
 rw [mS, key]
 rfl
theorem mS_succ (l : List κ) {i : Nat} (hi : i < l.length) : mS (l.take (i + 1)) = mset (mS (l.take i)) l[i] true := by
 unfold mS
 rw [List.take_succ_eq_append_getElem hi, List.foldl_append]
 rfl
end
variable [BaseTab]
theorem schema_columns_eq (l : List ApiColumn) (h : OkCs l) : schema_columns l = some (if l.length < 1 ∨ l.length > 24 then 7 else (firstF (colE l) 0 l).getD 0) := by
 unfold schema_columns
 refine bo (a := decide (l.length < 1 ∨ l.length > 24)) ?_ ?_
 ·by_cases k : l.length < 1
  ·rw [bif_decT (by omega)]; simp [k]
  ·rw [bif_decF (by omega)]; congr 1; exact decI (by omega)
 by_cases q : l.length < 1 ∨ l.length > 24
 ·rw [bif_decT q, if_pos q]
 rw [bif_decF q, if_neg q]
 refine lpE (lq5 l (fun i c => (colE l i c).map fun e => (.inr e : Unit ⊕ Int)) (.inl ()) (fun i => ((i : Int), mS ((l.take i).map (·.Name)))) (fun i hi => ?_) ?_ rfl) ?_
 ·have hm := List.getElem_mem hi
  show (bif _ then _ else _) = _
  rw [bif_decT (by omega), getI_at hi, bind_some', value_Column_eq _ (h.2 _ hm).1 (h.2 _ hm).2, bind_some', w64_succ (by omega), mS_get, List.any_map]
  unfold colE
  by_cases k : colS l[i] = 0
  rotate_left
  ·rw [show (colS l[i] != 0) = true by simpa using k, cond_true, if_pos k]; rfl
  rw [show (colS l[i] != 0) = false by simpa using k, cond_false, if_neg (by simpa using k)]
  show (bif ((l.take i).any fun d => d.Name == l[i].Name) then _ else _) = _
  cases ha : ((l.take i).any fun d => d.Name == l[i].Name) with
  | true => rfl
  | false =>
   have e : mS ((l.take (i + 1)).map (·.Name)) = mset (mS ((l.take i).map (·.Name))) l[i].Name true := by
    have := mS_succ (l.map (·.Name)) (i := i) (by simpa using hi)
    simpa [List.map_take] using this
   rw [e]; rfl
 ·show (bif _ then _ else _) = _
  rw [bif_decF (by omega)]
 rw [firstF_map]
 cases firstF (colE l) 0 l <;> rfl
theorem schema_places_eq (n : Int) (l : List Int) (h : l.length < 4611686018427387904) : schema_places n l = some (placesS n l) := by
 unfold schema_places
 refine lpE (lq5 l (fun i c => (plE n l i c).map fun _ => (.inr false : Unit ⊕ Bool)) (.inl ()) (fun i => ((i : Int), mS (l.take i))) (fun i hi => ?_) ?_ rfl) ?_
 ·show (bif _ then _ else _) = _
  rw [bif_decT (by omega), getI_at hi, w64_succ (by omega)]
  simp only [bind_some']
  refine bo (a := decide (l[i] < 0 ∨ l[i] ≥ n ∨ hasS (l.take i) l[i] = true)) ?_ ?_
  ·by_cases h1 : l[i] < 0
   ·rw [bif_decT h1]; simp [h1]
   rw [bif_decF h1]
   by_cases h2 : l[i] ≥ n
   ·rw [bif_decT h2]; simp [h2]
   rw [bif_decF h2, mS_get, show ((l.take i).any fun x => x == l[i]) = hasS (l.take i) l[i] from rfl]
   simp [h1, h2]
  ·unfold plE
   by_cases q : l[i] < 0 ∨ l[i] ≥ n ∨ hasS (l.take i) l[i] = true
   ·rw [bif_decT q, if_pos q]; rfl
   ·rw [bif_decF q, if_neg q, mS_succ l hi]; rfl
 ·show (bif _ then _ else _) = _
  rw [bif_decF (by omega)]
 ·unfold placesS
  have key : ∀ (r : List Int) (i : Nat), firstF (fun i c => (plE n l i c).map fun _ => (.inr false : Unit ⊕ Bool)) i r = (firstF (plE n l) i r).map fun _ => .inr false := by
   intro r
   induction r with
   | nil => intro i; rfl
   | cons x r ih => intro i; rw [firstF, firstF]; cases plE n l i x <;> simp [ih]
  rw [key]
  cases firstF (plE n l) 0 l <;> rfl
theorem idxF_nulls (l : List Int) (t : ApiTable) (h : l.length < 4611686018427387904) (hp : ∀ c ∈ l, 0 ≤ c ∧ c < t.Cols.length) : slices_ContainsFunc_int_int_1 l t = some (l.any fun c => (colAt t.Cols c).Nulls) := by
 unfold slices_ContainsFunc_int_int_1 slices_IndexFunc_int_int_1
 refine bo (a := idxI (fun c => (colAt t.Cols c).Nulls) l) (lqX l _ (fun i hi => ?_) ?_) (by rw [idxI_any])
 ·rw [bif_decT (by omega), getI_at hi, bind_some']
  unfold schema_Check_1
  rw [colAt_eq (hp _ (List.getElem_mem hi)), bind_some', bind_some', w64_succ (by omega)]
  cases (colAt t.Cols l[i]).Nulls <;> rfl
 ·rw [bif_decF (by omega)]
theorem schema_wide_eq (c : ApiColumn) (each : Int) (hc : 0 ≤ c.Max ∧ c.Max ≤ 64) (he : each = 1 ∨ each = 2) : schema_wide c each = some (wideS c each) := by
 unfold schema_wide wideS
 refine bo (a := decide (c.Kind = 1 ∨ c.Kind = 2)) ?_ ?_
 ·by_cases k : c.Kind = 1
  ·rw [k]; rfl
  ·rw [beq_eq_false_iff_ne.2 k, cond_false]; congr 1; simp [k, Bool.beq_eq_decide_eq]
 by_cases k : c.Kind = 1 ∨ c.Kind = 2
 ·rw [bif_decT k, if_pos k]
 rw [bif_decF k, if_neg k]
 by_cases k3 : c.Kind = 3
 ·rw [show (c.Kind == 3) = true by simpa using k3, cond_true, if_pos k3]
 rw [show (c.Kind == 3) = false by simpa using k3, cond_false, if_neg k3]
 have hm : 0 ≤ each * c.Max ∧ each * c.Max ≤ 128 := by rcases he with rfl | rfl <;> omega
 generalize each * c.Max = m at hm ⊢
 rw [w64_id (n := m) (by omega) (by omega), w64_id (by omega) (by omega)]
theorem schema_RowMax_eq (l : List ApiColumn) (h : l.length ≤ 24) (hc : ∀ c ∈ l, 0 ≤ c.Max ∧ c.Max ≤ 64) : schema_RowMax l = some (rowMaxS l) := by
 unfold schema_RowMax
 refine lpA (w := rowMaxS l) (lq1 (fun i => (rowMaxS (l.take i), (i : Int))) l.length (fun i hi => ?_) ?_ rfl) rfl
 ·have b := sum_bound (fun c => wideS c 1) (l := l.take i) (fun c h => wideS_le (hc c (List.mem_of_mem_take h)) (.inl rfl))
  have w := wideS_le (each := 1) (hc _ (List.getElem_mem hi)) (.inl rfl)
  have tl : (l.take i).length ≤ 24 := by simp; omega
  show (bif _ then _ else _) = _
  rw [bif_decT (by omega), getI_at hi, bind_some', schema_wide_eq _ _ (hc _ (List.getElem_mem hi)) (.inl rfl), bind_some', w64_succ (by omega)]
  have e : rowMaxS (l.take (i + 1)) = rowMaxS (l.take i) + wideS l[i] 1 := by
   unfold rowMaxS
   rw [List.map_take, List.map_take, sum_take _ _ (by simpa using hi)]; simp; omega
  rw [e, w64_id (by unfold rowMaxS; omega) (by unfold rowMaxS; omega)]
 ·show (bif _ then _ else _) = _
  rw [bif_decF (by omega), List.take_length]
theorem schema_KeyMax_eq (cols : List ApiColumn) (l : List ApiPart) (h : l.length ≤ 1048576) (hp : ∀ p ∈ l, 0 ≤ p.Col ∧ p.Col < cols.length) (hc : ∀ c ∈ cols, 0 ≤ c.Max ∧ c.Max ≤ 64) : schema_KeyMax cols l = some (keyMaxS cols l) := by
 unfold schema_KeyMax
 refine lpA (w := keyMaxS cols l) (lq1 (fun i => (keyMaxS cols (l.take i), (i : Int))) l.length (fun i hi => ?_) ?_ rfl) rfl
 ·have b := sum_bound (fun p : ApiPart => wideS (colAt cols p.Col) 2) (l := l.take i) (fun p h => wideS_le (hc _ (colAt_mem (hp p (List.mem_of_mem_take h)))) (.inr rfl))
  have hq := hp _ (List.getElem_mem hi)
  have w := wideS_le (each := 2) (hc _ (colAt_mem hq)) (.inr rfl)
  have tl : (l.take i).length ≤ 1048576 := by simp; omega
  show (bif _ then _ else _) = _
  rw [bif_decT (by omega), getI_at hi, bind_some', colAt_eq hq, bind_some', schema_wide_eq _ _ (hc _ (colAt_mem hq)) (.inr rfl), bind_some', w64_succ (by omega)]
  have e : keyMaxS cols (l.take (i + 1)) = keyMaxS cols (l.take i) + wideS (colAt cols l[i].Col) 2 := by
   unfold keyMaxS
   rw [List.map_take, List.map_take, sum_take _ _ (by simpa using hi)]; simp
  rw [e, w64_id (by unfold keyMaxS; omega) (by unfold keyMaxS; omega)]
 ·show (bif _ then _ else _) = _
  rw [bif_decF (by omega), List.take_length]
theorem schema_cols_eq (l : List ApiPart) (h : l.length * 8 ≤ room) : schema_cols l = some (colsOf l) := by
 have h' := h
 rw [room_val] at h'
 unfold schema_cols
 refine lpA (w := colsOf l) (lq1 (fun i => (colsOf (l.take i), (i : Int))) l.length (fun i hi => ?_) ?_ rfl) rfl
 ·show (bif _ then _ else _) = _
  rw [bif_decT (by omega), getI_at hi, bind_some', bif_decT (by rw [room_val]; simp [colsOf]; omega), w64_succ (by omega), show colsOf (l.take (i + 1)) = _ from map_ts _ l hi]
  rfl
 ·show (bif _ then _ else _) = _
  rw [bif_decF (by omega), List.take_length]
theorem contains_eq (l : List Int) (x : Int) (h : l.length < 4611686018427387904) : slices_Contains_int_int l x = some (hasS l x) := by
 unfold slices_Contains_int_int slices_Index_int_int
 refine bo (a := idxI (fun c => c == x) l) (lqX l _ (fun i hi => ?_) ?_) (by rw [idxI_any]; rfl)
 ·rw [bif_decT (by omega), getI_at hi, bind_some', w64_succ (by omega), show (x == l[i]) = (l[i] == x) from BEq.comm]
  cases l[i] == x <;> rfl
 ·rw [bif_decF (by omega)]
def OkY (x : ApiIndex) : Prop := OkX x ∧ x.Parts.length * 8 ≤ room
theorem schema_index_eq (t : ApiTable) (x : ApiIndex) (hc : ∀ c ∈ t.Cols, 0 ≤ c.Max ∧ c.Max ≤ 64) (hx : OkY x) (hp : t.Primary.length < 4611686018427387904) : schema_index t x = some (indexS t x) := by
 obtain ⟨⟨o1, o2, o3⟩, o4⟩ := hx
 unfold schema_index indexS
 rw [schema_cols_eq _ o4, bind_some']
 have hm : slices_ContainsFunc_int_int_2 x.Extra (colsOf x.Parts) t = some (x.Extra.any fun c => hasS (colsOf x.Parts) c || hasS t.Primary c) := by
  unfold slices_ContainsFunc_int_int_2 slices_IndexFunc_int_int_2
  refine bo (a := idxI (fun c => hasS (colsOf x.Parts) c || hasS t.Primary c) x.Extra) (lqX x.Extra _ (fun i hi => ?_) ?_) (by rw [idxI_any])
  ·rw [bif_decT (by omega), getI_at hi, bind_some']
   unfold schema_index_1
   rw [contains_eq _ _ (by simp [colsOf]; omega), contains_eq _ _ hp, w64_succ (by omega)]
   cases hasS (colsOf x.Parts) x.Extra[i] <;> cases hasS t.Primary x.Extra[i] <;> rfl
  ·rw [bif_decF (by omega)]
 rw [hm, bind_some']
 generalize x.Extra.any (fun c => hasS (colsOf x.Parts) c || hasS t.Primary c) = me
 have hl : (colsOf x.Parts).length = x.Parts.length := by simp [colsOf]
 rw [hl]
 refine bo (a := decide ((x.Parts.length < 1 ∨ x.Parts.length > 4 ∨ placesS t.Cols.length (colsOf x.Parts) = false ∨ placesS t.Cols.length x.Extra = false) ∨ me = true)) ?_ ?_
 ·by_cases h1 : x.Parts.length < 1
  ·rw [bif_decT (by omega), decide_eq_true (.inl (.inl h1))]
  rw [bif_decF (by omega)]
  by_cases h2 : x.Parts.length > 4
  ·rw [bif_decT (by omega), decide_eq_true (.inl (.inr (.inl h2)))]
  rw [bif_decF (by omega), schema_places_eq _ _ (by omega), bind_some']
  cases p1 : placesS t.Cols.length (colsOf x.Parts) with
  | false => simp
  | true =>
   rw [Bool.not_true, cond_false, schema_places_eq _ _ o3, bind_some']
   cases p2 : placesS t.Cols.length x.Extra <;> simp [h1, h2]
 by_cases q : x.Parts.length < 1 ∨ x.Parts.length > 4 ∨ placesS t.Cols.length (colsOf x.Parts) = false ∨ placesS t.Cols.length x.Extra = false
 ·rw [bif_decT (.inl q), if_pos q]
 rw [if_neg q]
 by_cases q2 : me = true
 ·rw [bif_decT (.inr q2), if_pos q2]
 rw [bif_decF (by rw [not_or]; exact ⟨q, q2⟩), if_neg q2]
 simp only [not_or, Bool.not_eq_false] at q
 rw [schema_KeyMax_eq _ _ (by omega) (parts_in q.2.2.1) hc, bind_some']
 by_cases k : keyMaxS t.Cols x.Parts > 128
 ·rw [bif_decT k, if_pos k]
 ·rw [bif_decF k, if_neg k]
theorem schema_Check_eq (t : ApiTable) (h : OkT t) (hy : ∀ x ∈ t.Indexes, OkY x) : schema_Check t = some (chkS t) := by
 unfold schema_Check chkS
 rw [value_Name_eq _ h.name, bind_some']
 cases nameS t.Name with
 | false => rfl
 | true =>
 rw [Bool.not_true, cond_false, if_neg (by simp), schema_columns_eq _ h.cols, bind_some']
 by_cases q : t.Cols.length < 1 ∨ t.Cols.length > 24
 ·rw [if_pos q, if_pos q]; rfl
 rw [if_neg q, if_neg q]
 cases hc : firstF (colE t.Cols) 0 t.Cols with
 | some e =>
  have he : e ≠ 0 := by
   have key : ∀ (l : List ApiColumn) (i : Nat), firstF (colE t.Cols) i l = some e → e ≠ 0 := by
    intro l
    induction l with
    | nil => intro i h; cases h
    | cons x l ih =>
     intro i h
     rw [firstF] at h
     cases hx : colE t.Cols i x with
     | none => rw [hx] at h; exact ih _ h
     | some e' =>
      rw [hx] at h
      obtain rfl := Option.some.inj h
      unfold colE at hx
      split at hx
      ·obtain rfl := Option.some.inj hx; assumption
      ·split at hx
       ·obtain rfl := Option.some.inj hx; decide
       ·cases hx
   exact key _ _ hc
  simp only [Option.getD_some]
  rw [show (e != 0) = true by simpa using he, cond_true]
 | none =>
 have hcol := cols_of_none hc
 have hmax : ∀ c ∈ t.Cols, 0 ≤ c.Max ∧ c.Max ≤ 64 := fun c hm => colS_max (hcol c hm)
 simp only [Option.getD_none]
 rw [show ((0 : Int) != 0) = false from rfl, cond_false]
 refine bo (a := decide (t.Primary.length < 1 ∨ t.Primary.length > 4 ∨ placesS t.Cols.length t.Primary = false)) ?_ ?_
 ·by_cases k : t.Primary.length < 1
  ·rw [bif_decT (by omega)]; simp [k]
  rw [bif_decF (by omega)]
  by_cases k2 : t.Primary.length > 4
  ·rw [bif_decT (by omega)]; simp [k2]
  rw [bif_decF (by omega), schema_places_eq _ _ h.prim, bind_some']
  cases placesS t.Cols.length t.Primary <;> simp [k, k2]
 by_cases q2 : t.Primary.length < 1 ∨ t.Primary.length > 4 ∨ placesS t.Cols.length t.Primary = false
 ·rw [bif_decT q2, if_pos q2]
 rw [bif_decF q2, if_neg q2]
 simp only [not_or, Bool.not_eq_false] at q2
 rw [idxF_nulls _ _ h.prim (placesS_in q2.2.2), bind_some']
 cases (t.Primary.any fun c => (colAt t.Cols c).Nulls) with
 | true => rfl
 | false =>
 rw [cond_false, if_neg (by simp)]
 refine bo (a := decide (rowMaxS t.Cols > 512 ∨ keyMaxS t.Cols (upS t.Primary) > 128 ∨ t.Indexes.length > 6)) ?_ ?_
 ·rw [schema_RowMax_eq _ (by omega) hmax, bind_some']
  by_cases k : rowMaxS t.Cols > 512
  ·rw [bif_decT k]; simp [k]
  rw [bif_decF k, schema_up_eq _ (by omega), bind_some', schema_KeyMax_eq _ _ (by simp [upS]; omega) (up_in q2.2.2) hmax, bind_some']
  by_cases k2 : keyMaxS t.Cols (upS t.Primary) > 128
  ·rw [bif_decT k2]; simp [k2]
  rw [bif_decF k2]; congr 1; simp only [k, k2, false_or]; exact decI (by omega)
 by_cases q3 : rowMaxS t.Cols > 512 ∨ keyMaxS t.Cols (upS t.Primary) > 128 ∨ t.Indexes.length > 6
 ·rw [bif_decT q3, if_pos q3]
 rw [bif_decF q3, if_neg q3]
 refine lpE (lq5 t.Indexes (fun i x => (idxE t i x).map fun e => (.inr e : Unit ⊕ Int)) (.inl ()) (fun i => ((i : Int), mS ((t.Indexes.take i).map (·.Name)))) (fun i hi => ?_) ?_ rfl) ?_
 ·have hm := List.getElem_mem hi
  show (bif _ then _ else _) = _
  rw [bif_decT (by omega), getI_at hi, bind_some', w64_succ (by omega), value_Name_eq _ (h.idx _ hm).1, bind_some', mS_get, List.any_map]
  unfold idxE
  cases hn : nameS t.Indexes[i].Name with
  | false => rfl
  | true =>
  rw [Bool.not_true, cond_false, if_neg (by simp)]
  show (bif ((t.Indexes.take i).any fun d => d.Name == t.Indexes[i].Name) then _ else _) = _
  cases ha : ((t.Indexes.take i).any fun d => d.Name == t.Indexes[i].Name) with
  | true => rfl
  | false =>
   rw [cond_false, if_neg (by simp), schema_index_eq t _ hmax (hy _ hm) h.prim, bind_some']
   by_cases k : indexS t t.Indexes[i] = 0
   ·have e : mS ((t.Indexes.take (i + 1)).map (·.Name)) = mset (mS ((t.Indexes.take i).map (·.Name))) t.Indexes[i].Name true := by
     have := mS_succ (t.Indexes.map (·.Name)) (i := i) (by simpa using hi)
     simpa [List.map_take] using this
    rw [k, e]; rfl
   ·rw [if_pos k, show (indexS t t.Indexes[i] != 0) = true by simpa using k]; rfl
 ·show (bif _ then _ else _) = _
  rw [bif_decF (by omega)]
 rw [firstF_map]
 cases firstF (idxE t) 0 t.Indexes <;> rfl
end Lv
/- Plain law: an index more and then without it. -/
namespace Lv
open Go Go.Proofs
set_option linter.unusedVariables false
set_option linter.unusedSimpArgs false
set_option linter.unusedSectionVars false
set_option maxRecDepth 100000
variable [BaseTab]
end Lv
/- Plain law: the layer's own example. -/
namespace Lv
open Go Go.Proofs
set_option linter.unusedVariables false
set_option linter.unusedSimpArgs false
set_option linter.unusedSectionVars false
set_option maxRecDepth 100000
variable [BaseTab]
end Lv
/- From the sizes in bytes to the plain law's conditions. -/
namespace Lv
open Go
variable [BaseTab]
omit [BaseTab] in
theorem okY_ofB {R : Nat} (hR : R ≤ 140737488355328) {x : ApiIndex} (h : okApiIndex R x) : OkY x := by
 obtain ⟨k1, k2, k3, _⟩ := h
 have q2 := k2.1
 have q3 := k3.1
 exact ⟨⟨by omega, by omega, by omega⟩, by rw [room_val]; omega⟩
omit [BaseTab] in
theorem okT_ofB {R : Nat} (hR : R ≤ 140737488355328) {t : ApiTable} (h : okApiTable R t) : OkT t := by
 obtain ⟨h1, h2, h3, h4, h5, _⟩ := h
 have q2 := h2.1
 have q3 := h3.1
 have q4 := h4.1
 refine ⟨by omega, ⟨by omega, fun c hc => ?_⟩, by omega, by omega, fun x hx => (okY_ofB hR (h4.2 x hx)).1⟩
 obtain ⟨k1, k2, k3, k4, k5, _⟩ := h2.2 c hc
 exact ⟨by omega, by have := k5.2.2.1; omega⟩
omit [BaseTab] in
theorem okYs_ofB {R : Nat} (hR : R ≤ 140737488355328) {t : ApiTable} (h : okApiTable R t) : ∀ x ∈ t.Indexes, OkY x := fun x hx => okY_ofB hR (h.2.2.2.1.2 x hx)
end Lv
/- Plain laws of layer 18: the pairs of a table, by the program and by the reference. -/
namespace Lv
open Go Go.Proofs
set_option linter.unusedVariables false
set_option linter.unusedSimpArgs false
set_option linter.unusedSectionVars false
set_option maxRecDepth 100000
variable [BaseTab]
theorem u8_of (n : Int) : (u64i n).toUInt8 = u8i n := by
 unfold u64i u8i
 rw [← UInt8.toNat_inj]
 simp
 omega
theorem u16_any (n : Int) : [((shr16 (u16i n) 8).toUInt8), ((u16i n).toUInt8)] = bytesN (u64i n) 2 := by
 have e : (u16i n).toNat = (u64i n).toNat / 2 ^ 0 % 65536 := by
  unfold u16i u64i
  simp
  omega
 rw [u16_hi (u64i n) 0 _ e, u16_lo (u64i n) 0 _ e]
 rfl
theorem num1 (n : Int) (acc : List UInt8) (h : acc.length ≤ 1000000) : ref01_Out_Num_1 (u64i n) 1 acc = some (acc ++ [u8i n]) := by
 rw [show ref01_Out_Num_1 (u64i n) 1 acc = _ from Out_Num_eq _ 1 _ (by omega) (by omega), num8, u8_of]
theorem num2 (n : Int) (acc : List UInt8) (h : acc.length ≤ 1000000) : ref01_Out_Num_1 (u64i n) 2 acc = some (acc ++ bytesN (u64i n) 2) :=
 show ref01_Out_Num_1 (u64i n) ((2 : Nat) : Int) acc = _ from Out_Num_eq _ 2 _ (by omega) (by omega)
def fl (b : Bool) : UInt8 := if b = true then 1 else 0
theorem flag1_eq (b : Bool) (acc : List UInt8) (h : acc.length ≤ 1000000) : pack_Out_Flag_1 b acc = some (acc ++ [fl b]) := by
 unfold pack_Out_Flag_1
 cases b
 ·rw [cond_false, out_put1 _ _ (by simp; omega)]; rfl
 ·rw [cond_true, out_put1 _ _ (by simp; omega)]; rfl
theorem rflag_eq (b : Bool) (acc : List UInt8) (h : acc.length ≤ 1000000) : ref01_Out_Flag b acc = some (acc ++ [fl b]) := by
 unfold ref01_Out_Flag
 cases b
 ·rw [cond_false, bif_decT (by rw [room_val]; simp; omega)]; rfl
 ·rw [cond_true, bif_decT (by rw [room_val]; simp; omega)]; rfl
theorem put8_eq (x : UInt8) (b : List UInt8) (h : b.length ≤ 1000000) : pack_Out_U8 x b = some () := by
 unfold pack_Out_U8
 rw [out_put1 _ _ (by simp; omega)]; rfl
theorem put0_eq (a : List UInt8) (h : a.length ≤ 1000000) : pack_Out_put a = some () := by
 unfold pack_Out_put
 rw [bif_decT (by rw [room_val]; omega)]
theorem U16_1_eq (x : UInt16) : pack_Out_U16_1 x = some () := by
 unfold pack_Out_U16_1
 rw [put0_eq _ (by simp)]; rfl
theorem text1_eq (s : List UInt8) (h : s.length ≤ 65535) : pack_Out_Text_1 s = some (true, bytesN (u64i s.length) 2 ++ s) := by
 unfold pack_Out_Text_1
 rw [bind_some', bif_decF (by omega), U16_1_eq, bind_some', bif_decT (by rw [room_val]; simp; omega), u16_any]
theorem rtext1_eq (s : List UInt8) (h : s.length ≤ 65535) : ref01_Out_Text_1 s = some (true, bytesN (u64i s.length) 2 ++ s) := by
 unfold ref01_Out_Text_1
 rw [bif_decF (by omega), Out_Num_nil, num2 _ _ (by simp), bind_some', bif_decT (by rw [room_val]; simp [bytesN_len]; omega)]
 rfl
def putC (c : ApiColumn) : List UInt8 :=
 ((((((bytesN (u64i c.Name.length) 2 ++ c.Name) ++ [u8i c.Kind]) ++ [u8i c.Max]) ++ [fl c.Nulls]) ++ [u8i c.Default.Kind]) ++ bytesN c.Default.N 8) ++ (bytesN (u64i c.Default.S.length) 2 ++ c.Default.S)
theorem putColumn_eq (c : ApiColumn) (hn : c.Name.length ≤ 1000) (hs : c.Default.S.length ≤ 1000) : catalog_putColumn c = some (putC c) := by
 unfold catalog_putColumn
 rw [text1_eq _ (by omega), bind_some']
 show Option.bind (pack_Out_U8 _ _) _ = _
 rw [put8_eq _ _ (by simp [bytesN_len]; omega), bind_some', put8_eq _ _ (by simp [bytesN_len]; omega), bind_some', flag1_eq _ _ (by simp [bytesN_len]; omega), bind_some', put8_eq _ _ (by simp [bytesN_len]; omega), bind_some', Out_U64_eq _ _ (by simp [bytesN_len]; omega), bind_some', bytes8_eq, Out_Text_eq _ _ (by omega) (by simp [bytesN_len]; omega), bind_some']
 show Option.bind (pack_Out_Bytes _) _ = _
 unfold pack_Out_Bytes
 rw [bif_decT (by rw [room_val]; simp [bytesN_len]; omega)]
 rfl
theorem rcolumn_eq (c : ApiColumn) (hn : c.Name.length ≤ 1000) (hs : c.Default.S.length ≤ 1000) : ref18_column c = some (putC c) := by
 unfold ref18_column
 rw [rtext1_eq _ (by omega), bind_some']
 show Option.bind (ref01_Out_Num_1 _ _ _) _ = _
 rw [num1 _ _ (by simp [bytesN_len]; omega), bind_some', num1 _ _ (by simp [bytesN_len]; omega), bind_some', rflag_eq _ _ (by simp [bytesN_len]; omega), bind_some', num1 _ _ (by simp [bytesN_len]; omega), bind_some', show ref01_Out_Num_1 c.Default.N 8 _ = _ from Out_Num_eq _ 8 _ (by omega) (by simp [bytesN_len]; omega), bind_some', ref01_Text_eq _ _ (by omega) (by simp [bytesN_len]; omega), bind_some']
 rfl
theorem places18_eq (l : List Int) (b : List UInt8) (h : l.length ≤ 1000) (hb : b.length ≤ 100000) : catalog_places l b = some ((b ++ [u8i l.length]) ++ l.map u8i) := by
 unfold catalog_places
 rw [put8_eq _ _ (by omega), bind_some']
 refine bo (a := (b ++ [u8i l.length]) ++ l.map u8i) (lq1 (fun i => ((i : Int), (b ++ [u8i l.length]) ++ (l.take i).map u8i)) l.length (fun i hi => ?_) ?_ (by simp)) rfl
 ·show (bif _ then _ else _) = _
  rw [bif_decT (by omega), getI_at hi, bind_some', put8_eq _ _ (by simp; omega), bind_some', w64_succ (by omega), List.take_succ_eq_append_getElem hi, List.map_append, List.append_assoc]
  rfl
 ·show (bif _ then _ else _) = _
  rw [bif_decF (by omega), List.take_length]
def prt (p : ApiPart) : List UInt8 := [u8i p.Col] ++ [fl p.Down]
def putX (x : ApiIndex) : List UInt8 :=
 (((((((bytesN (u64i x.Name.length) 2 ++ x.Name) ++ [u8i x.Parts.length]) ++ (x.Parts.map prt).flatten) ++ [u8i x.Extra.length]) ++ x.Extra.map u8i) ++ [fl x.Unique]) ++ [fl x.Ready]) ++ bytesN (u64i x.Tree) 2
theorem prt_len (l : List ApiPart) : (l.map prt).flatten.length = 2 * l.length := by
 induction l with
 | nil => rfl
 | cons p l ih => simp [prt] at ih ⊢; omega
theorem take_prt (l : List ApiPart) (i : Nat) (hi : i < l.length) : ((l.take (i + 1)).map prt).flatten = (((l.take i).map prt).flatten ++ [u8i l[i].Col]) ++ [fl l[i].Down] := by
 rw [List.take_succ_eq_append_getElem hi, List.map_append, List.flatten_append]
 simp [prt]
theorem take_u8 (l : List Int) (i : Nat) (hi : i < l.length) : (l.take (i + 1)).map u8i = (l.take i).map u8i ++ [u8i l[i]] := by
 rw [List.take_succ_eq_append_getElem hi, List.map_append]; rfl
theorem putIndex_eq (x : ApiIndex) (hn : x.Name.length ≤ 1000) (hp : x.Parts.length ≤ 100) (he : x.Extra.length ≤ 100) : catalog_putIndex x = some (putX x) := by
 unfold catalog_putIndex
 rw [text1_eq _ (by omega), bind_some']
 show Option.bind (pack_Out_U8 _ _) _ = _
 rw [put8_eq _ _ (by simp [bytesN_len]; omega), bind_some']
 refine lpA (w := ((bytesN (u64i x.Name.length) 2 ++ x.Name) ++ [u8i x.Parts.length]) ++ (x.Parts.map prt).flatten) (lq1 (fun i => ((i : Int), ((bytesN (u64i x.Name.length) 2 ++ x.Name) ++ [u8i x.Parts.length]) ++ ((x.Parts.take i).map prt).flatten)) x.Parts.length (fun i hi => ?_) ?_ (by simp)) ?_
 ·have hl := prt_len (x.Parts.take i)
  have hl2 : (x.Parts.take i).length ≤ 100 := by simp; omega
  show (bif _ then _ else _) = _
  rw [bif_decT (by omega), getI_at hi, bind_some', put8_eq _ _ (by simp only [List.length_append, bytesN_len, hl, List.length_cons, List.length_nil]; omega), bind_some', flag1_eq _ _ (by simp only [List.length_append, bytesN_len, hl, List.length_cons, List.length_nil]; omega), bind_some', w64_succ (by omega), take_prt _ _ hi]
  simp only [List.append_assoc]
 ·show (bif _ then _ else _) = _
  rw [bif_decF (by omega), List.take_length]
 have hl := prt_len x.Parts
 rw [places18_eq _ _ (by omega) (by simp only [List.length_append, bytesN_len, hl, List.length_cons, List.length_nil]; omega), bind_some', flag1_eq _ _ (by simp only [List.length_append, bytesN_len, hl, List.length_cons, List.length_nil, List.length_map]; omega), bind_some', flag1_eq _ _ (by simp only [List.length_append, bytesN_len, hl, List.length_cons, List.length_nil, List.length_map]; omega), bind_some', Out_U16_eq _ _ (by simp only [List.length_append, bytesN_len, hl, List.length_cons, List.length_nil, List.length_map]; omega), bind_some', u16_any]
 unfold pack_Out_Bytes
 rw [bif_decT (by rw [room_val]; simp only [List.length_append, bytesN_len, hl, List.length_cons, List.length_nil, List.length_map]; omega)]
 rfl
theorem rindex_eq (x : ApiIndex) (hn : x.Name.length ≤ 1000) (hp : x.Parts.length ≤ 100) (he : x.Extra.length ≤ 100) : ref18_index x = some (putX x) := by
 unfold ref18_index
 rw [rtext1_eq _ (by omega), bind_some']
 show Option.bind (ref01_Out_Num_1 _ _ _) _ = _
 rw [num1 _ _ (by simp [bytesN_len]; omega), bind_some']
 refine lpA (w := ((bytesN (u64i x.Name.length) 2 ++ x.Name) ++ [u8i x.Parts.length]) ++ (x.Parts.map prt).flatten) (lq1 (fun i => ((i : Int), ((bytesN (u64i x.Name.length) 2 ++ x.Name) ++ [u8i x.Parts.length]) ++ ((x.Parts.take i).map prt).flatten)) x.Parts.length (fun i hi => ?_) ?_ (by simp)) ?_
 ·have hl := prt_len (x.Parts.take i)
  have hl2 : (x.Parts.take i).length ≤ 100 := by simp; omega
  show (bif _ then _ else _) = _
  rw [bif_decT (by omega), getI_at hi, bind_some', num1 _ _ (by simp only [List.length_append, bytesN_len, hl, List.length_cons, List.length_nil]; omega), bind_some', bind_some', rflag_eq _ _ (by simp only [List.length_append, bytesN_len, hl, List.length_cons, List.length_nil]; omega), bind_some', w64_succ (by omega), take_prt _ _ hi]
  simp only [List.append_assoc]
 ·show (bif _ then _ else _) = _
  rw [bif_decF (by omega), List.take_length]
 have hl := prt_len x.Parts
 rw [num1 _ _ (by simp only [List.length_append, bytesN_len, hl, List.length_cons, List.length_nil]; omega), bind_some']
 refine lpA (w := ((((bytesN (u64i x.Name.length) 2 ++ x.Name) ++ [u8i x.Parts.length]) ++ (x.Parts.map prt).flatten) ++ [u8i x.Extra.length]) ++ x.Extra.map u8i) (lq1 (fun i => ((i : Int), ((((bytesN (u64i x.Name.length) 2 ++ x.Name) ++ [u8i x.Parts.length]) ++ (x.Parts.map prt).flatten) ++ [u8i x.Extra.length]) ++ (x.Extra.take i).map u8i)) x.Extra.length (fun i hi => ?_) ?_ (by simp)) ?_
 ·have hl2 : ((x.Extra.take i).map u8i).length ≤ 100 := by simp; omega
  show (bif _ then _ else _) = _
  rw [bif_decT (by omega), getI_at hi, bind_some', num1 _ _ (by simp only [List.length_append, bytesN_len, hl, List.length_cons, List.length_nil]; omega), bind_some', w64_succ (by omega), take_u8 _ _ hi]
  simp only [List.append_assoc]
 ·show (bif _ then _ else _) = _
  rw [bif_decF (by omega), List.take_length]
 rw [rflag_eq _ _ (by simp only [List.length_append, bytesN_len, hl, List.length_cons, List.length_nil, List.length_map]; omega), bind_some', rflag_eq _ _ (by simp only [List.length_append, bytesN_len, hl, List.length_cons, List.length_nil, List.length_map]; omega), bind_some', num2 _ _ (by simp only [List.length_append, bytesN_len, hl, List.length_cons, List.length_nil, List.length_map]; omega), bind_some']
 rfl
end Lv
/- Plain law of layer 18: CatalogPairs. -/
namespace Lv
open Go Go.Proofs
set_option linter.unusedVariables false
set_option linter.unusedSimpArgs false
set_option linter.unusedSectionVars false
set_option maxRecDepth 100000
variable [BaseTab]
theorem idx_none {t : ApiTable} (h : chkS t = 0) : firstF (idxE t) 0 t.Indexes = none := by
 unfold chkS at h
 by_cases h1 : nameS t.Name = false
 ·rw [if_pos h1] at h; cases h
 rw [if_neg h1] at h
 by_cases h2 : t.Cols.length < 1 ∨ t.Cols.length > 24
 ·rw [if_pos h2] at h; cases h
 rw [if_neg h2] at h
 cases h3 : firstF (colE t.Cols) 0 t.Cols with
 | some e =>
  rw [h3] at h
  exfalso
  have : ∀ (l : List ApiColumn) (i : Nat) (e : Int), firstF (colE t.Cols) i l = some e → e ≠ 0 := by
   intro l
   induction l with
   | nil => intro i e h; cases h
   | cons x r ih =>
    intro i e h
    rw [firstF] at h
    cases hx : colE t.Cols i x with
    | none => rw [hx] at h; exact ih _ _ h
    | some e' =>
     rw [hx] at h
     cases h
     unfold colE at hx
     by_cases q : colS x = 0
     ·rw [if_neg (by simpa using q)] at hx
      by_cases q2 : ((t.Cols.take i).any fun d => d.Name == x.Name) = true
      ·rw [if_pos q2] at hx; cases hx; decide
      ·rw [if_neg q2] at hx; cases hx
     ·rw [if_pos q] at hx; cases hx; exact q
  exact this _ _ _ h3 h
 | none =>
 rw [h3] at h
 simp only at h
 by_cases h4 : t.Primary.length < 1 ∨ t.Primary.length > 4 ∨ placesS t.Cols.length t.Primary = false
 ·rw [if_pos h4] at h; cases h
 rw [if_neg h4] at h
 by_cases h5 : (t.Primary.any fun c => (colAt t.Cols c).Nulls) = true
 ·rw [if_pos h5] at h; cases h
 rw [if_neg h5] at h
 by_cases h6 : rowMaxS t.Cols > 512 ∨ keyMaxS t.Cols (upS t.Primary) > 128 ∨ t.Indexes.length > 6
 ·rw [if_pos h6] at h; cases h
 rw [if_neg h6] at h
 cases h7 : firstF (idxE t) 0 t.Indexes with
 | none => rfl
 | some e =>
  rw [h7] at h
  exfalso
  have : ∀ (l : List ApiIndex) (i : Nat) (e : Int), firstF (idxE t) i l = some e → e ≠ 0 := by
   intro l
   induction l with
   | nil => intro i e h; cases h
   | cons x r ih =>
    intro i e h
    rw [firstF] at h
    cases hx : idxE t i x with
    | none => rw [hx] at h; exact ih _ _ h
    | some e' =>
     rw [hx] at h
     cases h
     unfold idxE at hx
     by_cases q : nameS x.Name = false
     ·rw [if_pos q] at hx; cases hx; decide
     rw [if_neg q] at hx
     by_cases q2 : ((t.Indexes.take i).any fun y => y.Name == x.Name) = true
     ·rw [if_pos q2] at hx; cases hx; decide
     rw [if_neg q2] at hx
     by_cases q3 : indexS t x = 0
     ·rw [if_neg (by simpa using q3)] at hx; cases hx
     ·rw [if_pos q3] at hx; cases hx; exact q3
  exact this _ _ _ h7 h
theorem name_short {s : List UInt8} (h : nameS s = true) : s.length ≤ 16 := by
 cases s with
 | nil => simp
 | cons c r =>
  simp only [nameS, Bool.and_eq_true, decide_eq_true_eq] at h
  simp; omega
theorem idx_names {t : ApiTable} (h : chkS t = 0) : ∀ x ∈ t.Indexes, x.Name.length ≤ 16 := by
 intro x hx
 obtain ⟨i, hi, rfl⟩ := List.mem_iff_getElem.1 hx
 have h7 := idx_none h
 rw [firstF_none] at h7
 have := h7 i hi
 unfold idxE at this
 by_cases q : nameS t.Indexes[i].Name = false
 ·rw [if_pos q] at this; cases this
 ·exact name_short (by simpa using q)
def treeS (n : Int) : Bool := decide (1 ≤ n ∧ n ≤ 65535)
theorem right1_eq (n : Int) : catalog_right_1 n = some (treeS n) := by
 unfold catalog_right_1 treeS
 refine bo (a := decide (1 ≤ n ∧ n ≤ 65535)) ?_ rfl
 by_cases k : n ≥ 1
 ·rw [bif_decT k]; congr 1; exact decI (by omega)
 ·rw [bif_decF k]; congr 1; exact (decide_eq_false (by omega)).symm
theorem rtree_eq (n : Int) : ref18_tree n = some (treeS n) := by
 unfold ref18_tree treeS
 refine bo (a := decide (1 ≤ n ∧ n ≤ 65535)) ?_ rfl
 by_cases k : n ≥ 1
 ·rw [bif_decT k]; congr 1; exact decI (by omega)
 ·rw [bif_decF k]; congr 1; exact (decide_eq_false (by omega)).symm
def badX (x : ApiIndex) : Bool := !treeS x.Tree
theorem contains18_eq (l : List ApiIndex) (h : l.length < 4611686018427387904) : slices_ContainsFunc_api_Index_api_Index_1 l = some (l.any badX) := by
  unfold slices_ContainsFunc_api_Index_api_Index_1 slices_IndexFunc_api_Index_api_Index_2
  have key := loop_search (W := Unit ⊕ Int) (B := fun y78 : Int =>
        bif (decide (y78 < (l.length : Int))) then
          Option.bind (getI l y78) fun v85 =>
          Option.bind (catalog_right_2 v85) fun r87 =>
          bif r87 then
            some (Sum.inr (Sum.inr y78))
          else
            some (Sum.inl (w64 (y78 + (1 : Int))))
        else
          some (Sum.inr (Sum.inl ()))) l badX (fun i => .inr (i : Int)) (.inl ()) (fun i hi => by
    rw [bif_decT (by omega), getI_at hi, bind_some']
    unfold catalog_right_2
    rw [right1_eq, bind_some', bind_some', w64_succ (by omega)]
    show (bif badX l[i] then _ else _) = _
    cases badX l[i] <;> rfl) (by rw [bif_decF (by omega)])
  rcases key with ⟨ha, i, hi, _, e⟩ | ⟨ha, e⟩
  · rw [e, ha]
    show Option.bind (some (i : Int)) _ = _
    rw [bind_some']
    exact congrArg some (decide_eq_true (by omega))
  · rw [e, ha]
    rfl
def okS (t : ApiTable) : Bool := decide (chkS t = 0) && (treeS t.Tree && !(t.Indexes.any badX))
theorem right_eq (t : ApiTable) (h : OkT t) (hy : ∀ x ∈ t.Indexes, OkY x) : catalog_right t = some (okS t) := by
 unfold catalog_right okS
 rw [schema_Check_eq t h hy]
 refine bo (a := decide (chkS t = 0) && (treeS t.Tree && !(t.Indexes.any badX))) ?_ rfl
 rw [bind_some']
 by_cases k : chkS t = 0
 ·rw [show (chkS t == 0) = true by simpa using k, cond_true, right1_eq, bind_some', decide_eq_true k, Bool.true_and]
  cases treeS t.Tree with
  | false => rfl
  | true => rw [cond_true, contains18_eq _ h.idxs]; rfl
 ·rw [show (chkS t == 0) = false by simpa using k, cond_false, decide_eq_false k]; rfl
def cK (t : ApiTable) (k : UInt8) (i : Int) : List UInt8 := (([116] : List UInt8) ++ t.Name) ++ [(0 : UInt8), k, u8i i]
def headV (t : ApiTable) : List UInt8 := (((bytesN (u64i t.Tree) 2 ++ [u8i t.Cols.length]) ++ [u8i t.Primary.length]) ++ t.Primary.map u8i) ++ [u8i t.Indexes.length]
def colP (t : ApiTable) (i : Nat) : List ApiPair := (List.range i).map fun (j : Nat) => ApiPair.mk (cK t 99 (j : Int)) (putC (t.Cols.getD j default))
def idxP (t : ApiTable) (i : Nat) : List ApiPair := (List.range i).map fun (j : Nat) => ApiPair.mk (cK t 105 (j : Int)) (putX (t.Indexes.getD j default))
def pairsS (t : ApiTable) : List ApiPair := ([ApiPair.mk (([116] : List UInt8) ++ t.Name) (headV t)] ++ colP t t.Cols.length) ++ idxP t t.Indexes.length
theorem colP_succ (t : ApiTable) (i : Nat) (hi : i < t.Cols.length) : colP t (i + 1) = colP t i ++ [ApiPair.mk (cK t 99 i) (putC t.Cols[i])] := by
 unfold colP
 rw [List.range_succ, List.map_append]
 simp [List.getD, hi]
theorem idxP_succ (t : ApiTable) (i : Nat) (hi : i < t.Indexes.length) : idxP t (i + 1) = idxP t i ++ [ApiPair.mk (cK t 105 i) (putX t.Indexes[i])] := by
 unfold idxP
 rw [List.range_succ, List.map_append]
 simp [List.getD, hi]
theorem colP_len (t : ApiTable) (i : Nat) : (colP t i).length = i := by simp [colP]
theorem idxP_len (t : ApiTable) (i : Nat) : (idxP t i).length = i := by simp [idxP]
structure RightN (t : ApiTable) : Prop where
 r : Right t
 cn : ∀ c ∈ t.Cols, c.Name.length ≤ 16 ∧ c.Default.S.length ≤ 64
 xn : ∀ x ∈ t.Indexes, x.Name.length ≤ 16 ∧ x.Parts.length ≤ 4 ∧ x.Extra.length ≤ 24
theorem RightN.of {t : ApiTable} (h : chkS t = 0) : RightN t := by
 have r := Right.of h
 refine ⟨r, fun c hc => ?_, fun x hx => ?_⟩
 ·obtain ⟨k1, _, _, _, k5⟩ := colS_ok (r.col c hc)
  exact ⟨name_short k1, val_short (fitS_ok k5).1⟩
 ·have rx := RightX.of (r.idx x hx)
  have := nodup_len rx.ext
  have := r.len
  exact ⟨idx_names h x hx, rx.par.2, by omega⟩
theorem Pairs_eq (t : ApiTable) (h : OkT t) (hy : ∀ x ∈ t.Indexes, OkY x) : catalog_Pairs t = some (if okS t = true then (pairsS t, 0) else ([], 1)) := by
 unfold catalog_Pairs
 rw [right_eq t h hy, bind_some']
 by_cases ho : okS t = true
 rotate_left
 ·rw [if_neg ho, show okS t = false by simpa using ho]; rfl
 rw [if_pos ho, ho, Bool.not_true, cond_false]
 have hc : chkS t = 0 := by
  simp only [okS, Bool.and_eq_true, decide_eq_true_eq] at ho
  exact ho.1
 have R := RightN.of hc
 have l1 := R.r.len
 have l2 := R.r.pri
 have l3 := R.r.ixs
 have hn := h.name
 rw [U16_1_eq, bind_some', put8_eq _ _ (by simp), bind_some', u16_any, places18_eq _ _ (by omega) (by simp [bytesN_len]), bind_some', put8_eq _ _ (by simp [bytesN_len]; omega), bind_some', bif_decT (by simp; omega)]
 unfold pack_Out_Bytes
 rw [bif_decT (by rw [room_val]; simp [bytesN_len]; omega), bind_some']
 have sub : ∀ (k : UInt8) (i : Int), catalog_sub t.Name k i = some () := by
  intro k i
  unfold catalog_sub
  rw [bif_decT (by simp; omega), bif_decT (by simp; omega)]
 refine lpA (w := [ApiPair.mk (([116] : List UInt8) ++ t.Name) (headV t)] ++ colP t t.Cols.length) (lq1 (fun i => ([ApiPair.mk (([116] : List UInt8) ++ t.Name) (headV t)] ++ colP t i, (i : Int))) t.Cols.length (fun i hi => ?_) ?_ (by rw [show colP t 0 = [] from rfl, List.append_nil]; rfl)) ?_
 ·have cn := R.cn _ (List.getElem_mem hi)
  show (bif _ then _ else _) = _
  rw [bif_decT (by omega), getI_at hi, bind_some', sub, bind_some', putColumn_eq _ (by omega) (by omega), bind_some', bif_decT (by rw [room_val]; simp [colP_len]; omega), w64_succ (by omega), colP_succ _ _ hi, ← List.append_assoc]
  rfl
 ·show (bif _ then _ else _) = _
  rw [bif_decF (by omega)]
 refine lpA (w := pairsS t) (lq1 (fun i => (([ApiPair.mk (([116] : List UInt8) ++ t.Name) (headV t)] ++ colP t t.Cols.length) ++ idxP t i, (i : Int))) t.Indexes.length (fun i hi => ?_) ?_ ?_) rfl
 ·have xn := R.xn _ (List.getElem_mem hi)
  show (bif _ then _ else _) = _
  rw [bif_decT (by omega), getI_at hi, bind_some', sub, bind_some', putIndex_eq _ (by omega) (by omega) (by omega), bind_some', bif_decT (by rw [room_val]; simp [colP_len, idxP_len]; omega), w64_succ (by omega), idxP_succ _ _ hi, ← List.append_assoc]
  rfl
 ·show (bif _ then _ else _) = _
  rw [bif_decF (by omega)]
  rfl
 ·show (_ ++ [], _) = _
  rw [List.append_nil]
  rfl
theorem RPairs_eq (t : ApiTable) (h : OkT t) : ref18_Pairs t = some (if okS t = true then (pairsS t, 0) else ([], 1)) := by
 unfold ref18_Pairs
 rw [ref17_Check_eq t h]
 refine bo (a := !(decide (chkS t = 0) && treeS t.Tree)) ?_ ?_
 ·rw [bind_some']
  by_cases k : chkS t = 0
  ·rw [show (chkS t != 0) = false by simpa using k, cond_false, rtree_eq, bind_some', decide_eq_true k, Bool.true_and]
  ·rw [show (chkS t != 0) = true by simpa using k, cond_true, decide_eq_false k]; rfl
 cases hk : (decide (chkS t = 0) && treeS t.Tree) with
 | false =>
  have : okS t = false := by
   unfold okS
   rw [← Bool.and_assoc, hk]; rfl
  rw [this]; rfl
 | true =>
 rw [Bool.not_true, cond_false]
 have hk2 := hk
 simp only [Bool.and_eq_true, decide_eq_true_eq] at hk2
 obtain ⟨hc, htree⟩ := hk2
 have R := RightN.of hc
 have l1 := R.r.len
 have l2 := R.r.pri
 have l3 := R.r.ixs
 have hn := h.name
 rw [Out_Num_nil, num2 _ _ (by simp), bind_some', num1 _ _ (by simp [bytesN_len]), bind_some', num1 _ _ (by simp [bytesN_len]), bind_some']
 refine lpA (w := ((([] ++ bytesN (u64i t.Tree) 2) ++ [u8i t.Cols.length]) ++ [u8i t.Primary.length]) ++ t.Primary.map u8i) (lq1 (fun i => ((i : Int), ((([] ++ bytesN (u64i t.Tree) 2) ++ [u8i t.Cols.length]) ++ [u8i t.Primary.length]) ++ (t.Primary.take i).map u8i)) t.Primary.length (fun i hi => ?_) ?_ (by simp)) ?_
 ·show (bif _ then _ else _) = _
  rw [bif_decT (by omega), getI_at hi, bind_some', num1 _ _ (by simp [bytesN_len]; omega), bind_some', w64_succ (by omega), take_u8 _ _ hi]
  simp only [List.append_assoc]
 ·show (bif _ then _ else _) = _
  rw [bif_decF (by omega), List.take_length]
 rw [num1 _ _ (by simp [bytesN_len]; omega), bind_some', bif_decT (by simp; omega), List.nil_append]
 have sub : ∀ (k : UInt8) (i : Int), ref18_sub t.Name [k] i = some () := by
  intro k i
  unfold ref18_sub
  rw [bif_decT (by simp; omega), bif_decT (by simp; omega), bif_decT (by simp; omega), bif_decT (by simp; omega)]
 have key : ∀ (k : UInt8) (i : Int), (((([116] : List UInt8) ++ t.Name) ++ ([0] : List UInt8)) ++ [k]) ++ [u8i i] = cK t k i := by
  intro k i
  simp [cK]
 refine lpA (w := [ApiPair.mk (([116] : List UInt8) ++ t.Name) (headV t)] ++ colP t t.Cols.length) (lq1 (fun i => ([ApiPair.mk (([116] : List UInt8) ++ t.Name) (headV t)] ++ colP t i, (i : Int))) t.Cols.length (fun i hi => ?_) ?_ (by rw [show colP t 0 = [] from rfl, List.append_nil]; rfl)) ?_
 ·have cn := R.cn _ (List.getElem_mem hi)
  show (bif _ then _ else _) = _
  rw [bif_decT (by omega), sub, bind_some', getI_at hi, bind_some', rcolumn_eq _ (by omega) (by omega), bind_some', bif_decT (by rw [room_val]; simp [colP_len]; omega), w64_succ (by omega), key, colP_succ _ _ hi, ← List.append_assoc]
 ·show (bif _ then _ else _) = _
  rw [bif_decF (by omega)]
 refine lpE (loop_by (fun y : List ApiPair × Int => ∃ i : Nat, i ≤ t.Indexes.length ∧ y = (([ApiPair.mk (([116] : List UInt8) ++ t.Name) (headV t)] ++ colP t t.Cols.length) ++ idxP t i, (i : Int)) ∧ ((t.Indexes.take i).any badX) = false) (fun y => ((t.Indexes.length : Int) - y.2).toNat)
  (fun _ => if (t.Indexes.any badX) = true then (.inr ([], 1) : List ApiPair ⊕ (List ApiPair × Int)) else .inl (pairsS t)) (fun y hy => ?_) _ ⟨0, by omega, by rw [show idxP t 0 = [] from rfl, List.append_nil]; rfl, rfl⟩) ?_
 ·obtain ⟨i, hi, rfl, ha⟩ := hy
  by_cases q : i < t.Indexes.length
  ·have xn := R.xn _ (List.getElem_mem q)
   cases hb : badX t.Indexes[i] with
   | true =>
    right
    show (bif _ then _ else _) = _
    have hany : t.Indexes.any badX = true := List.any_eq_true.2 ⟨_, List.getElem_mem q, hb⟩
    rw [bif_decT (by omega), getI_at q, bind_some', rtree_eq, bind_some', if_pos hany]
    have : (!treeS t.Indexes[i].Tree) = true := hb
    rw [this]; rfl
   | false =>
    left
    refine ⟨(([ApiPair.mk (([116] : List UInt8) ++ t.Name) (headV t)] ++ colP t t.Cols.length) ++ idxP t (i + 1), ((i + 1 : Nat) : Int)), ?_, ⟨i + 1, by omega, rfl, ?_⟩, ?_, rfl⟩
    ·show (bif _ then _ else _) = _
     have : (!treeS t.Indexes[i].Tree) = false := hb
     rw [bif_decT (by omega), getI_at q, bind_some', rtree_eq, bind_some', this, cond_false, sub, bind_some', bind_some', rindex_eq _ (by omega) (by omega) (by omega), bind_some', bif_decT (by rw [room_val]; simp [colP_len, idxP_len]; omega), w64_succ (by omega), key, idxP_succ _ _ q, ← List.append_assoc]
    ·rw [List.take_succ_eq_append_getElem q, List.any_append, ha]; simp [hb]
    ·show ((t.Indexes.length : Int) - ((i + 1 : Nat) : Int)).toNat < ((t.Indexes.length : Int) - (i : Int)).toNat
     omega
  ·right
   have e : i = t.Indexes.length := by omega
   subst e
   rw [List.take_length] at ha
   show (bif _ then _ else _) = _
   rw [bif_decF (by omega), ha]
   rfl
 ·have ok : okS t = !(t.Indexes.any badX) := by
   unfold okS
   rw [← Bool.and_assoc, hk, Bool.true_and]
  rw [ok]
  cases t.Indexes.any badX <;> rfl
theorem eqPair18 (a b : ApiPair) : eqApiPair a b = decide (a = b) := by
 cases a; cases b
 simp only [eqApiPair, ApiPair.mk.injEq]
 rw [Bool.eq_iff_iff]
 simp
theorem raw_Pairs_eq (a b : List ApiPair) (h : a.length < 4611686018427387904) : raw_Pairs a b = some (decide (a = b)) := by
 unfold raw_Pairs
 by_cases hl : a.length = b.length
 rotate_left
 ·rw [show ((a.length : Int) != (b.length : Int)) = true by simp; omega, cond_true, decide_eq_false (fun e => hl (by rw [e]))]
 rw [show ((a.length : Int) != (b.length : Int)) = false by simp; omega, cond_false]
 refine lpE (lq5 a (fun i x => if (b[i]? == some x) = true then none else some (.inr false : Unit ⊕ Bool)) (.inl ()) (fun i => (i : Int)) (fun i hi => ?_) ?_ rfl) ?_
 ·show (bif _ then _ else _) = _
  rw [bif_decT (by omega), getI_at hi, bind_some', getI_at (by omega), bind_some', w64_succ (by omega), eqPair18]
  have hb : i < b.length := by omega
  rw [List.getElem?_eq_getElem hb]
  by_cases e : a[i] = b[i]
  ·rw [decide_eq_true e, if_pos (by simp [e])]; rfl
  ·rw [decide_eq_false e, if_neg (by simpa using fun k => e k.symm)]; rfl
 ·show (bif _ then _ else _) = _
  rw [bif_decF (by omega)]
 by_cases e : a = b
 ·subst e
  rw [decide_eq_true rfl]
  have : firstF (fun i x => if (a[i]? == some x) = true then none else some (.inr false : Unit ⊕ Bool)) 0 a = none := by
   rw [firstF_none]
   intro j hj
   simp [hj]
  rw [this]; rfl
 ·rw [decide_eq_false e]
  cases hf : firstF (fun i x => if (b[i]? == some x) = true then none else some (.inr false : Unit ⊕ Bool)) 0 a with
  | none =>
   exfalso
   rw [firstF_none] at hf
   refine e (List.ext_getElem hl fun i h1 h2 => ?_)
   have := hf i h1
   simp only [Nat.zero_add] at this
   by_cases q : (b[i]? == some a[i]) = true
   ·rw [List.getElem?_eq_getElem h2] at q
    exact (by simpa using q : b[i] = a[i]).symm
   ·rw [if_neg q] at this; cases this
  | some w =>
   have : w = .inr false := by
    have aux : ∀ (l : List ApiPair) (i : Nat) (w : Unit ⊕ Bool), firstF (fun i x => if (b[i]? == some x) = true then none else some (.inr false : Unit ⊕ Bool)) i l = some w → w = .inr false := by
     intro l
     induction l with
     | nil => intro i w h; cases h
     | cons x r ih =>
      intro i w h
      rw [firstF] at h
      by_cases q : (b[i]? == some x) = true
      ·rw [if_pos q] at h; exact ih _ _ h
      ·rw [if_neg q] at h; exact (Option.some.inj h).symm
    exact aux _ _ _ hf
   subst this
   rfl
structure SzT (t : ApiTable) : Prop where
 c : t.Cols.length * 72 ≤ room
 p : t.Primary.length * 8 ≤ room
 x : t.Indexes.length * 80 ≤ room
 y : ∀ x ∈ t.Indexes, x.Parts.length * 16 ≤ room ∧ x.Extra.length * 8 ≤ room
theorem Copy18_eq (t : ApiTable) (s : SzT t) : ref17_Copy t = some t.Indexes := by
 unfold ref17_Copy
 have h1 := s.c
 have h2 := s.p
 have h3 := s.x
 rw [room_val] at h1 h2 h3
 rw [bif_decT (by rw [room_val]; simp; omega), bif_decT (by rw [room_val]; simp; omega)]
 refine lpA (w := t.Indexes) (lq1 (fun i => (t.Indexes.take i, (i : Int))) t.Indexes.length (fun i hi => ?_) ?_ rfl) rfl
 ·have hy := s.y _ (List.getElem_mem hi)
  rw [room_val] at hy
  show (bif _ then _ else _) = _
  rw [bif_decT (by omega), getI_at hi, bind_some', bif_decT (by rw [room_val]; simp; omega), bif_decT (by rw [room_val]; simp; omega), bif_decT (by rw [room_val]; simp; omega), w64_succ (by omega), List.take_succ_eq_append_getElem hi]
  rfl
 ·show (bif _ then _ else _) = _
  rw [bif_decF (by omega), List.take_length]
theorem CatalogPairs_aw (ha : law18_awake = some true) (t : ApiTable) (h : OkT t) (hy : ∀ x ∈ t.Indexes, OkY x) (s : SzT t) : law18_CatalogPairs t = some true := by
 unfold law18_CatalogPairs
 rw [ha, bind_some', Bool.not_true, cond_false, Copy18_eq t s, bind_some']
 have e : ApiTable.mk t.Name (([] : List ApiColumn) ++ t.Cols) (([] : List Int) ++ t.Primary) t.Indexes t.Tree = t := rfl
 rw [e, Pairs_eq t h hy, bind_some', RPairs_eq t h]
 have len : (if okS t = true then (pairsS t, (0 : Int)) else ([], 1)).1.length < 4611686018427387904 := by
  by_cases k : okS t = true
  ·rw [if_pos k]
   have hc : chkS t = 0 := by
    simp only [okS, Bool.and_eq_true, decide_eq_true_eq] at k
    exact k.1
   have r := Right.of hc
   have l1 := r.len
   have l3 := r.ixs
   show (pairsS t).length < _
   unfold pairsS
   simp [colP_len, idxP_len]; omega
  ·rw [if_neg k]; simp
 generalize (if okS t = true then (pairsS t, (0 : Int)) else ([], 1)) = w at len
 obtain ⟨l, e⟩ := w
 show Option.bind (some (l, e)) _ = _
 rw [bind_some']
 show Option.bind (bif (e == e) then _ else _) _ = _
 refine bo (a := true) ?_ rfl
 rw [BEq.rfl, cond_true, raw_Pairs_eq _ _ len, bind_some', decide_eq_true rfl, cond_true, ref17_Same_eq _ _ h, bind_some', decide_eq_true rfl]
end Lv
/- CatalogPairs, with the fixed example; from the sizes in bytes to the plain law's conditions. -/
namespace Lv
open Go Go.Proofs
set_option linter.unusedVariables false
set_option linter.unusedSimpArgs false
set_option linter.unusedSectionVars false
variable [BaseTab]
omit [BaseTab] in
theorem szT_ofB {R : Nat} (hR : R ≤ 140737488355328) {t : ApiTable} (h : okApiTable R t) : SzT t := by
 obtain ⟨h1, h2, h3, h4, h5, _⟩ := h
 have q2 := h2.1
 have q3 := h3.1
 have q4 := h4.1
 refine ⟨by rw [room_val]; omega, by rw [room_val]; omega, by rw [room_val]; omega, fun x hx => ?_⟩
 obtain ⟨k1, k2, k3, _⟩ := h4.2 x hx
 have m2 := k2.1
 have m3 := k3.1
 exact ⟨by rw [room_val]; omega, by rw [room_val]; omega⟩
theorem CatalogPairs_true (t : ApiTable) (h : OkT t) (hy : ∀ x ∈ t.Indexes, OkY x) (s : SzT t) : law18_CatalogPairs t = some true := CatalogPairs_aw law18_awake_some t h hy s
end Lv
