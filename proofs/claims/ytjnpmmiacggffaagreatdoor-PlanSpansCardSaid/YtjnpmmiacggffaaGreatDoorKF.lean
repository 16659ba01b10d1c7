/- Part of the proof of a law. -/
import Derived.Test.YtjnpmmiacggffaaGreatDoorXAll
import Derived.Test.YtjnpmmiacggffaaGreatDoorGwPlain
import Derived.Lib.ValidLaws
import Derived.Test.YtjnpmmiacggffaaGreatDoorGwQ
import Derived.Test.YtjnpmmiacggffaaGreatDoorXOk
import Derived.Test.YtjnpmmiacggffaaGreatDoorKK21
set_option linter.unusedVariables false
set_option linter.unusedSimpArgs false
set_option linter.unusedSectionVars false
set_option maxRecDepth 100000
namespace Lv
open Go Go.Proofs
variable [BaseTab]
def val (v : ApiValue) : Bool :=
 (v.Kind == 0 && (v.N == 0 && v.S == [])) || ((v.Kind == 1 || v.Kind == 2) && v.S == []) || (v.Kind == 3 && (decide (v.N < 2) && v.S == [])) ||
 (v.Kind == 4 && (v.N == 0 && decide (v.S.length ≤ 64))) || (v.Kind == 5 && (v.N == 0 && (decide (v.S.length ≤ 64) && Go.Lib.validD v.S)))
theorem value_Valid_eq (v : ApiValue) (h : v.S.length < 4611686018427387904) : value_Valid v = some (val v) := by
 have e1 : validF v.S = some (Go.Lib.validD v.S) := by unfold validF; rw [if_pos (by omega)]
 have e2 : ((v.S.length : Int) ≤ 64) = (v.S.length ≤ 64) := propext (by omega)
 have e3 : (v.N ≤ 1) = (v.N < 2) := propext (by rw [UInt64.le_iff_toNat_le, UInt64.lt_iff_toNat_lt]; show _ ≤ 1 ↔ _ < 2; omega)
 obtain ⟨K, N, S⟩ := v
 unfold value_Valid val
 simp only [e1, e2, e3, eqApiValue, Bool.and_true] at *
 by_cases k0 : K = 0
 ·subst k0; simp
 by_cases k1 : K = 1
 ·subst k1; simp
 by_cases k2 : K = 2
 ·subst k2; simp
 by_cases k3 : K = 3
 ·subst k3; by_cases hN : N < 2 <;> simp [hN]
 by_cases k4 : K = 4
 ·subst k4; cases hN : (N == 0) <;> simp [hN]
 by_cases k5 : K = 5
 ·subst k5; cases hN : (N == 0) <;> by_cases hS : S.length ≤ 64 <;> simp [hN, hS]
 simp [beq_eq_false_iff_ne.2 k0, beq_eq_false_iff_ne.2 k1, beq_eq_false_iff_ne.2 k2, beq_eq_false_iff_ne.2 k3, beq_eq_false_iff_ne.2 k4, beq_eq_false_iff_ne.2 k5]
def utfB (s : List UInt8) (i n : Int) : Int × Int → Option ((Int × Int) ⊕ (Int ⊕ Bool)) := fun (y1265, y1266) =>
                      bif (decide (y1266 < n)) then
                        Option.bind (getI s (w64 (i + y1266))) fun v1279 =>
                        Option.bind (α := Bool)
                          (bif (decide ((v1279.toNat : Int) < (128 : Int))) then
                            some true
                          else
                            some (decide ((v1279.toNat : Int) ≥ (192 : Int))))
                          fun y1281 =>
                        bif y1281 then
                          some (Sum.inr (Sum.inr false))
                        else
                          some (Sum.inl ((w64 ((w64 ((w64 (y1265 * (64 : Int))) + (v1279.toNat : Int))) - (128 : Int))), (w64 (y1266 + (1 : Int)))))
                      else
                        some (Sum.inr (Sum.inl y1265))
theorem utf_more (s : List UInt8) (i : Nat) (n k c : Int) (b : UInt8) (hk : 0 ≤ k) (hn : k < n) (hn4 : n ≤ 4) (hi : i + k.toNat < s.length) (hs : s.length < 4611686018427387904) (hc : 0 ≤ c ∧ c < 4294967296) (hb : s.getD (i + k.toNat) 0 = b) :
  loop (utfB s i n) (c, k) = if b.toNat / 64 = 2 then loop (utfB s i n) (c * 64 + (b.toNat : Int) - 128, k + 1) else some (.inr false) := by
 have hg : getI s (w64 ((i : Int) + k)) = some b := by
  rw [w64_id (by omega) (by omega)]
  unfold getI
  rw [if_pos (by omega), show ((i : Int) + k).toNat = i + k.toNat by omega, List.getElem?_eq_getElem hi]
  rw [List.getD_eq_getElem?_getD, List.getElem?_eq_getElem hi] at hb
  exact congrArg some hb
 have hlt := b.toNat_lt
 by_cases h : b.toNat / 64 = 2
 ·rw [if_pos h]
  refine loop_step ?_
  show (bif (decide (k < n)) then _ else _) = _
  rw [decide_eq_true hn, cond_true, hg, bind_some', bif_decF (show ¬ ((b.toNat : Int) < 128) by omega), bind_some', bif_decF (show ¬ ((b.toNat : Int) ≥ 192) by omega)]
  rw [w64_id (n := c * 64) (by omega) (by omega), w64_id (n := c * 64 + _) (by omega) (by omega), w64_id (n := c * 64 + _ - _) (by omega) (by omega), w64_id (n := k + 1) (by omega) (by omega)]
 ·rw [if_neg h]
  refine loop_end ?_
  show (bif (decide (k < n)) then _ else _) = _
  rw [decide_eq_true hn, cond_true, hg, bind_some']
  by_cases h2 : b.toNat < 128
  ·rw [bif_decT (show ((b.toNat : Int) < 128) by omega), bind_some', cond_true]
  ·rw [bif_decF (show ¬ ((b.toNat : Int) < 128) by omega), bind_some', bif_decT (show ((b.toNat : Int) ≥ 192) by omega)]
theorem utf_end (s : List UInt8) (i : Nat) (n c : Int) : loop (utfB s i n) (c, n) = some (.inl c) := by
 refine loop_end ?_
 show (bif (decide (n < n)) then _ else _) = _
 rw [bif_decF (show ¬ (n < n) by omega)]
def utfN (l : List UInt8) : Nat :=
 if (Go.Lib.decodeN l.length (l.getD 0 0).toNat (l.getD 1 0).toNat (l.getD 2 0).toNat (l.getD 3 0).toNat).1 = 65533 ∧ (Go.Lib.decodeN l.length (l.getD 0 0).toNat (l.getD 1 0).toNat (l.getD 2 0).toNat (l.getD 3 0).toNat).2 = 1 then 0
 else (Go.Lib.decodeN l.length (l.getD 0 0).toNat (l.getD 1 0).toNat (l.getD 2 0).toNat (l.getD 3 0).toNat).2
theorem validD_utfN (l : List UInt8) (hne : l ≠ []) : Go.Lib.validD l = if utfN l = 0 then false else Go.Lib.validD (l.drop (utfN l)) := by
 have hw := Go.Lib.decodeL_width l
 have hl : 0 < l.length := List.length_pos_iff.2 hne
 rw [Go.Lib.validD_step l hne, Go.Lib.decodeL_N]
 rw [Go.Lib.decodeL_N] at hw
 unfold utfN
 split
 ·simp
 ·rw [if_neg (by omega)]
theorem utfN_1 (l : List UInt8) (h : (l.getD 0 0).toNat < 128) : utfN l = 1 := by
 unfold utfN Go.Lib.decodeN
 rw [if_pos h]
 simp only
 rw [if_neg (by omega)]
theorem utfN_bad (l : List UInt8) (h : (128 ≤ (l.getD 0 0).toNat ∧ (l.getD 0 0).toNat < 194) ∨ 245 ≤ (l.getD 0 0).toNat) : utfN l = 0 := by
 unfold utfN
 have := (l.getD 0 0).toNat_lt
 rw [Go.Lib.decodeN_bad _ _ _ _ _ (by omega)]
 rfl
theorem utfN_2 (l : List UInt8) (h : 194 ≤ (l.getD 0 0).toNat ∧ (l.getD 0 0).toNat < 224) : utfN l = if 1 < l.length ∧ (l.getD 1 0).toNat / 64 = 2 then 2 else 0 := by
 unfold utfN Go.Lib.decodeN
 repeat' split
 all_goals first | rfl | (exfalso; omega) | (simp only at *; omega)
theorem utfN_3 (l : List UInt8) (h : 224 ≤ (l.getD 0 0).toNat ∧ (l.getD 0 0).toNat < 240) : utfN l = if (2 < l.length ∧ (l.getD 1 0).toNat / 64 = 2 ∧ (l.getD 2 0).toNat / 64 = 2) ∧ 2048 ≤ (l.getD 0 0).toNat % 16 * 4096 + (l.getD 1 0).toNat % 64 * 64 + (l.getD 2 0).toNat % 64 ∧ ((l.getD 0 0).toNat % 16 * 4096 + (l.getD 1 0).toNat % 64 * 64 + (l.getD 2 0).toNat % 64 < 55296 ∨ 57344 ≤ (l.getD 0 0).toNat % 16 * 4096 + (l.getD 1 0).toNat % 64 * 64 + (l.getD 2 0).toNat % 64) then 3 else 0 := by
 unfold utfN Go.Lib.decodeN
 repeat' split
 all_goals first | rfl | (exfalso; omega) | (simp only at *; omega)
theorem utfN_4 (l : List UInt8) (h : 240 ≤ (l.getD 0 0).toNat ∧ (l.getD 0 0).toNat < 245) : utfN l = if (3 < l.length ∧ (l.getD 1 0).toNat / 64 = 2 ∧ (l.getD 2 0).toNat / 64 = 2 ∧ (l.getD 3 0).toNat / 64 = 2) ∧ 65536 ≤ (l.getD 0 0).toNat % 8 * 262144 + (l.getD 1 0).toNat % 64 * 4096 + (l.getD 2 0).toNat % 64 * 64 + (l.getD 3 0).toNat % 64 ∧ (l.getD 0 0).toNat % 8 * 262144 + (l.getD 1 0).toNat % 64 * 4096 + (l.getD 2 0).toNat % 64 * 64 + (l.getD 3 0).toNat % 64 ≤ 1114111 then 4 else 0 := by
 unfold utfN Go.Lib.decodeN
 repeat' split
 all_goals first | rfl | (exfalso; omega) | (simp only at *; omega)
theorem decI {p q : Prop} [Decidable p] [Decidable q] (h : p ↔ q) : decide p = decide q := decide_eq_decide.2 h
noncomputable def utfT (p0 : List UInt8) (y1079 y1207 y1208 y1209 : Int) : Option (Int ⊕ (Unit ⊕ Bool)) :=
              bif (decide ((w64 (y1079 + y1207)) > (p0.length : Int))) then
                some (Sum.inr (Sum.inr false))
              else
                bindE (Y := Int) (E := Bool)
                  (Option.bind (α := Int ⊕ Bool) (loop (utfB p0 y1079 y1207) (y1209, (1 : Int)))
                    (Sum.elim (fun e => some (Sum.inl e)) (fun e => some (Sum.inr e))))
                  (fun y1256 =>
                    Option.bind (α := Bool)
                      (bif (decide (y1256 < y1208)) then
                        some true
                      else
                        bif (decide (y1256 > (1114111 : Int))) then
                          some true
                        else
                          bif (decide (y1256 ≥ (55296 : Int))) then
                            some (decide (y1256 < (57344 : Int)))
                          else
                            some false)
                      fun y1289 =>
                    bif y1289 then
                      some (Sum.inr (Sum.inr false))
                    else
                      some (Sum.inl (w64 (y1079 + y1207))))
                  (fun e => some (Sum.inr (Sum.inr e)))
theorem utfT_all {s : List UInt8} {i n : Nat} {m c c' : Int} (hn : n ≤ 4) (hs : s.length < 4611686018427387904) (hi : i + n ≤ s.length) (h : loop (utfB s i n) (c, 1) = some (.inl c')) :
  utfT s i n m c = some (if c' < m ∨ c' > 1114111 ∨ (55296 ≤ c' ∧ c' < 57344) then .inr (.inr false) else .inl ((i + n : Nat) : Int)) := by
 unfold utfT
 rw [w64_id (n := (i : Int) + n) (by omega) (by omega), bif_decF (show ¬ ((i : Int) + n > (s.length : Int)) by omega), h, bind_some', Sum.elim_inl, bindE_l]
 by_cases h1 : c' < m
 ·rw [bif_decT h1, bind_some', cond_true, if_pos (.inl h1)]
 rw [bif_decF h1]
 by_cases h2 : c' > 1114111
 ·rw [bif_decT h2, bind_some', cond_true, if_pos (.inr (.inl h2))]
 rw [bif_decF h2]
 by_cases h3 : c' ≥ 55296
 ·rw [bif_decT h3, bind_some']
  by_cases h4 : c' < 57344
  ·rw [bif_decT h4, if_pos (.inr (.inr ⟨h3, h4⟩))]
  ·rw [bif_decF h4, if_neg (by omega)]; rfl
 ·rw [bif_decF h3, bind_some', cond_false, if_neg (by omega)]; rfl
theorem utfT_no {s : List UInt8} {i n : Nat} {m c : Int} (hn : n ≤ 4) (hs : s.length < 4611686018427387904) (hi : i + n ≤ s.length) (h : loop (utfB s i n) (c, 1) = some (.inr false)) :
  utfT s i n m c = some (.inr (.inr false)) := by
 unfold utfT
 rw [w64_id (n := (i : Int) + n) (by omega) (by omega), bif_decF (show ¬ ((i : Int) + n > (s.length : Int)) by omega), h, bind_some', Sum.elim_inr, bindE_r]
theorem utfT_short {s : List UInt8} {i n : Nat} {m c : Int} (hn : n ≤ 4) (hs : s.length < 4611686018427387904) (hi : i ≤ s.length) (hi : ¬ i + n ≤ s.length) : utfT s i n m c = some (.inr (.inr false)) := by
 unfold utfT
 rw [w64_id (n := (i : Int) + n) (by omega) (by omega), bif_decT (show ((i : Int) + n > (s.length : Int)) by omega)]
theorem ref06_utf8_eq (s : List UInt8) (hs : s.length < 4611686018427387904) : ref06_utf8 s = some (Go.Lib.validD s) := by
 unfold ref06_utf8
 refine Eq.trans (congrArg (fun x => bindE (Y := Unit) (E := Bool) (Option.bind (α := Unit ⊕ Bool) x (Sum.elim (fun e => some (Sum.inl e)) (fun e => some (Sum.inr e)))) (fun _ => some true) (fun e => some e))
  (loop_by (fun y : Int => ∃ i : Nat, y = i ∧ i ≤ s.length) (fun y => s.length - y.toNat) (fun y => if Go.Lib.validD (s.drop y.toNat) = true then .inl () else .inr false) ?_ 0 ⟨0, rfl, by omega⟩)) ?_
 ·rintro y ⟨i, rfl, hi⟩
  rcases Nat.lt_or_ge i s.length with hlt | hge
  rotate_left
  ·right
   have : i = s.length := by omega
   subst this
   simp only [ltI, Nat.lt_irrefl, decide_false, cond_false, Int.toNat_natCast, List.drop_length, Go.Lib.validD_nil, if_true]
  have hne : s.drop i ≠ [] := by intro e; have := congrArg List.length e; simp at this; omega
  have hv := validD_utfN (s.drop i) hne
  have hlen : (s.drop i).length = s.length - i := by simp
  have hd : ∀ k, (s.drop i).getD k 0 = s.getD (i + k) 0 := fun k => Go.Lib.getD_dropU s i k
  have hg : getI s (i : Int) = some (s.getD i 0) := by
   rw [getI_at hlt, List.getD_eq_getElem?_getD, List.getElem?_eq_getElem hlt]; rfl
  have hb := (s.getD i 0).toNat_lt
  -- what a round must show
  suffices hB : ∀ B : Option (Int ⊕ (Unit ⊕ Bool)), B = some (if utfN (s.drop i) = 0 then .inr (.inr false) else .inl ((i + utfN (s.drop i) : Nat) : Int)) → utfN (s.drop i) ≤ s.length - i →
    (∃ y', B = some (.inl y') ∧ (∃ j : Nat, y' = j ∧ j ≤ s.length) ∧ s.length - y'.toNat < s.length - ((i : Int)).toNat ∧ (if Go.Lib.validD (s.drop y'.toNat) = true then Sum.inl () else Sum.inr false) = (if Go.Lib.validD (s.drop ((i : Int)).toNat) = true then Sum.inl () else Sum.inr false)) ∨ B = some (.inr (if Go.Lib.validD (s.drop ((i : Int)).toNat) = true then .inl () else .inr false)) by
   have hle : utfN (s.drop i) ≤ s.length - i := by
    rcases Nat.lt_or_ge (s.getD i 0).toNat 128 with c1 | c1
    ·rw [utfN_1 _ (by rw [hd]; exact c1)]; omega
    rcases Nat.lt_or_ge (s.getD i 0).toNat 194 with c2 | c2
    ·rw [utfN_bad _ (by rw [hd, Nat.add_zero]; omega)]; omega
    rcases Nat.lt_or_ge (s.getD i 0).toNat 224 with c3 | c3
    ·rw [utfN_2 _ (by rw [hd, Nat.add_zero]; omega)]; split <;> omega
    rcases Nat.lt_or_ge (s.getD i 0).toNat 240 with c4 | c4
    ·rw [utfN_3 _ (by rw [hd, Nat.add_zero]; omega)]; split <;> omega
    rcases Nat.lt_or_ge (s.getD i 0).toNat 245 with c5 | c5
    ·rw [utfN_4 _ (by rw [hd, Nat.add_zero]; omega)]; split <;> omega
    ·rw [utfN_bad _ (by rw [hd, Nat.add_zero]; omega)]; omega
   refine hB _ ?_ hle
   rw [ltI, decide_eq_true hlt, cond_true, hg, bind_some']
   have d0 := hd 0
   rw [Nat.add_zero] at d0
   have d1 := hd 1
   have d2 := hd 2
   have d3 := hd 3
   have b1 := (s.getD (i + 1) 0).toNat_lt
   have b2 := (s.getD (i + 2) 0).toNat_lt
   have b3 := (s.getD (i + 3) 0).toNat_lt
   rcases Nat.lt_or_ge (s.getD i 0).toNat 128 with c1 | c1
   ·have hu := utfN_1 (s.drop i) (by rw [d0]; exact c1)
    rw [hu, bif_decT (show ((s.getD i 0).toNat : Int) < 128 by omega), bindE_l]
    refine (utfT_all (n := 1) (by omega) hs (by omega) (utf_end s i 1 _)).trans ?_
    rw [if_neg (by omega), if_neg (by omega)]
   rw [bif_decF (show ¬ (((s.getD i 0).toNat : Int) < 128) by omega)]
   rcases Nat.lt_or_ge (s.getD i 0).toNat 194 with c2 | c2
   ·have hu := utfN_bad (s.drop i) (by rw [d0]; omega)
    rw [hu, bif_decF (show ¬ (((s.getD i 0).toNat : Int) ≥ 194) by omega), bind_some', cond_false, bif_decF (show ¬ (((s.getD i 0).toNat : Int) ≥ 224) by omega), bind_some', cond_false, bif_decF (show ¬ (((s.getD i 0).toNat : Int) ≥ 240) by omega), bind_some', cond_false]
    rfl
   rw [bif_decT (show (((s.getD i 0).toNat : Int) ≥ 194) by omega), bind_some']
   rcases Nat.lt_or_ge (s.getD i 0).toNat 224 with c3 | c3
   ·have hu := utfN_2 (s.drop i) (by rw [d0]; omega)
    rw [d1, hlen] at hu
    rw [bif_decT (show (((s.getD i 0).toNat : Int) < 224) by omega), bindE_l]
    show utfT s i (2 : Nat) 128 _ = _
    by_cases hn : i + 2 ≤ s.length
    ·rw [w64_id (n := ((s.getD i 0).toNat : Int) - 192) (by omega) (by omega)]
     have q := utf_more s i 2 1 (((s.getD i 0).toNat : Int) - 192) (s.getD (i + 1) 0) (by omega) (by omega) (by omega) (by omega) hs (by omega) rfl
     by_cases t1 : (s.getD (i + 1) 0).toNat / 64 = 2
     ·rw [if_pos t1] at q
      refine (utfT_all (n := 2) (by omega) hs (by omega) (q.trans (utf_end s i 2 _))).trans ?_
      rw [hu, if_pos (show 1 < s.length - i ∧ (s.getD (i + 1) 0).toNat / 64 = 2 by omega)]
      split
      ·exfalso; omega
      ·rfl
     ·rw [if_neg t1] at q
      refine (utfT_no (n := 2) (by omega) hs (by omega) q).trans ?_
      rw [show utfN (s.drop i) = 0 by rw [hu]; exact if_neg (by omega)]
      rfl
    ·rw [show utfN (s.drop i) = 0 by rw [hu]; exact if_neg (by omega)]
     exact utfT_short (by omega) hs hi hn
   rw [bif_decF (show ¬ (((s.getD i 0).toNat : Int) < 224) by omega), bif_decT (show (((s.getD i 0).toNat : Int) ≥ 224) by omega), bind_some']
   rcases Nat.lt_or_ge (s.getD i 0).toNat 240 with c4 | c4
   ·have hu := utfN_3 (s.drop i) (by rw [d0]; omega)
    rw [d0, d1, d2, hlen] at hu
    rw [bif_decT (show (((s.getD i 0).toNat : Int) < 240) by omega), bindE_l]
    show utfT s i (3 : Nat) 2048 _ = _
    by_cases hn : i + 3 ≤ s.length
    ·rw [w64_id (n := ((s.getD i 0).toNat : Int) - 224) (by omega) (by omega)]
     have q := utf_more s i 3 1 (((s.getD i 0).toNat : Int) - 224) (s.getD (i + 1) 0) (by omega) (by omega) (by omega) (by omega) hs (by omega) rfl
     by_cases t1 : (s.getD (i + 1) 0).toNat / 64 = 2
     ·rw [if_pos t1] at q
      have q2 := utf_more s i 3 2 ((((s.getD i 0).toNat : Int) - 224) * 64 + ((s.getD (i + 1) 0).toNat : Int) - 128) (s.getD (i + 2) 0) (by omega) (by omega) (by omega) (by omega) hs (by omega) rfl
      by_cases t2 : (s.getD (i + 2) 0).toNat / 64 = 2
      ·rw [if_pos t2] at q2
       refine (utfT_all (n := 3) (by omega) hs (by omega) (q.trans (q2.trans (utf_end s i 3 _)))).trans ?_
       split
       ·rw [show utfN (s.drop i) = 0 by rw [hu]; exact if_neg (by omega)]
        rfl
       ·rw [show utfN (s.drop i) = 3 by rw [hu]; exact if_pos (by omega)]
        rfl
      ·rw [if_neg t2] at q2
       refine (utfT_no (n := 3) (by omega) hs (by omega) (q.trans q2)).trans ?_
       rw [show utfN (s.drop i) = 0 by rw [hu]; exact if_neg (by omega)]
       rfl
     ·rw [if_neg t1] at q
      refine (utfT_no (n := 3) (by omega) hs (by omega) q).trans ?_
      rw [show utfN (s.drop i) = 0 by rw [hu]; exact if_neg (by omega)]
      rfl
    ·rw [show utfN (s.drop i) = 0 by rw [hu]; exact if_neg (by omega)]
     exact utfT_short (by omega) hs hi hn
   rw [bif_decF (show ¬ (((s.getD i 0).toNat : Int) < 240) by omega), bif_decT (show (((s.getD i 0).toNat : Int) ≥ 240) by omega), bind_some']
   rcases Nat.lt_or_ge (s.getD i 0).toNat 245 with c5 | c5
   ·have hu := utfN_4 (s.drop i) (by rw [d0]; omega)
    rw [d0, d1, d2, d3, hlen] at hu
    rw [bif_decT (show (((s.getD i 0).toNat : Int) < 245) by omega), bindE_l]
    show utfT s i (4 : Nat) 65536 _ = _
    by_cases hn : i + 4 ≤ s.length
    ·rw [w64_id (n := ((s.getD i 0).toNat : Int) - 240) (by omega) (by omega)]
     have q := utf_more s i 4 1 (((s.getD i 0).toNat : Int) - 240) (s.getD (i + 1) 0) (by omega) (by omega) (by omega) (by omega) hs (by omega) rfl
     by_cases t1 : (s.getD (i + 1) 0).toNat / 64 = 2
     ·rw [if_pos t1] at q
      have q2 := utf_more s i 4 2 ((((s.getD i 0).toNat : Int) - 240) * 64 + ((s.getD (i + 1) 0).toNat : Int) - 128) (s.getD (i + 2) 0) (by omega) (by omega) (by omega) (by omega) hs (by omega) rfl
      by_cases t2 : (s.getD (i + 2) 0).toNat / 64 = 2
      ·rw [if_pos t2] at q2
       have q3 := utf_more s i 4 3 (((((s.getD i 0).toNat : Int) - 240) * 64 + ((s.getD (i + 1) 0).toNat : Int) - 128) * 64 + ((s.getD (i + 2) 0).toNat : Int) - 128) (s.getD (i + 3) 0) (by omega) (by omega) (by omega) (by omega) hs (by omega) rfl
       by_cases t3 : (s.getD (i + 3) 0).toNat / 64 = 2
       ·rw [if_pos t3] at q3
        refine (utfT_all (n := 4) (by omega) hs (by omega) (q.trans (q2.trans (q3.trans (utf_end s i 4 _))))).trans ?_
        split
        ·rw [show utfN (s.drop i) = 0 by rw [hu]; exact if_neg (by omega)]
         rfl
        ·rw [show utfN (s.drop i) = 4 by rw [hu]; exact if_pos (by omega)]
         rfl
       ·rw [if_neg t3] at q3
        refine (utfT_no (n := 4) (by omega) hs (by omega) (q.trans (q2.trans q3))).trans ?_
        rw [show utfN (s.drop i) = 0 by rw [hu]; exact if_neg (by omega)]
        rfl
      ·rw [if_neg t2] at q2
       refine (utfT_no (n := 4) (by omega) hs (by omega) (q.trans q2)).trans ?_
       rw [show utfN (s.drop i) = 0 by rw [hu]; exact if_neg (by omega)]
       rfl
     ·rw [if_neg t1] at q
      refine (utfT_no (n := 4) (by omega) hs (by omega) q).trans ?_
      rw [show utfN (s.drop i) = 0 by rw [hu]; exact if_neg (by omega)]
      rfl
    ·rw [show utfN (s.drop i) = 0 by rw [hu]; exact if_neg (by omega)]
     exact utfT_short (by omega) hs hi hn
   ·have hu := utfN_bad (s.drop i) (by rw [d0]; omega)
    rw [hu, bif_decF (show ¬ (((s.getD i 0).toNat : Int) < 245) by omega)]
    rfl
  intro B hB hle
  rw [Int.toNat_natCast, hv]
  by_cases h0 : utfN (s.drop i) = 0
  ·right; rw [hB, if_pos h0, if_pos h0]; rfl
  ·left
   rw [if_neg h0] at hB
   refine ⟨_, hB, ⟨_, rfl, by omega⟩, by rw [Int.toNat_natCast]; omega, ?_⟩
   rw [Int.toNat_natCast, if_neg h0, List.drop_drop]
 ·simp only [Int.toNat_zero, List.drop_zero]
  by_cases h : Go.Lib.validD s = true
  ·rw [h]; rfl
  ·rw [if_neg h, Bool.eq_false_iff.2 h]; rfl
theorem ref06_Valid_eq (v : ApiValue) (h : v.S.length < 4611686018427387904) : ref06_Valid v = some (val v) := by
 have e1 := ref06_utf8_eq v.S h
 have e2 : ((v.S.length : Int) ≤ 64) = (v.S.length ≤ 64) := propext (by omega)
 obtain ⟨K, N, S⟩ := v
 unfold ref06_Valid val
 simp only [e1, e2, Bool.and_true] at *
 by_cases k0 : K = 0
 ·subst k0; cases hN : (N == 0) <;> simp [hN]
 by_cases k1 : K = 1
 ·subst k1; simp
 by_cases k2 : K = 2
 ·subst k2; simp
 by_cases k3 : K = 3
 ·subst k3; by_cases hN : N < 2 <;> simp [hN]
 by_cases k4 : K = 4
 ·subst k4; cases hN : (N == 0) <;> simp [hN]
 by_cases k5 : K = 5
 ·subst k5; cases hN : (N == 0) <;> by_cases hS : S.length ≤ 64 <;> simp [hN, hS, e1]
 simp [beq_eq_false_iff_ne.2 k0, beq_eq_false_iff_ne.2 k1, beq_eq_false_iff_ne.2 k2, beq_eq_false_iff_ne.2 k3, beq_eq_false_iff_ne.2 k4, beq_eq_false_iff_ne.2 k5]
def bytesN (n : UInt64) : Nat → List UInt8
 | 0 => []
 | k + 1 => UInt8.ofNat (n.toNat / 2 ^ (8 * k)) :: bytesN n k
theorem bytesN_len (n : UInt64) : ∀ k, (bytesN n k).length = k
 | 0 => rfl
 | k + 1 => by simp [bytesN, bytesN_len n k]
theorem low8 (n : UInt64) : n.toUInt8 = UInt8.ofNat (n.toNat / 2 ^ (8 * 0)) := by
 rw [← UInt8.toNat_inj]; simp
def turn (d : Bool) (b : List UInt8) : List UInt8 := if d then b.map (fun x => ~~~ x) else b
theorem turn_len (d : Bool) (b : List UInt8) : (turn d b).length = b.length := by cases d <;> simp [turn]
theorem key_turned_eq (b : List UInt8) (h : b.length < 4611686018427387904) : key_turned b = some (b.map (fun x => ~~~ x)) := by
  unfold key_turned
  have q := loop_seq (B := (fun (y57, y58) =>
        bif (decide (y58 < (b.length : Int))) then
          Option.bind (getI y57 y58) fun v67 =>
          Option.bind (getI y57 y58) fun v68 =>
          some (Sum.inl ((List.set y57 y58.toNat (~~~ v67)), (w64 (y58 + (1 : Int)))))
        else
          some (Sum.inr y57))) (fun i => (mapped (fun x => ~~~ x) b i, (i : Int))) b.length (w := b.map (fun x => ~~~ x)) ?_ ?_
  · rw [mapped_zero] at q
    rw [show (loop _ (b, (0 : Int))) = _ from q]
    rfl
  · intro i hi
    show (bif _ then _ else _) = _
    rw [bif_decT (by omega), getI_nat, mapped_get _ _ hi, bind_some', bind_some', w64_succ (by omega), Int.toNat_natCast]
    exact congrArg (fun x => some (Sum.inl (x, _))) (mapped_set _ _ hi)
  · show (bif _ then _ else _) = _
    rw [bif_decF (by omega), mapped_all]
def esc : List UInt8 → List UInt8
 | [] => []
 | x :: r => if x = 0 then 0 :: 255 :: esc r else x :: esc r
theorem esc_len : ∀ s, (esc s).length ≤ 2 * s.length
 | [] => by simp [esc]
 | x :: r => by have := esc_len r; unfold esc; split <;> simp <;> omega
open Go.Lib in
theorem index0_cons (b : UInt8) (l : List UInt8) : index (b :: l) [0] = if b = 0 then 0 else if index l [0] = -1 then -1 else index l [0] + 1 := by
 conv => lhs; unfold index
 by_cases hb : b = 0
 ·subst hb; simp [List.isPrefixOf]
 ·rw [if_neg hb]
  rw [if_neg (by simp [List.isPrefixOf]; exact fun h => hb h.symm)]
  by_cases h : index l [0] = -1
  ·simp [h]
  ·rw [if_neg h, if_neg (by simpa using h)]
open Go.Lib in
theorem replK0_cons (b : UInt8) (l new : List UInt8) (hb : b ≠ 0) : ∀ k, replaceK [0] new k (b :: l) = b :: replaceK [0] new k l
 | 0 => rfl
 | k + 1 => by
  have h := index0_cons b l
  rw [if_neg hb] at h
  unfold replaceK
  by_cases hm : index l [0] = -1
  ·rw [if_pos hm] at h
   rw [h, hm]; rfl
  ·have hge := index_ge l [0]
   rw [if_neg hm] at h
   rw [if_neg (by rw [h]; intro e; have := beq_iff_eq.1 e; omega), if_neg (by intro e; exact hm (beq_iff_eq.1 e)), h]
   have e1 : (index l [0] + 1).toNat = (index l [0]).toNat + 1 := by omega
   rw [e1, List.take_succ_cons, Nat.add_right_comm, List.drop_succ_cons]
   simp
open Go.Lib in
theorem count0_cons (b : UInt8) (l : List UInt8) : count (b :: l) [0] = if b = 0 then 1 + count l [0] else count l [0] := by
 have h := index0_cons b l
 by_cases hb : b = 0
 ·rw [if_pos hb] at h ⊢
  exact count_hit (i := 0) (by simp) h
 ·rw [if_neg hb] at h ⊢
  by_cases hm : index l [0] = -1
  ·rw [if_pos hm] at h
   rw [count_miss h, count_miss hm]
  ·have hge := index_ge l [0]
   rw [if_neg hm] at h
   have e1 : index (b :: l) [0] = ((index l [0]).toNat + 1 : Nat) := by omega
   have e2 : index l [0] = ((index l [0]).toNat : Nat) := by omega
   rw [count_hit (by simp) e1, count_hit (s := l) (by simp) e2]
   rfl
open Go.Lib in
theorem replace_esc (s : List UInt8) : replaceAll s [0] [0, 255] = esc s := by
 have e : replaceNum s [0] (-1) = count s [0] := by unfold replaceNum; rw [if_pos (.inl (by omega))]
 unfold replaceAll replace
 rw [if_neg (by decide), e]
 induction s with
 | nil => rfl
 | cons b l ih =>
  rw [count0_cons]
  unfold esc
  by_cases hb : b = 0
  ·have h := index0_cons b l
   rw [if_pos hb] at h
   rw [if_pos hb, if_pos hb, Nat.add_comm, replaceK_hit _ _ _ _ 0 h]
   have e : replaceNum l [0] (-1) = count l [0] := by unfold replaceNum; rw [if_pos (.inl (by omega))]
   simp only [List.take_zero, List.nil_append, List.length_singleton, Nat.zero_add, List.drop_succ_cons, List.drop_zero]
   rw [ih e]; rfl
  ·rw [if_neg hb, if_neg hb, replK0_cons _ _ _ hb, ih (by unfold replaceNum; rw [if_pos (.inl (by omega))])]
theorem replF_esc (s : List UInt8) (h : s.length ≤ 1048576) : replF s ([0] : List UInt8) ([0, 255] : List UInt8) = some (esc s) := by
 unfold replF
 have := Go.Lib.count_le s [0]
 rw [if_pos ⟨by omega, by simp, (by show s.length + Go.Lib.count s [0] * 2 ≤ _; omega)⟩, replace_esc]
def body (v : ApiValue) : List UInt8 :=
 if v.Kind = 1 then bytesN (v.N ^^^ 9223372036854775808) 8 else if v.Kind = 2 then bytesN v.N 8 else if v.Kind = 3 then bytesN v.N 1
 else if v.Kind = 4 ∨ v.Kind = 5 then esc v.S ++ [0, 0] else []
def enc (v : ApiValue) : List UInt8 := (if v.Kind = 0 then 0 else 1) :: body v
theorem body_len (v : ApiValue) : (body v).length ≤ 2 * v.S.length + 8 := by
 unfold body
 have := esc_len v.S
 repeat' split
 all_goals simp [bytesN_len] <;> omega
theorem out_put1 (a b : List UInt8) (h : b.length + a.length ≤ 70368744177664) : pack_Out_put_1 a b = some () := by
 unfold pack_Out_put_1; rw [bif_decT (by rw [room_val]; omega)]
theorem u16_hi (n : UInt64) (m : Nat) (x : UInt16) (h : x.toNat = n.toNat / 2 ^ m % 65536) : (shr16 x 8).toUInt8 = UInt8.ofNat (n.toNat / 2 ^ (m + 8)) := by
 unfold shr16
 rw [← UInt8.toNat_inj]
 have hx := x.toNat_lt
 have e : n.toNat / 2 ^ (m + 8) = n.toNat / 2 ^ m / 256 := by rw [Nat.pow_add, Nat.div_div_eq_div_mul]
 simp [UInt16.toNat_ofNat, e]
 omega
theorem u16_lo (n : UInt64) (m : Nat) (x : UInt16) (h : x.toNat = n.toNat / 2 ^ m % 65536) : x.toUInt8 = UInt8.ofNat (n.toNat / 2 ^ m) := by
 rw [← UInt8.toNat_inj]
 simp [h]
 try omega
theorem sh32 (n : UInt64) : (shr64 n 32).toUInt32.toNat = n.toNat / 2 ^ 32 := by
 unfold shr64
 have := n.toNat_lt
 simp [UInt64.toNat_ofNat]
 omega
theorem bytes8_eq (n : UInt64) (acc : List UInt8) : (((acc ++ [((shr16 ((shr32 ((shr64 n 32).toUInt32) 16).toUInt16) 8).toUInt8), (((shr32 ((shr64 n 32).toUInt32) 16).toUInt16).toUInt8)]) ++ [((shr16 (((shr64 n 32).toUInt32).toUInt16) 8).toUInt8), ((((shr64 n 32).toUInt32).toUInt16).toUInt8)]) ++ [((shr16 ((shr32 (n.toUInt32) 16).toUInt16) 8).toUInt8), (((shr32 (n.toUInt32) 16).toUInt16).toUInt8)]) ++ [((shr16 ((n.toUInt32).toUInt16) 8).toUInt8), (((n.toUInt32).toUInt16).toUInt8)] = acc ++ bytesN n 8 := by
 have hn := n.toNat_lt
 have h1 : ((shr32 ((shr64 n 32).toUInt32) 16).toUInt16).toNat = n.toNat / 2 ^ 48 % 65536 := by
  unfold shr32
  have := sh32 n
  simp [UInt32.toNat_ofNat] at *
  omega
 have h2 : (((shr64 n 32).toUInt32).toUInt16).toNat = n.toNat / 2 ^ 32 % 65536 := by
  have := sh32 n
  simp at *
  omega
 have h3 : ((shr32 (n.toUInt32) 16).toUInt16).toNat = n.toNat / 2 ^ 16 % 65536 := by
  unfold shr32
  simp [UInt32.toNat_ofNat]
  omega
 have h4 : ((n.toUInt32).toUInt16).toNat = n.toNat / 2 ^ 0 % 65536 := by
  simp
 rw [u16_hi n 48 _ h1, u16_lo n 48 _ h1, u16_hi n 32 _ h2, u16_lo n 32 _ h2, u16_hi n 16 _ h3, u16_lo n 16 _ h3, u16_hi n 0 _ h4, u16_lo n 0 _ h4]
 simp [bytesN]
theorem Out_U16_eq (x : UInt16) (b : List UInt8) (h : b.length + 2 ≤ 70368744177664) : pack_Out_U16 x b = some () := by
 unfold pack_Out_U16; rw [out_put1 _ _ (by simpa using h)]; rfl
theorem Out_U32_eq (x : UInt32) (b : List UInt8) (h : b.length + 4 ≤ 70368744177664) : pack_Out_U32 x b = some () := by
 unfold pack_Out_U32; rw [Out_U16_eq _ _ (by omega), bind_some', Out_U16_eq _ _ (by simp; omega)]; rfl
theorem Out_U64_eq (x : UInt64) (b : List UInt8) (h : b.length + 8 ≤ 70368744177664) : pack_Out_U64 x b = some () := by
 unfold pack_Out_U64; rw [Out_U32_eq _ _ (by omega), bind_some', Out_U32_eq _ _ (by simp; omega)]; rfl
theorem key_one_eq (v : ApiValue) (d : Bool) (h : v.S.length ≤ 1048576) : key_one v d = some (turn d (enc v)) := by
 have hf : pack_Out_Flag (v.Kind != (0 : Int)) = some [if v.Kind = 0 then 0 else 1] := by
  unfold pack_Out_Flag
  by_cases k : v.Kind = 0
  ·rw [k]; rfl
  ·rw [if_neg k, show (v.Kind != 0) = true by simpa using k]; rfl
 have hb := body_len v
 obtain ⟨K, N, S⟩ := v
 simp only at h hf hb
 unfold key_one
 simp only
 rw [hf, bind_some']
 -- the middle
 have key : ∀ (m : Option (List UInt8)) (q : List UInt8), m = some q → (if K = 4 ∨ K = 5 then q ++ (esc S ++ [0, 0]) else q) = enc ⟨K, N, S⟩ → q.length ≤ 100 →
   (Option.bind (α := (List UInt8)) m
  fun y50 =>
 Option.bind (pack_Out_Bytes y50) fun _ =>
 Option.bind (α := (List UInt8))
  (Option.bind (α := Bool)
   (bif (K == (4 : Int)) then
    some true
   else
    some (K == (5 : Int)))
   fun y71 =>
  bif y71 then
   Option.bind (replF S ([0] : List UInt8) ([0, 255] : List UInt8)) fun r75 =>
   bif decide ((y50.length + r75.length) * 1 ≤ room) then
   bif decide (((y50 ++ r75).length + [(0 : UInt8), (0 : UInt8)].length) * 1 ≤ room) then
   some ((y50 ++ r75) ++ [(0 : UInt8), (0 : UInt8)])
   else none
   else none
  else
   some y50)
  fun y68 =>
 bif d then
  Option.bind (key_turned y68) fun r80 =>
  some r80
 else
  some y68) = some (turn d (enc ⟨K, N, S⟩)) := by
  intro m q hm he hq
  subst hm
  have hl := esc_len S
  rw [bind_some', show pack_Out_Bytes q = some () by unfold pack_Out_Bytes; rw [bif_decT (by rw [room_val]; omega)], bind_some', replF_esc S h]
  have hlen : (enc ⟨K, N, S⟩).length ≤ 4194304 := by unfold enc; simp; omega
  have ht : (bif d then Option.bind (key_turned (enc ⟨K, N, S⟩)) fun r80 => some r80 else some (enc ⟨K, N, S⟩)) = some (turn d (enc ⟨K, N, S⟩)) := by
   cases d with
   | false => rfl
   | true => rw [cond_true, key_turned_eq _ (by omega)]; rfl
  by_cases k4 : K = 4
  ·rw [if_pos (.inl k4)] at he
   rw [k4] at he ht ⊢
   simp only [BEq.rfl, cond_true, bind_some']
   rw [bif_decT (by rw [room_val]; omega), bif_decT (by rw [room_val]; simp; omega), bind_some', List.append_assoc, he]
   exact ht
  by_cases k5 : K = 5
  ·rw [if_pos (.inr k5)] at he
   rw [k5] at he ht ⊢
   simp only [show ((5 : Int) == 4) = false from rfl, cond_false, BEq.rfl, cond_true, bind_some']
   rw [bif_decT (by rw [room_val]; omega), bif_decT (by rw [room_val]; simp; omega), bind_some', List.append_assoc, he]
   exact ht
  rw [if_neg (by omega)] at he
  subst he
  rw [beq_eq_false_iff_ne.2 k4, beq_eq_false_iff_ne.2 k5, cond_false, bind_some', cond_false, bind_some']
  exact ht
 by_cases k1 : K = 1
 ·subst k1
  refine key _ ([1] ++ bytesN (N ^^^ 9223372036854775808) 8) ?_ ?_ ?_
  rotate_left
  ·rfl
  ·simp [bytesN_len]
  ·simp only [BEq.rfl, cond_true]
   rw [Out_U64_eq _ _ (by simp), bind_some', bytes8_eq]
   rfl
 by_cases k2 : K = 2
 ·subst k2
  refine key _ ([1] ++ bytesN N 8) ?_ ?_ ?_
  rotate_left
  ·rfl
  ·simp [bytesN_len]
  ·simp only [show ((2 : Int) == 1) = false from rfl, cond_false, BEq.rfl, cond_true]
   rw [Out_U64_eq _ _ (by simp), bind_some', bytes8_eq]
   rfl
 by_cases k3 : K = 3
 ·subst k3
  refine key _ ([1] ++ bytesN N 1) ?_ ?_ ?_
  rotate_left
  ·rfl
  ·simp [bytesN_len]
  ·simp only [show ((3 : Int) == 1) = false from rfl, show ((3 : Int) == 2) = false from rfl, cond_false, BEq.rfl, cond_true]
   rw [show pack_Out_U8 (N.toUInt8) [if (3 : Int) = 0 then 0 else 1] = some () from by unfold pack_Out_U8; rw [out_put1 _ _ (by simp)]; rfl, bind_some', low8]
   rfl
 refine key _ ([if K = 0 then 0 else 1]) ?_ ?_ ?_
 rotate_left
 ·unfold enc body
  simp only [k1, k2, k3, if_false]
  split <;> rfl
 ·simp
 ·rw [beq_eq_false_iff_ne.2 k1, beq_eq_false_iff_ne.2 k2, beq_eq_false_iff_ne.2 k3]; rfl
structure Sm (l : List ApiValue) : Prop where
 len : l.length ≤ 1048576
 txt : ∀ v ∈ l, v.S.length ≤ 1048576
theorem Sm.get {l : List ApiValue} (h : Sm l) {i : Nat} (hi : i < l.length) : (l[i]'hi).S.length ≤ 1048576 := h.txt _ (List.getElem_mem hi)
def bad (v : ApiValue) : Bool := !val v
def encL : List ApiValue → List Bool → List UInt8
 | v :: l, d :: ds => turn d (enc v) ++ encL l ds
 | _, _ => []
def encS (l : List ApiValue) (ds : List Bool) : List UInt8 × Int :=
 if l.length = ds.length then
  if l.any bad = true then ([], 8) else if (encL l ds).length > 256 then ([], 7) else (encL l ds, 0)
 else ([], 1)
theorem encL_take : ∀ (l : List ApiValue) (ds : List Bool) (i : Nat) (h : i < l.length) (h2 : i < ds.length), encL (l.take (i + 1)) (ds.take (i + 1)) = encL (l.take i) (ds.take i) ++ turn ds[i] (enc l[i])
 | v :: l, d :: ds, 0, h, h2 => by simp [encL]
 | v :: l, d :: ds, i + 1, h, h2 => by
  simp only [List.take_succ_cons, encL, List.getElem_cons_succ]
  rw [encL_take l ds i (by simpa using h) (by simpa using h2), List.append_assoc]
theorem val_short {v : ApiValue} (h : val v = true) : v.S.length ≤ 64 := by
 unfold val at h
 simp only [Bool.or_eq_true, Bool.and_eq_true, beq_iff_eq, decide_eq_true_eq] at h
 rcases h with (((⟨_, _, h⟩ | ⟨_, h⟩) | ⟨_, _, h⟩) | ⟨_, _, h⟩) | ⟨_, _, h, _⟩
 ·rw [h]; simp
 ·rw [h]; simp
 ·rw [h]; simp
 ·exact h
 ·exact h
theorem enc_short {v : ApiValue} (h : val v = true) : (enc v).length ≤ 137 := by
 have := body_len v
 have := val_short h
 unfold enc
 simp; omega
theorem encL_short : ∀ (l : List ApiValue) (ds : List Bool), l.any bad = false → (encL l ds).length ≤ 137 * l.length
 | [], ds, _ => by simp [encL]
 | v :: l, [], _ => by simp [encL]
 | v :: l, d :: ds, h => by
  rw [List.any_cons, Bool.or_eq_false_iff] at h
  have := enc_short (v := v) (by have := h.1; unfold bad at this; simpa using this)
  have := encL_short l ds h.2
  simp [encL, turn_len]
  omega
theorem any_take {α : Type} (p : α → Bool) (l : List α) (i : Nat) (h : l.any p = false) : (l.take i).any p = false := by
 rw [List.any_eq_false] at h ⊢
 exact fun x hx => h x (List.mem_of_mem_take hx)
theorem Encode_1_eq (v : ApiValue) (h : v.S.length ≤ 1048576) : key_Encode_1 v = some (bad v) := by
 unfold key_Encode_1; rw [value_Valid_eq v (by omega)]; rfl
theorem anyBad_eq (l : List ApiValue) (h : Sm l) : slices_ContainsFunc_api_Value_api_Value l = some (l.any bad) := by
  unfold slices_ContainsFunc_api_Value_api_Value slices_IndexFunc_api_Value_api_Value
  have hl := h.len
  have q := loop_search (B := (fun y69 =>
        bif (decide (y69 < (l.length : Int))) then
          Option.bind (getI l y69) fun v79 =>
          Option.bind (key_Encode_1 v79) fun r80 =>
          bif r80 then
            some (Sum.inr (Sum.inr y69))
          else
            some (Sum.inl (w64 (y69 + (1 : Int))))
        else
          some (Sum.inr (Sum.inl ())))) l bad (fun i => .inr (i : Int)) (.inl ()) (fun i hi => by
      show (bif _ then _ else _) = _
      rw [bif_decT (by omega), getI_at hi, bind_some', Encode_1_eq _ (h.get hi), bind_some']
      cases bad l[i]
      · rw [cond_false, w64_succ (by omega)]; rfl
      · rfl) (by
      show (bif _ then _ else _) = _
      rw [bif_decF (by omega)])
  rcases q with ⟨q1, i, _, _, q2⟩ | ⟨q1, q2⟩
  · rw [show (loop _ (0 : Int)) = _ from q2, q1]
    show some (decide ((i : Int) ≥ 0)) = _
    rw [decide_eq_true (by omega)]
  · rw [show (loop _ (0 : Int)) = _ from q2, q1]
    rfl
theorem key_Encode_eq (l : List ApiValue) (ds : List Bool) (h : Sm l) : key_Encode l ds = some (encS l ds) := by
  unfold key_Encode encS
  have hl := h.len
  by_cases he : l.length = ds.length
  rotate_left
  · rw [if_neg he, show ((l.length : Int) != (ds.length : Int)) = true by simp; omega]; rfl
  rw [if_pos he, show ((l.length : Int) != (ds.length : Int)) = false by simp; omega, cond_false, anyBad_eq l h, bind_some']
  cases hb : l.any bad with
  | true => rfl
  | false =>
    rw [cond_false, if_neg (by simp)]
    have hs := encL_short l ds hb
    have q := loop_seq (B := (fun (y97, y98) =>
            bif (decide (y98 < (l.length : Int))) then
              Option.bind (getI l y98) fun v110 =>
              Option.bind (getI ds y98) fun v111 =>
              Option.bind (key_one v110 v111) fun r112 =>
              bif decide ((y97.length + r112.length) * 1 ≤ room) then
              some (Sum.inl ((y97 ++ r112), (w64 (y98 + (1 : Int)))))
              else none
            else
              some (Sum.inr y97))) (fun i => (encL (l.take i) (ds.take i), (i : Int))) l.length (w := encL l ds) ?_ ?_
    · rw [show (loop _ (([] : List UInt8), (0 : Int))) = _ from q, bind_some', bind_some']
      by_cases hlen : (encL l ds).length > 256
      · rw [if_pos hlen, bif_decT (by omega)]
      · rw [if_neg hlen, bif_decF (by omega)]
    · intro i hi
      have h1 := encL_short (l.take i) (ds.take i) (any_take _ _ _ hb)
      have h2 := enc_short (v := l[i]) (by rw [List.any_eq_false] at hb; have := hb _ (List.getElem_mem hi); unfold bad at this; simpa using this)
      rw [List.length_take, Nat.min_eq_left (Nat.le_of_lt hi)] at h1
      show (bif _ then _ else _) = _
      rw [bif_decT (by omega), getI_at hi, bind_some', getI_at (by omega), bind_some', key_one_eq _ _ (h.get hi), bind_some', bif_decT (by rw [room_val, turn_len]; omega), w64_succ (by omega), encL_take l ds i hi (by omega)]
    · show (bif _ then _ else _) = _
      rw [bif_decF (by omega), List.take_length, he, List.take_length]
end Lv
namespace Lv
open Go Go.Proofs
def leL (a b : List UInt8) : Bool := Op.bytesLess a b || a == b
theorem ltL_irrefl : ∀ a : List UInt8, Op.bytesLess a a = false
 | [] => rfl
 | x :: a => by simp [Op.bytesLess, ltL_irrefl a]
def afterL : List UInt8 → Option (List UInt8)
 | [] => none
 | x :: r => match afterL r with
  | some r' => some (x :: r')
  | none => if x = 255 then none else some [x + 1]
def inL (s k : List UInt8) : Bool := leL s k && (match afterL s with
 | some a => Op.bytesLess k a
 | none => true)
theorem u8_lt_succ {x y : UInt8} (h : x ≠ 255) : (y < x + 1) = (y ≤ x) := by
 have h1 : x.toNat ≠ 255 := fun e => h (UInt8.toNat_inj.1 e)
 have h2 : x.toNat < 256 := x.toNat_lt
 rw [UInt8.lt_iff_toNat_lt, UInt8.le_iff_toNat_le, UInt8.toNat_add]
 have : (x.toNat + UInt8.toNat 1) % 256 = x.toNat + 1 := by
  have : UInt8.toNat 1 = 1 := rfl
  omega
 simp only [Nat.reducePow, this]
 exact propext ⟨fun h => by omega, fun h => by omega⟩
theorem inL_prefix : ∀ s k : List UInt8, inL s k = s.isPrefixOf k
 | [], k => by cases k <;> rfl
 | x :: r, [] => by simp [inL, leL, Op.bytesLess]
 | x :: r, y :: k => by
  have ih := inL_prefix r k
  unfold inL leL at ih ⊢
  simp only [afterL, List.isPrefixOf]
  rw [← ih]
  have tri : (decide (x < y) = true ∧ (x == y) = false ∧ decide (y < x) = false ∧ (y == x) = false) ∨ (decide (x < y) = false ∧ (x == y) = true ∧ decide (y < x) = false ∧ (y == x) = true) ∨ (decide (x < y) = false ∧ (x == y) = false ∧ decide (y < x) = true ∧ (y == x) = false) := by
   simp only [decide_eq_true_eq, decide_eq_false_iff_not, beq_eq_false_iff_ne, beq_iff_eq, UInt8.lt_iff_toNat_lt, ne_eq, ← UInt8.toNat_inj]
   omega
  cases ha : afterL r with
  | some r' =>
   simp only [Op.bytesLess, List.cons_beq_cons]
   rcases tri with ⟨a, b, c, d⟩ | ⟨a, b, c, d⟩ | ⟨a, b, c, d⟩ <;> simp [a, b, c, d]
  | none =>
   by_cases h255 : x = 255
   ·subst h255
    simp only [Op.bytesLess, List.cons_beq_cons, if_true]
    have : ¬ (255 : UInt8) < y := by
     rw [UInt8.lt_iff_toNat_lt]
     have : y.toNat < 256 := y.toNat_lt
     have e : UInt8.toNat 255 = 255 := rfl
     omega
    simp [this, Bool.and_or_distrib_left]
   ·simp only [if_neg h255, Op.bytesLess, List.cons_beq_cons, Bool.and_false, Bool.or_false]
    have h1 : decide (y < x + 1) = decide (y ≤ x) := by simp only [u8_lt_succ h255]
    have h2 : decide (y ≤ x) = !decide (x < y) := by
     simp only [← decide_not, UInt8.lt_iff_toNat_lt, UInt8.le_iff_toNat_le, decide_eq_decide]
     omega
    rw [h1, h2]
    rcases tri with ⟨a, b, c, d⟩ | ⟨a, b, c, d⟩ | ⟨a, b, c, d⟩ <;> simp [a, b]
theorem afterL_less : ∀ {s a : List UInt8}, afterL s = some a → Op.bytesLess s a = true
 | [], a, h => by simp [afterL] at h
 | x :: r, a, h => by
  simp only [afterL] at h
  split at h
  ·rename_i r' hr
   simp only [Option.some.injEq] at h
   subst h
   simp [Op.bytesLess, afterL_less hr]
  ·split at h
   ·cases h
   ·rename_i hx
    simp only [Option.some.injEq] at h
    subst h
    have : x < x + 1 := by rw [u8_lt_succ hx, UInt8.le_iff_toNat_le]; exact Nat.le_refl _
    simp [Op.bytesLess, this]
theorem afterL_full : ∀ {q : List UInt8}, (∀ x, x ∈ q → x = 255) → afterL q = none
 | [], _ => rfl
 | x :: q, h => by
  have hq : afterL q = none := afterL_full fun y hy => h y (List.mem_cons_of_mem _ hy)
  have hx : x = 255 := h x (List.mem_cons_self ..)
  simp only [afterL, hq, hx, if_true]
theorem afterL_append : ∀ (p : List UInt8) {q : List UInt8}, (∀ x, x ∈ q → x = 255) → afterL (p ++ q) = afterL p
 | [], q, h => by rw [List.nil_append, afterL_full h]; rfl
 | x :: p, q, h => by simp only [List.cons_append, afterL, afterL_append p h]
theorem afterL_last : ∀ (p : List UInt8) {x : UInt8}, x ≠ 255 → afterL (p ++ [x]) = some (p ++ [x + 1])
 | [], x, h => by simp [afterL, h]
 | y :: p, x, h => by simp only [List.cons_append, afterL, afterL_last p h]
variable [BaseTab]
theorem After_eq (s : List UInt8) (hs : s.length < 4611686018427387904) : key_After s = some (match afterL s with | some a => (a, true) | none => ([], false)) := by
 unfold key_After
 suffices hk : ∀ B : Nat → Option (Nat ⊕ Nat), (∀ y, y ≤ s.length → B y = some (if 0 < y ∧ s[y - 1]? = some 255 then .inl (y - 1) else .inr y)) → ∀ y, y ≤ s.length → ∃ n, n ≤ y ∧ loop B y = some n ∧ (∀ i, n ≤ i → i < y → s[i]? = some 255) ∧ (n = 0 ∨ s[n - 1]? ≠ some 255) by
  refine Exists.elim (hk (fun y106 =>
    Option.bind (α := Bool)
     (bif (decide ((y106 : Int) > (0 : Int))) then
      Option.bind (getS s 0 y106 (w64 ((y106 : Int) - (1 : Int)))) fun v123 =>
      some (v123 == (255 : UInt8))
     else
      some false)
     fun y120 =>
    bif y120 then
     bif decide (0 ≤ (w64 ((y106 : Int) - (1 : Int))) ∧ (w64 ((y106 : Int) - (1 : Int))) ≤ (y106 : Int)) then
     some (Sum.inl ((w64 ((y106 : Int) - (1 : Int))).toNat))
     else none
    else
     some (Sum.inr y106)) ?_ s.length (Nat.le_refl _)) ?_
  ·intro y hy
   show Option.bind (bif _ then _ else _) _ = _
   by_cases h0 : 0 < y
   rotate_left
   ·rw [bif_decF (by omega), bind_some', cond_false, if_neg (fun h => h0 h.1)]
   rw [bif_decT (by omega), w64_id (n := (y : Int) - 1) (by omega) (by omega)]
   have hg : getS s 0 y ((y : Int) - 1) = s[y - 1]? := by
    unfold getS
    rw [if_pos (by omega), Nat.zero_add, show ((y : Int) - 1).toNat = y - 1 by omega]
   rw [hg, List.getElem?_eq_getElem (by omega), bind_some', bind_some']
   by_cases h1 : s[y - 1]'(by omega) = 255
   ·rw [h1, BEq.rfl, cond_true, bif_decT (by omega), if_pos ⟨h0, rfl⟩, show ((y : Int) - 1).toNat = y - 1 by omega]
   ·rw [beq_eq_false_iff_ne.2 h1, cond_false, if_neg (fun h => h1 (Option.some.inj h.2))]
  ·rintro n ⟨h1, h2, h3, h4⟩
   rw [h2, bind_some', bind_some']
   have hsplit : s = s.take n ++ s.drop n := (List.take_append_drop _ _).symm
   have hfull : ∀ x, x ∈ s.drop n → x = 255 := by
    intro x hx
    obtain ⟨i, hi⟩ := List.getElem?_of_mem hx
    rw [List.getElem?_drop] at hi
    have hlt := ltGet hi
    rw [h3 (n + i) (by omega) (by omega)] at hi
    exact (Option.some.inj hi).symm
   have e1 : afterL s = afterL (s.take n) := by
    conv => lhs; rw [hsplit]
    exact afterL_append _ hfull
   rw [e1]
   by_cases h0 : n = 0
   ·subst h0; rfl
   obtain ⟨m, rfl⟩ : ∃ m, n = m + 1 := ⟨n - 1, by omega⟩
   have hm : m < s.length := by omega
   have hx : s[m] ≠ 255 := by
    rcases h4 with h4 | h4
    ·omega
    ·intro e; apply h4; rw [show m + 1 - 1 = m by omega, List.getElem?_eq_getElem hm, e]
   have hg : getS s 0 (m + 1) (m : Int) = some s[m] := by
    unfold getS
    rw [if_pos (by omega), Nat.zero_add, Int.toNat_natCast, List.getElem?_eq_getElem hm]
   rw [beq_eq_false_iff_ne.2 (show ¬ ((m + 1 : Nat) : Int) = 0 by omega), cond_false, w64_id (n := ((m + 1 : Nat) : Int) - 1) (by omega) (by omega), show ((m + 1 : Nat) : Int) - 1 = (m : Int) by omega, hg, bind_some', bind_some', Int.toNat_natCast, bif_decT (by simp; omega)]
   rw [List.take_succ_eq_append_getElem hm, afterL_last _ hx]
   simp only
   congr 2
   rw [List.drop_zero, List.take_set, List.take_succ_eq_append_getElem hm, List.set_append_right _ _ (by simp; omega)]
   have : m - (s.take m).length = 0 := by simp; omega
   rw [this, List.set_cons_zero]
 intro B hB y
 induction y with
 | zero => intro _; exact ⟨0, by omega, loop_end (by rw [hB 0 (by omega), if_neg (by omega)]), fun i _ _ => by omega, .inl rfl⟩
 | succ y ih =>
  intro hy
  have hb := hB (y + 1) hy
  by_cases h : s[y]? = some 255
  ·rw [if_pos ⟨by omega, by simpa using h⟩] at hb
   obtain ⟨n, h1, h2, h3, h4⟩ := ih (by omega)
   refine ⟨n, by omega, (loop_step hb).trans h2, fun i k1 k2 => ?_, h4⟩
   by_cases e : i = y
   ·rw [e]; exact h
   ·exact h3 i k1 (by omega)
  ·rw [if_neg (fun k => h (by simpa using k.2))] at hb
   exact ⟨y + 1, by omega, loop_end hb, fun i _ _ => by omega, .inr (by simpa using h)⟩
end Lv
namespace Lv
open Go Go.Proofs
variable [BaseTab]
theorem val_kind {v : ApiValue} (h : val v = true) : 0 ≤ v.Kind ∧ v.Kind ≤ 5 := by
 unfold val at h
 simp only [Bool.or_eq_true, Bool.and_eq_true, beq_iff_eq, decide_eq_true_eq] at h
 omega
theorem val_null {v : ApiValue} (h : val v = true) (k : v.Kind = 0) : v = ⟨0, 0, []⟩ := by
 unfold val at h
 obtain ⟨K, N, S⟩ := v
 simp only at k
 subst k
 simp only [Bool.or_eq_true, Bool.and_eq_true, beq_iff_eq, decide_eq_true_eq] at h
 have : N = 0 ∧ S = [] := by
  rcases h with (((⟨_, h⟩ | ⟨h, _⟩) | ⟨h, _⟩) | ⟨h, _⟩) | ⟨h, _⟩
  ·exact h
  ·omega
  ·omega
  ·omega
  ·omega
 rw [this.1, this.2]
theorem val_num {v : ApiValue} (h : val v = true) (k : v.Kind = 1 ∨ v.Kind = 2 ∨ v.Kind = 3) : v.S = [] ∧ (v.Kind = 3 → v.N.toNat < 2) := by
 unfold val at h
 simp only [Bool.or_eq_true, Bool.and_eq_true, beq_iff_eq, decide_eq_true_eq, UInt64.lt_iff_toNat_lt] at h
 have e : (2 : UInt64).toNat = 2 := rfl
 rw [e] at h
 rcases h with (((⟨h, _⟩ | ⟨h, h2⟩) | ⟨h, h1, h2⟩) | ⟨h, _⟩) | ⟨h, _⟩
 ·omega
 ·exact ⟨h2, fun _ => by omega⟩
 ·exact ⟨h2, fun _ => h1⟩
 ·omega
 ·omega
theorem val_txt {v : ApiValue} (h : val v = true) (k : v.Kind = 4 ∨ v.Kind = 5) : v.N = 0 := by
 unfold val at h
 simp only [Bool.or_eq_true, Bool.and_eq_true, beq_iff_eq, decide_eq_true_eq] at h
 rcases h with (((⟨h, _⟩ | ⟨h, _⟩) | ⟨h, _⟩) | ⟨h, h2, _⟩) | ⟨h, h2, _⟩
 ·omega
 ·omega
 ·omega
 ·exact h2
 ·exact h2
def clash (p : ApiValue × ApiValue) : Bool := p.1.Kind != p.2.Kind && (p.1.Kind != 0 && p.2.Kind != 0)
def difB : List UInt8 → List UInt8 → Int
 | a :: x, b :: y => if a < b then -1 else if b < a then 1 else difB x y
 | _, _ => 0
theorem difB_turn : ∀ (x y : List UInt8), difB (x.map (fun c => ~~~ c)) (y.map (fun c => ~~~ c)) = - difB x y
 | [], [] => rfl
 | [], _ :: _ => rfl
 | _ :: _, [] => rfl
 | a :: x, b :: y => by
  have ih := difB_turn x y
  have h1 : (~~~ a < ~~~ b) = (b < a) := by
   have := a.toNat_lt; have := b.toNat_lt
   rw [UInt8.lt_iff_toNat_lt, UInt8.lt_iff_toNat_lt, UInt8.toNat_not, UInt8.toNat_not]
   exact propext ⟨fun h => by simp at *; omega, fun h => by simp at *; omega⟩
  have h2 : (~~~ b < ~~~ a) = (a < b) := by
   have := a.toNat_lt; have := b.toNat_lt
   rw [UInt8.lt_iff_toNat_lt, UInt8.lt_iff_toNat_lt, UInt8.toNat_not, UInt8.toNat_not]
   exact propext ⟨fun h => by simp at *; omega, fun h => by simp at *; omega⟩
  simp only [List.map_cons, difB, h1, h2, ih]
  by_cases c1 : a < b
  ·have c2 : ¬ b < a := by rw [UInt8.lt_iff_toNat_lt] at *; omega
   rw [if_neg c2, if_pos c1, if_pos c1]; rfl
  ·rw [if_neg c1, if_neg c1]
   split <;> rfl
theorem u8_tri (a b : UInt8) : a < b ∨ b < a ∨ a = b := by
 rw [UInt8.lt_iff_toNat_lt, UInt8.lt_iff_toNat_lt, ← UInt8.toNat_inj]; omega
theorem u8_irr (a : UInt8) : ¬ a < a := by rw [UInt8.lt_iff_toNat_lt]; omega
theorem u8_asym {a b : UInt8} (h : a < b) : ¬ b < a ∧ a ≠ b := by
 refine ⟨by rw [UInt8.lt_iff_toNat_lt] at *; omega, fun e => by subst e; exact u8_irr _ h⟩
theorem difB_less : ∀ {x y : List UInt8} (r t : List UInt8), difB x y < 0 → Op.bytesLess (x ++ r) (y ++ t) = true
 | [], [], _, _, h => by simp [difB] at h
 | [], _ :: _, _, _, h => by simp [difB] at h
 | _ :: _, [], _, _, h => by simp [difB] at h
 | a :: x, b :: y, r, t, h => by
  rcases u8_tri a b with c | c | c
  ·simp [Op.bytesLess, c]
  ·simp only [difB, if_neg (u8_asym c).1, if_pos c] at h; omega
  ·subst c
   simp only [difB, if_neg (u8_irr a)] at h
   have := difB_less r t h
   simp [Op.bytesLess, this]
theorem difB_more : ∀ {x y : List UInt8} (r t : List UInt8), 0 < difB x y → Op.bytesLess (x ++ r) (y ++ t) = false ∧ x ++ r ≠ y ++ t
 | [], [], _, _, h => by simp [difB] at h
 | [], _ :: _, _, _, h => by simp [difB] at h
 | _ :: _, [], _, _, h => by simp [difB] at h
 | a :: x, b :: y, r, t, h => by
  rcases u8_tri a b with c | c | c
  ·simp only [difB, if_pos c] at h; omega
  ·have := u8_asym c
   simp [Op.bytesLess, this.1, this.2.symm]
  ·subst c
   simp only [difB, if_neg (u8_irr a)] at h
   have := difB_more r t h
   simp [Op.bytesLess, this, u8_irr]
theorem less_same : ∀ (x r t : List UInt8), Op.bytesLess (x ++ r) (x ++ t) = Op.bytesLess r t
 | [], _, _ => rfl
 | a :: x, r, t => by simp [Op.bytesLess, u8_irr, less_same x r t]
def ncmp (a b : Nat) : Int := if a < b then -1 else if b < a then 1 else 0
theorem difB_bytesN (n m : UInt64) : ∀ k, difB (bytesN n k) (bytesN m k) = ncmp (n.toNat % 256 ^ k) (m.toNat % 256 ^ k)
 | 0 => by simp [bytesN, difB, ncmp, Nat.mod_one]
 | k + 1 => by
  have ih := difB_bytesN n m k
  have e : (2 : Nat) ^ (8 * k) = 256 ^ k := by rw [Nat.pow_mul]
  have hp : 0 < 256 ^ k := Nat.pow_pos (by omega)
  simp only [bytesN, difB, ih, UInt8.lt_iff_toNat_lt, UInt8.toNat_ofNat', e]
  have e1 : n.toNat % 256 ^ (k + 1) = n.toNat % 256 ^ k + 256 ^ k * (n.toNat / 256 ^ k % 256) := by rw [Nat.pow_succ, Nat.mod_mul]
  have e2 : m.toNat % 256 ^ (k + 1) = m.toNat % 256 ^ k + 256 ^ k * (m.toNat / 256 ^ k % 256) := by rw [Nat.pow_succ, Nat.mod_mul]
  rw [e1, e2, show (2 : Nat) ^ 8 = 256 from rfl]
  have h1 : n.toNat % 256 ^ k < 256 ^ k := Nat.mod_lt _ hp
  have h2 : m.toNat % 256 ^ k < 256 ^ k := Nat.mod_lt _ hp
  generalize n.toNat / 256 ^ k % 256 = x
  generalize m.toNat / 256 ^ k % 256 = y
  generalize n.toNat % 256 ^ k = u at h1
  generalize m.toNat % 256 ^ k = w at h2
  generalize 256 ^ k = B at h1 h2
  unfold ncmp
  rcases Nat.lt_trichotomy x y with c | c | c
  ·have : B * x + B ≤ B * y := by rw [← Nat.mul_succ]; exact Nat.mul_le_mul_left _ c
   rw [if_pos c, if_pos (by omega)]
  ·subst c
   rw [if_neg (Nat.lt_irrefl _), if_neg (Nat.lt_irrefl _)]
   by_cases c2 : u < w
   ·rw [if_pos c2, if_pos (by omega)]
   ·rw [if_neg c2, if_neg (show ¬ (u + B * x < w + B * x) by omega)]
    by_cases c3 : w < u
    ·rw [if_pos c3, if_pos (by omega)]
    ·rw [if_neg c3, if_neg (by omega)]
  ·have : B * y + B ≤ B * x := by rw [← Nat.mul_succ]; exact Nat.mul_le_mul_left _ c
   rw [if_neg (by omega), if_pos c, if_neg (show ¬ (u + B * x < w + B * y) by omega), if_pos (by omega)]
theorem xor_top (n : UInt64) : (n ^^^ 9223372036854775808).toNat = if n.toNat < 9223372036854775808 then n.toNat + 9223372036854775808 else n.toNat - 9223372036854775808 := by
 have hn := n.toNat_lt
 rw [UInt64.toNat_xor, show (9223372036854775808 : UInt64).toNat = 2 ^ 63 from rfl]
 have low : ∀ m : Nat, m < 2 ^ 63 → m ^^^ 2 ^ 63 = 2 ^ 63 + m := by
  intro m hm
  apply Nat.eq_of_testBit_eq
  intro i
  rw [Nat.testBit_xor, Nat.testBit_two_pow]
  rcases Nat.lt_trichotomy i 63 with c | c | c
  ·rw [Nat.testBit_two_pow_add_gt c, decide_eq_false (by omega)]; simp
  ·subst c; rw [Nat.testBit_two_pow_add_eq]; simp
  ·rw [decide_eq_false (by omega), Nat.testBit_lt_two_pow (Nat.lt_of_lt_of_le hm (Nat.pow_le_pow_right (by omega) (by omega))), Nat.testBit_lt_two_pow (Nat.lt_of_lt_of_le (show 2 ^ 63 + m < 2 ^ 64 by omega) (Nat.pow_le_pow_right (by omega) (by omega)))]; rfl
 by_cases h : n.toNat < 9223372036854775808
 ·rw [if_pos h, low _ (by omega)]; omega
 ·rw [if_neg h]
  have : n.toNat = (n.toNat - 2 ^ 63) ^^^ 2 ^ 63 := by rw [low _ (by omega)]; omega
  conv => lhs; rw [this]
  rw [Nat.xor_assoc, Nat.xor_self, Nat.xor_zero]
theorem i64u_val (n : UInt64) : i64u n = if n.toNat < 9223372036854775808 then (n.toNat : Int) else (n.toNat : Int) - 18446744073709551616 := by
 have hn := n.toNat_lt
 unfold i64u IntKind.wrap
 have e1 : (2 : Int) ^ IntKind.i64.bits = 18446744073709551616 := rfl
 have e2 : (2 : Int) ^ (IntKind.i64.bits - 1) = 9223372036854775808 := rfl
 simp only [e1, e2, show IntKind.i64.signed = true from rfl, Bool.true_and, decide_eq_true_eq]
 repeat' split
 all_goals omega
def icmp (a b : Int) : Int := if a < b then -1 else if b < a then 1 else 0
theorem difB_signed (n m : UInt64) : difB (bytesN (n ^^^ 9223372036854775808) 8) (bytesN (m ^^^ 9223372036854775808) 8) = icmp (i64u n) (i64u m) := by
 have hn := n.toNat_lt
 have hm := m.toNat_lt
 rw [difB_bytesN, xor_top, xor_top, i64u_val, i64u_val]
 unfold ncmp icmp
 simp only [Nat.reducePow]
 repeat' split
 all_goals first | rfl | omega
theorem cmpB_pre : ∀ (s t : List UInt8), difB (esc s ++ [0, 0]) (esc t ++ [0, 0]) = Go.Lib.compareBytes s t
 | [], [] => by decide
 | [], y :: t => by
  unfold esc Go.Lib.compareBytes
  by_cases hy : y = 0
  ·subst hy; rfl
  ·have : (0 : UInt8) < y := by rw [UInt8.lt_iff_toNat_lt]; rw [← UInt8.toNat_inj] at hy; have e : (0 : UInt8).toNat = 0 := rfl; omega
   rw [if_neg hy]
   simp [difB, this, esc]
 | x :: s, [] => by
  unfold esc Go.Lib.compareBytes
  by_cases hx : x = 0
  ·subst hx; rfl
  ·have : (0 : UInt8) < x := by rw [UInt8.lt_iff_toNat_lt]; rw [← UInt8.toNat_inj] at hx; have e : (0 : UInt8).toNat = 0 := rfl; omega
   rw [if_neg hx]
   simp [difB, this, esc, (u8_asym this).1]
 | x :: s, y :: t => by
  have ih := cmpB_pre s t
  have pos : ∀ z : UInt8, z ≠ 0 → (0 : UInt8) < z := fun z hz => by rw [UInt8.lt_iff_toNat_lt]; rw [ne_eq, ← UInt8.toNat_inj] at hz; have e : (0 : UInt8).toNat = 0 := rfl; omega
  unfold esc Go.Lib.compareBytes
  by_cases hx : x = 0
  ·by_cases hy : y = 0
   ·subst hx; subst hy
    rw [if_pos rfl, if_pos rfl, if_neg (u8_irr _), if_neg (u8_irr _), ← ih]
    rfl
   ·subst hx
    rw [if_pos rfl, if_neg hy, if_pos (pos y hy)]
    simp [difB, pos y hy]
  ·by_cases hy : y = 0
   ·subst hy
    rw [if_pos rfl, if_neg hx, if_neg (u8_asym (pos x hx)).1, if_pos (pos x hx)]
    simp [difB, (u8_asym (pos x hx)).1, pos x hx]
   ·rw [if_neg hx, if_neg hy, List.cons_append, List.cons_append, difB, ih]
theorem compareBytes_zero : ∀ {s t : List UInt8}, Go.Lib.compareBytes s t = 0 ↔ s = t
 | [], [] => by simp [Go.Lib.compareBytes]
 | [], y :: t => by simp [Go.Lib.compareBytes]
 | x :: s, [] => by simp [Go.Lib.compareBytes]
 | x :: s, y :: t => by
  unfold Go.Lib.compareBytes
  rcases u8_tri x y with c | c | c
  ·rw [if_pos c]
   exact ⟨fun h => by omega, fun h => by injection h with h; exact absurd h (u8_asym c).2⟩
  ·rw [if_neg (u8_asym c).1, if_pos c]
   exact ⟨fun h => by omega, fun h => by injection h with h; exact absurd h.symm (u8_asym c).2⟩
  ·subst c
   rw [if_neg (u8_irr _), if_neg (u8_irr _), compareBytes_zero]
   simp
def vcmp (v w : ApiValue) : Int :=
 if v.Kind ≠ w.Kind then icmp v.Kind w.Kind
 else if (if v.Kind = 1 then icmp (i64u v.N) (i64u w.N) else 0) ≠ 0 then icmp (i64u v.N) (i64u w.N)
 else if ncmp v.N.toNat w.N.toNat ≠ 0 then ncmp v.N.toNat w.N.toNat else Go.Lib.compareBytes v.S w.S
theorem ncmp_zero {a b : Nat} : ncmp a b = 0 ↔ a = b := by unfold ncmp; repeat' split
                                                           all_goals omega
theorem icmp_zero {a b : Int} : icmp a b = 0 ↔ a = b := by unfold icmp; repeat' split
                                                           all_goals omega
theorem i64u_inj {n m : UInt64} (h : i64u n = i64u m) : n = m := by
 have hn := n.toNat_lt
 have hm := m.toNat_lt
 rw [i64u_val, i64u_val] at h
 rw [← UInt64.toNat_inj]
 repeat' split at h
 all_goals omega
theorem vcmp_zero {v w : ApiValue} : vcmp v w = 0 ↔ v = w := by
 obtain ⟨K, N, S⟩ := v
 obtain ⟨L, M, T⟩ := w
 unfold vcmp
 simp only [ApiValue.mk.injEq]
 by_cases hk : K = L
 rotate_left
 ·rw [if_pos hk, icmp_zero]
  exact ⟨fun h => absurd h hk, fun h => h.1⟩
 rw [if_neg (fun h => h hk)]
 by_cases hn : N = M
 ·subst hn
  have e1 : icmp (i64u N) (i64u N) = 0 := icmp_zero.2 rfl
  have e2 : ncmp N.toNat N.toNat = 0 := ncmp_zero.2 rfl
  rw [e1, e2]
  simp only [ite_self, ne_eq, not_true_eq_false, if_false]
  rw [compareBytes_zero]
  exact ⟨fun h => ⟨hk, trivial, h⟩, fun h => h.2.2⟩
 ·have e2 : ncmp N.toNat M.toNat ≠ 0 := fun h => hn (UInt64.toNat_inj.1 (ncmp_zero.1 h))
  have e1 : icmp (i64u N) (i64u M) ≠ 0 := fun h => hn (i64u_inj (icmp_zero.1 h))
  by_cases k1 : K = 1
  ·rw [if_pos k1, if_pos e1]
   exact ⟨fun h => absurd h e1, fun h => absurd h.2.1 hn⟩
  ·rw [if_neg k1, if_neg (fun x => x rfl), if_pos e2]
   exact ⟨fun h => absurd h e2, fun h => absurd h.2.1 hn⟩
theorem difB_enc {v w : ApiValue} (hv : val v = true) (hw : val w = true) (h : clash (v, w) = false) : difB (enc v) (enc w) = vcmp v w := by
 unfold clash at h
 simp only [Bool.and_eq_false_iff, bne_eq_false_iff_eq] at h
 have kv := val_kind hv
 have kw := val_kind hw
 by_cases hk : v.Kind = w.Kind
 rotate_left
 ·unfold vcmp
  rw [if_pos hk]
  rcases h with h | h | h
  ·exact absurd h hk
  ·unfold enc icmp
   rw [if_pos h, if_neg (show ¬ w.Kind = 0 by omega), if_pos (show v.Kind < w.Kind by omega)]
   rfl
  ·unfold enc icmp
   rw [if_neg (show ¬ v.Kind = 0 by omega), if_pos h, if_neg (show ¬ v.Kind < w.Kind by omega), if_pos (show w.Kind < v.Kind by omega)]
   rfl
 by_cases h0 : v.Kind = 0
 ·rw [val_null hv h0, val_null hw (by omega)]
  decide
 have he : difB (enc v) (enc w) = difB (body v) (body w) := by
  unfold enc
  rw [if_neg h0, if_neg (by omega)]
  rfl
 rw [he]
 unfold vcmp
 rw [if_neg (fun x => x hk)]
 have hn := v.N.toNat_lt
 have hm := w.N.toNat_lt
 by_cases k1 : v.Kind = 1
 ·have s1 := (val_num hv (.inl k1)).1
  have s2 := (val_num hw (.inl (by omega))).1
  unfold body
  rw [if_pos k1, if_pos (by omega), difB_signed, if_pos k1]
  by_cases c : icmp (i64u v.N) (i64u w.N) = 0
  ·have := i64u_inj (icmp_zero.1 c)
   rw [c, this, s1, s2]
   simp [ncmp, Go.Lib.compareBytes]
  ·rw [if_pos c]
 rw [if_neg k1, if_neg (fun x => x rfl)]
 by_cases k2 : v.Kind = 2
 ·have s1 := (val_num hv (.inr (.inl k2))).1
  have s2 := (val_num hw (.inr (.inl (by omega)))).1
  unfold body
  rw [if_neg k1, if_pos k2, if_neg (by omega), if_pos (by omega), difB_bytesN, s1, s2]
  rw [Nat.mod_eq_of_lt (by omega), Nat.mod_eq_of_lt (by omega)]
  split
  ·rfl
  ·rename_i c
   simpa [Go.Lib.compareBytes] using c
 by_cases k3 : v.Kind = 3
 ·obtain ⟨s1, n1⟩ := val_num hv (.inr (.inr k3))
  obtain ⟨s2, n2⟩ := val_num hw (.inr (.inr (by omega)))
  have n1 := n1 k3
  have n2 := n2 (by omega)
  unfold body
  rw [if_neg k1, if_neg k2, if_pos k3, if_neg (by omega), if_neg (by omega), if_pos (by omega), difB_bytesN, s1, s2]
  rw [Nat.mod_eq_of_lt (by omega), Nat.mod_eq_of_lt (by omega)]
  split
  ·rfl
  ·rename_i c
   simpa [Go.Lib.compareBytes] using c
 have k45 : v.Kind = 4 ∨ v.Kind = 5 := by omega
 have n1 := val_txt hv k45
 have n2 := val_txt hw (by omega)
 unfold body
 rw [if_neg k1, if_neg k2, if_neg k3, if_pos k45, if_neg (by omega), if_neg (by omega), if_neg (by omega), if_pos (by omega), cmpB_pre, n1, n2]
 rw [if_neg (fun x => x (by rfl))]
def letter (c : UInt8) : Bool := decide (97 ≤ c) && decide (c ≤ 122)
def nchar (c : UInt8) : Bool := letter c || c == 95 || (decide (48 ≤ c) && decide (c ≤ 57))
def nameS : List UInt8 → Bool
 | [] => false
 | c :: r => decide (r.length < 16) && (letter c && r.all nchar)
theorem nall (l : List UInt8) : (l.any fun c => !nchar c) = !l.all nchar := by induction l <;> simp_all [List.any_cons, List.all_cons]
theorem value_Name_eq (s : List UInt8) (hs : s.length < 4611686018427387904) : value_Name s = some (nameS s) := by
 unfold value_Name
 cases s with
 | nil => rfl
 | cons c r =>
  have hlen : (c :: r).length = r.length + 1 := rfl
  refine bo (a := decide (r.length ≥ 16)) ?_ ?_
  ·rw [show ((c :: r) == ([] : List UInt8)) = false from rfl, cond_false, hlen]; congr 1; exact decI (by omega)
  by_cases h16 : r.length ≥ 16
  ·rw [bif_decT h16]; simp only [nameS]; rw [decide_eq_false (by omega)]; rfl
  rw [bif_decF h16]
  have e1 : nameS (c :: r) = (letter c && r.all nchar) := by simp only [nameS]; rw [decide_eq_true (by omega)]; rfl
  rw [e1]
  refine lpE (w := if (letter c && r.all nchar) = true then .inl () else .inr false) (nmB fun B hB => ?_) ?_
  rotate_left
  ·cases (letter c && r.all nchar) <;> rfl
  have step : ∀ (i : Nat) (x : UInt8), i < (c :: r).length → (c :: r)[i]? = some x → B (i : Int) = some (if (if i = 0 then !letter x else !nchar x) = true then .inr (.inr false) else .inl ((i + 1 : Nat) : Int)) := by
   intro i x hi hx
   rw [hB]
   show (bif _ then _ else _) = _
   rw [bif_decT (by omega), getI_nat, hx, bind_some', show ((i : Int) == 0) = decide (i = 0) by rw [Bool.eq_iff_iff]; simp, w64_succ (by omega)]
   generalize ((i + 1 : Nat) : Int) = k
   by_cases h0 : i = 0
   ·simp only [h0, decide_true, if_true]
    clear hx
    refine bo (a := letter x) ?_ ?_
    ·revert x; exact u8F (by decide +kernel)
    ·cases letter x <;> rfl
   ·simp only [h0, decide_false, if_false]
    clear hx
    refine bo (a := letter x) ?_ (bo (a := !nchar x) ?_ ?_)
    ·revert x; exact u8F (by decide +kernel)
    ·revert x; exact u8F (by decide +kernel)
    ·cases nchar x <;> rfl
  have s0 := step 0 c (by omega) rfl
  rw [show (0 : Int) = ((0 : Nat) : Int) from rfl]
  cases hc : letter c with
  | false => rw [hc] at s0; exact loop_end s0
  | true =>
   rw [hc] at s0
   rw [loop_step (y' := ((0 + 1 : Nat) : Int)) s0]
   refine (lq3 r (fun c => !nchar c) (.inr false) (.inl ()) (fun i => ((i + 1 : Nat) : Int)) (fun i hi => ?_) ?_ rfl).trans ?_
   ·rw [step (i + 1) r[i] (by omega) (by simp [hi])]
    simp
   ·rw [hB]
    show (bif _ then _ else _) = _
    rw [bif_decF (by omega)]
   ·rw [nall]; cases r.all nchar <;> rfl
theorem ref06_Name_eq (s : List UInt8) (hs : s.length < 4611686018427387904) : ref06_Name s = some (nameS s) := by
 unfold ref06_Name
 cases s with
 | nil => rfl
 | cons c r =>
  have hlen : (c :: r).length = r.length + 1 := rfl
  have e1 : nameS (c :: r) = (decide (r.length < 16) && (letter c && r.all nchar)) := rfl
  rw [e1]
  refine bo (a := !(decide (r.length < 16) && letter c)) ?_ ?_
  ·rw [bif_decF (by omega), show getI (c :: r) 0 = some c from rfl]
   by_cases h16 : r.length < 16
   ·rw [bif_decF (by omega), decide_eq_true h16]
    simp only [bind_some', Bool.true_and]
    clear e1 hlen hs
    revert c; exact u8F (by decide +kernel)
   ·rw [bif_decT (by omega), decide_eq_false h16]; rfl
  by_cases h16 : r.length < 16
  rotate_left
  ·rw [decide_eq_false h16]; rfl
  rw [decide_eq_true h16, Bool.true_and, Bool.true_and]
  cases hc : letter c with
  | false => rfl
  | true =>
   rw [Bool.not_true, cond_false, Bool.true_and]
   refine lpE (w := if r.all nchar = true then .inl () else .inr false) (nmB fun B hB => ?_) ?_
   rotate_left
   ·cases r.all nchar <;> rfl
   refine (lq3 r (fun c => !nchar c) (.inr false) (.inl ()) (fun i => ((i + 1 : Nat) : Int)) (fun i hi => ?_) ?_ rfl).trans ?_
   ·rw [hB]
    show (bif _ then _ else _) = _
    rw [bif_decT (by omega), getI_nat, show (c :: r)[i + 1]? = some r[i] by simp [hi], w64_succ (by omega)]
    generalize ((i + 1 + 1 : Nat) : Int) = k
    generalize r[i] = x
    simp only [bind_some']
    refine bo (a := !nchar x) ?_ ?_
    ·revert x; exact u8F (by decide +kernel)
    ·cases nchar x <;> rfl
   ·rw [hB]
    show (bif _ then _ else _) = _
    rw [bif_decF (by omega)]
   ·rw [nall]; cases r.all nchar <;> rfl
def fitS (c : ApiColumn) (v : ApiValue) : Int :=
 if val v = false then 8 else if v.Kind = 0 then (if c.Nulls = true then 0 else 8) else if v.Kind ≠ c.Kind then 8 else if (v.Kind = 4 ∨ v.Kind = 5) ∧ (v.S.length : Int) > c.Max then 7 else 0
theorem long_eq (k : Int) : value_long k = some (decide (k = 4 ∨ k = 5)) := by
 unfold value_long
 by_cases h : k = 4
 ·subst h; rfl
 ·rw [show (k == 4) = false by simpa using h]
  simp only [cond_false, bind_some', h, false_or]
  congr 1
theorem value_Fits_eq (c : ApiColumn) (v : ApiValue) (h : v.S.length < 4611686018427387904) : value_Fits c v = some (fitS c v) := by
 unfold value_Fits fitS
 rw [value_Valid_eq v h, bind_some']
 cases hv : val v with
 | false => rfl
 | true =>
  simp only [Bool.not_true, cond_false, Bool.true_eq_false, if_false]
  by_cases h0 : v.Kind = 0
  ·rw [show (v.Kind == 0) = true by simpa using h0, if_pos h0]
   cases c.Nulls <;> rfl
  rw [show (v.Kind == 0) = false by simpa using h0, if_neg h0, cond_false]
  by_cases hk : v.Kind = c.Kind
  rotate_left
  ·rw [show (v.Kind != c.Kind) = true by simpa using hk, if_pos hk]; rfl
  rw [show (v.Kind != c.Kind) = false by simpa using hk, if_neg (by simpa using hk), cond_false, long_eq, bind_some']
  by_cases hl : v.Kind = 4 ∨ v.Kind = 5
  ·rw [bif_decT hl, bind_some']
   by_cases hm : (v.S.length : Int) > c.Max
   ·rw [if_pos ⟨hl, hm⟩, bif_decT hm]
   ·rw [if_neg (fun h => hm h.2), bif_decF hm]
  ·rw [bif_decF hl, bind_some', if_neg (fun h => hl h.1)]; rfl
theorem ref06_Fits_eq (c : ApiColumn) (v : ApiValue) (h : v.S.length < 4611686018427387904) : ref06_Fits c v = some (fitS c v) := by
 unfold ref06_Fits fitS
 rw [ref06_Valid_eq v h, bind_some']
 cases hv : val v with
 | false => rfl
 | true =>
  simp only [Bool.not_true, cond_false, Bool.true_eq_false, if_false]
  by_cases h0 : v.Kind = 0
  ·rw [show (v.Kind == 0) = true by simpa using h0, if_pos h0, show (v.Kind != 0) = false by simpa using h0, h0]
   cases c.Nulls <;> rfl
  rw [show (v.Kind == 0) = false by simpa using h0, if_neg h0, show (v.Kind != 0) = true by simpa using h0]
  simp only [cond_false, cond_true, bind_some']
  by_cases hk : v.Kind = c.Kind
  rotate_left
  ·rw [show (v.Kind != c.Kind) = true by simpa using hk, if_pos hk]; rfl
  rw [show (v.Kind != c.Kind) = false by simpa using hk, if_neg (by simpa using hk), cond_false]
  refine bo (a := decide ((v.Kind = 4 ∨ v.Kind = 5) ∧ (v.S.length : Int) > c.Max)) ?_ ?_
  ·by_cases h4 : v.Kind = 4
   ·rw [show (v.Kind == 4) = true by simpa using h4]; simp [h4]
   ·rw [show (v.Kind == 4) = false by simpa using h4]
    by_cases h5 : v.Kind = 5
    ·rw [show (v.Kind == 5) = true by simpa using h5]; simp [h5]
    ·rw [show (v.Kind == 5) = false by simpa using h5]; simp [h4, h5]
  ·by_cases q : (v.Kind = 4 ∨ v.Kind = 5) ∧ (v.S.length : Int) > c.Max
   ·rw [bif_decT q, if_pos q]
   ·rw [bif_decF q, if_neg q]
def colS (c : ApiColumn) : Int :=
 if nameS c.Name = false then 1 else if c.Kind < 1 ∨ c.Kind > 5 then 8 else if (if c.Kind = 4 ∨ c.Kind = 5 then c.Max < 1 ∨ c.Max > 64 else c.Max ≠ 0) then 7 else fitS c c.Default
theorem value_Column_eq (c : ApiColumn) (h : c.Name.length < 4611686018427387904) (h2 : c.Default.S.length < 4611686018427387904) : value_Column c = some (colS c) := by
 unfold value_Column colS
 rw [value_Name_eq _ h, bind_some']
 cases nameS c.Name with
 | false => rfl
 | true =>
  simp only [Bool.not_true, cond_false, Bool.true_eq_false, if_false]
  refine bo (a := decide (c.Kind < 1 ∨ c.Kind > 5)) ?_ ?_
  ·by_cases k1 : c.Kind < 1
   ·rw [bif_decT k1, decide_eq_true (Or.inl k1)]
   ·rw [bif_decF k1]; congr 1; exact decI (by omega)
  by_cases hk : c.Kind < 1 ∨ c.Kind > 5
  ·rw [bif_decT hk, if_pos hk]
  rw [bif_decF hk, if_neg hk]
  simp only [long_eq, bind_some']
  refine bo (a := decide (if c.Kind = 4 ∨ c.Kind = 5 then c.Max < 1 ∨ c.Max > 64 else c.Max ≠ 0)) ?_ ?_
  ·by_cases hl : c.Kind = 4 ∨ c.Kind = 5
   ·simp only [hl, decide_true, cond_true, if_true, Bool.not_true, cond_false]
    by_cases m1 : c.Max < 1
    ·rw [bif_decT m1]; simp [m1]
    ·rw [bif_decF m1]
     by_cases m2 : c.Max > 64
     ·rw [bif_decT m2]; simp [m2]
     ·rw [bif_decF m2]; simp [m1, m2]
   ·simp only [hl, decide_false, cond_false, if_false, Bool.not_false, cond_true]
    congr 1
    by_cases m : c.Max = 0
    ·simp [m]
    ·simp [m]
  by_cases q : (if c.Kind = 4 ∨ c.Kind = 5 then c.Max < 1 ∨ c.Max > 64 else c.Max ≠ 0)
  ·rw [bif_decT q, if_pos q]
  ·rw [bif_decF q, if_neg q, value_Fits_eq _ _ h2, bind_some']
theorem ref06_Column_eq (c : ApiColumn) (h : c.Name.length < 4611686018427387904) (h2 : c.Default.S.length < 4611686018427387904) : ref06_Column c = some (colS c) := by
 unfold ref06_Column colS
 rw [ref06_Name_eq _ h, bind_some']
 cases nameS c.Name with
 | false => rfl
 | true =>
  simp only [Bool.not_true, cond_false, Bool.true_eq_false, if_false]
  refine bo (a := decide (c.Kind < 1 ∨ c.Kind > 5)) ?_ ?_
  ·by_cases k1 : c.Kind < 1
   ·rw [bif_decT k1, decide_eq_true (Or.inl k1)]
   ·rw [bif_decF k1]; congr 1; exact decI (by omega)
  by_cases hk : c.Kind < 1 ∨ c.Kind > 5
  ·rw [bif_decT hk, if_pos hk]
  rw [bif_decF hk, if_neg hk]
  refine bo (a := decide (if c.Kind = 4 ∨ c.Kind = 5 then c.Max < 1 ∨ c.Max > 64 else c.Max ≠ 0)) ?_ ?_
  ·by_cases hl : c.Kind = 4 ∨ c.Kind = 5
   ·rw [bif_decF (by omega), bif_decT (by omega)]
    simp only [hl, if_true]
    by_cases m1 : c.Max < 1
    ·rw [bif_decT m1]; simp [m1]
    ·rw [bif_decF m1]; simp [m1]
   ·rw [bif_decT (by omega)]
    simp only [hl, if_false]
    by_cases m : c.Max = 0
    ·rw [show (c.Max != 0) = false by simpa using m, cond_false, bif_decF (by omega)]; simp [m]
    ·rw [show (c.Max != 0) = true by simpa using m]; simp [m]
  by_cases q : (if c.Kind = 4 ∨ c.Kind = 5 then c.Max < 1 ∨ c.Max > 64 else c.Max ≠ 0)
  ·rw [bif_decT q, if_pos q]
  ·rw [bif_decF q, if_neg q, ref06_Fits_eq _ _ h2, bind_some']
def OkC (c : ApiColumn) : Prop := c.Name.length < 4611686018427387904 ∧ c.Default.S.length < 4611686018427387904
def OkCs (l : List ApiColumn) : Prop := l.length < 4611686018427387904 ∧ ∀ c ∈ l, OkC c
def OkVs (l : List ApiValue) : Prop := l.length < 4611686018427387904 ∧ ∀ v ∈ l, v.S.length < 4611686018427387904
def colsS (l : List ApiColumn) : Bool := decide (1 ≤ l.length ∧ l.length ≤ 24) && l.all fun c => colS c == 0
def fitE (p : ApiColumn × ApiValue) : Option Int := if fitS p.1 p.2 = 0 then none else some (fitS p.1 p.2)
def fitsS (cols : List ApiColumn) (l : List ApiValue) : Int := if colsS cols = false ∨ l.length ≠ cols.length then 1 else ((cols.zip l).findSome? fitE).getD 0
theorem allb (l : List ApiColumn) : (l.any fun c => colS c != 0) = !(l.all fun c => colS c == 0) := by
 induction l with
 | nil => rfl
 | cons x r ih => rw [List.any_cons, List.all_cons, ih]; cases h : (colS x == 0) <;> simp [bne, h]
theorem row_columns_eq (l : List ApiColumn) (h : OkCs l) : row_columns l = some (colsS l) := by
 unfold row_columns
 have hl := h.1
 refine bo (a := colsS l) ?_ rfl
 by_cases h1 : l.length ≥ 1
 rotate_left
 ·rw [bif_decF (by omega), colsS, decide_eq_false (by omega)]; rfl
 rw [bif_decT (by omega)]
 by_cases h2 : l.length ≤ 24
 rotate_left
 ·rw [bif_decF (by omega), colsS, decide_eq_false (by omega)]; rfl
 rw [bif_decT (by omega)]
 refine bo (a := l.any fun c => colS c != 0) ?_ ?_
 ·unfold slices_ContainsFunc_api_Column_api_Column slices_IndexFunc_api_Column_api_Column
  refine bo (lqX l (fun c => colS c != 0) (fun i hi => ?_) ?_) (by rw [idxI_any])
  ·show (bif _ then _ else _) = _
   rw [bif_decT (by omega), getI_at hi, bind_some', row_columns_1, value_Column_eq _ (h.2 _ (List.getElem_mem hi)).1 (h.2 _ (List.getElem_mem hi)).2, bind_some', bind_some', w64_succ (by omega)]
   cases colS l[i] != 0 <;> rfl
  ·show (bif _ then _ else _) = _
   rw [bif_decF (by omega)]
 ·rw [allb, colsS, decide_eq_true ⟨h1, h2⟩, Bool.not_not]; rfl
theorem zipL {α β : Type} {a : List α} {b : List β} (h : b.length = a.length) : (a.zip b).length = a.length := by simp [h]
theorem fse_map (l : List (ApiColumn × ApiValue)) : l.findSome? (fun p => (fitE p).map fun x => (.inr x : Unit ⊕ Int)) = (l.findSome? fitE).map fun x => (.inr x : Unit ⊕ Int) := by
 induction l with
 | nil => rfl
 | cons x r ih => rw [List.findSome?_cons, List.findSome?_cons]; cases fitE x <;> simp [ih]
theorem row_Fits_eq (cols : List ApiColumn) (l : List ApiValue) (h : OkCs cols) (hv : OkVs l) : row_Fits cols l = some (fitsS cols l) := by
 unfold row_Fits fitsS
 have hl := hv.1
 refine bo (a := decide (colsS cols = false ∨ l.length ≠ cols.length)) ?_ ?_
 ·rw [row_columns_eq _ h, bind_some']
  cases colsS cols with
  | false => simp
  | true => rw [Bool.not_true, cond_false, nat_ne]; simp [bne, Bool.beq_eq_decide_eq]
 by_cases q : colsS cols = false ∨ l.length ≠ cols.length
 ·rw [bif_decT q, if_pos q]
 rw [bif_decF q, if_neg q]
 have e : l.length = cols.length := by rw [not_or] at q; simpa using q.2
 have z := zipL (a := cols) (b := l) e
 refine lpE (lq2 (cols.zip l) (fun p => (fitE p).map fun x => (.inr x : Unit ⊕ Int)) (.inl ()) (fun i => (i : Int)) (fun i hi => ?_) ?_ rfl) ?_
 ·show (bif _ then _ else _) = _
  rw [bif_decT (by omega), getI_at (by omega), bind_some', getI_at (by omega), bind_some', value_Fits_eq _ _ (hv.2 _ (List.getElem_mem _)), bind_some', w64_succ (by omega), List.getElem_zip]
  unfold fitE
  by_cases k : fitS cols[i] l[i] = 0
  ·simp [k]
  ·rw [if_neg k, show (fitS cols[i] l[i] != 0) = true by simpa using k]; rfl
 ·show (bif _ then _ else _) = _
  rw [bif_decF (by omega)]
 ·rw [fse_map]
  cases (cols.zip l).findSome? fitE <;> rfl
def putS (v : ApiValue) : List UInt8 :=
 if v.Kind = 0 then [1] else 0 :: (if v.Kind = 1 ∨ v.Kind = 2 then bytesN v.N 8 else if v.Kind = 3 then bytesN v.N 1 else if v.Kind = 4 ∨ v.Kind = 5 then bytesN (u64i v.S.length) 2 ++ v.S else [])
def rowS (l : List ApiValue) : List UInt8 := bytesN (u64i l.length) 1 ++ (l.map putS).flatten
theorem putS_len {v : ApiValue} (h : v.S.length ≤ 64) : (putS v).length ≤ 67 := by
 unfold putS
 repeat' split
 all_goals simp [bytesN_len] <;> omega
theorem flat_len : ∀ {l : List ApiValue}, (∀ v ∈ l, v.S.length ≤ 64) → ((l.map putS).flatten).length ≤ 67 * l.length
 | [], _ => by simp
 | v :: l, h => by
  have h1 := putS_len (h v (by simp))
  have h2 := flat_len (l := l) (fun v hv => h v (by simp [hv]))
  simp only [List.map_cons, List.flatten_cons, List.length_append, List.length_cons]
  omega
theorem u16_len (n : Nat) (h : n < 65536) : [((shr16 (u16i (n : Int)) 8).toUInt8), ((u16i (n : Int)).toUInt8)] = bytesN (u64i (n : Int)) 2 := by
 have e : (u16i (n : Int)).toNat = (u64i (n : Int)).toNat / 2 ^ 0 % 65536 := by
  unfold u16i u64i
  simp
  omega
 rw [u16_hi (u64i (n : Int)) 0 _ e, u16_lo (u64i (n : Int)) 0 _ e]
 rfl
theorem Out_Text_eq (s b : List UInt8) (h : s.length ≤ 65535) (hb : b.length ≤ 1048576) : pack_Out_Text s b = some (true, b ++ (bytesN (u64i s.length) 2 ++ s)) := by
 unfold pack_Out_Text
 rw [bind_some', bif_decF (by omega), Out_U16_eq _ _ (by omega), bind_some', bif_decT (by rw [room_val]; simp; omega), u16_len _ (by omega), List.append_assoc]
theorem k12 (v : ApiValue) : (bif v.Kind == 1 then some (v.Kind == 1) else some (v.Kind == 2)) = some (decide (v.Kind = 1 ∨ v.Kind = 2)) := by
 by_cases k : v.Kind = 1
 ·rw [k]; rfl
 ·rw [beq_eq_false_iff_ne.2 k, cond_false]; congr 1; simp [k, Bool.beq_eq_decide_eq]
theorem k45 (v : ApiValue) : (bif v.Kind == 4 then some (v.Kind == 4) else some (v.Kind == 5)) = some (decide (v.Kind = 4 ∨ v.Kind = 5)) := by
 by_cases k : v.Kind = 4
 ·rw [k]; rfl
 ·rw [beq_eq_false_iff_ne.2 k, cond_false]; congr 1; simp [k, Bool.beq_eq_decide_eq]
theorem num8 (n : UInt64) : bytesN n 1 = [n.toUInt8] := by
 rw [low8]; rfl
theorem row_put_eq (v : ApiValue) (b : List UInt8) (h : v.S.length ≤ 64) (hb : b.length ≤ 1000000) : row_put v b = some (b ++ putS v) := by
 unfold row_put
 refine bo (a := b ++ [if v.Kind = 0 then 1 else 0]) ?_ ?_
 ·unfold pack_Out_Flag_1
  by_cases k : v.Kind = 0
  ·rw [show (v.Kind == 0) = true by simpa using k, cond_true, out_put1 _ _ (by simp; omega), if_pos k]; rfl
  ·rw [show (v.Kind == 0) = false by simpa using k, cond_false, out_put1 _ _ (by simp; omega), if_neg k]; rfl
 rw [k12, bind_some']
 by_cases k1 : v.Kind = 1 ∨ v.Kind = 2
 ·rw [bif_decT k1, Out_U64_eq _ _ (by simp; omega), bind_some', bytes8_eq]
  unfold putS
  rw [if_neg (show ¬ v.Kind = 0 by omega), if_neg (show ¬ v.Kind = 0 by omega), if_pos k1]
  simp
 rw [bif_decF k1]
 by_cases k3 : v.Kind = 3
 ·rw [show (v.Kind == 3) = true by simpa using k3, cond_true]
  unfold pack_Out_U8
  rw [out_put1 _ _ (by simp; omega), bind_some', bind_some']
  unfold putS
  rw [if_neg (show ¬ v.Kind = 0 by omega), if_neg (show ¬ v.Kind = 0 by omega), if_neg k1, if_pos k3, num8]
  simp
 rw [show (v.Kind == 3) = false by simpa using k3, cond_false, k45, bind_some']
 by_cases k4 : v.Kind = 4 ∨ v.Kind = 5
 ·rw [bif_decT k4, Out_Text_eq _ _ (by omega) (by simp; omega), bind_some']
  unfold putS
  rw [if_neg (show ¬ v.Kind = 0 by omega), if_neg (show ¬ v.Kind = 0 by omega), if_neg k1, if_neg k3, if_pos k4]
  simp
 ·rw [bif_decF k4]
  unfold putS
  rw [if_neg k1, if_neg k3, if_neg k4]
  split <;> rfl
theorem rowS_take (l : List ApiValue) (b : List UInt8) (i : Nat) (hi : i < l.length) : b ++ ((l.take (i + 1)).map putS).flatten = (b ++ ((l.take i).map putS).flatten) ++ putS l[i] := by
 rw [List.take_succ_eq_append_getElem hi, List.map_append, List.flatten_append]
 simp
theorem short_take {l : List ApiValue} (h : ∀ v ∈ l, v.S.length ≤ 64) (i : Nat) : ∀ v ∈ l.take i, v.S.length ≤ 64 := fun v hv => h v (List.mem_of_mem_take hv)
theorem row_Encode_eq (cols : List ApiColumn) (l : List ApiValue) (h : OkCs cols) (hv : OkVs l) (hs : fitsS cols l = 0 → ∀ v ∈ l, v.S.length ≤ 64) (h24 : fitsS cols l = 0 → l.length ≤ 24) :
  row_Encode cols l = some (if fitsS cols l ≠ 0 then ([], fitsS cols l) else if (rowS l).length > 512 then ([], 7) else (rowS l, 0)) := by
 unfold row_Encode
 rw [row_Fits_eq cols l h hv, bind_some']
 by_cases q : fitsS cols l = 0
 rotate_left
 ·rw [show (fitsS cols l != 0) = true by simpa using q, cond_true, if_pos q]
 rw [show (fitsS cols l != 0) = false by simpa using q, cond_false, if_neg (by simpa using q)]
 have hs := hs q
 have h24 := h24 q
 have e1 : [u8i (l.length : Int)] = bytesN (u64i l.length) 1 := by
  rw [num8]; congr 1
  unfold u8i u64i
  apply UInt8.toNat_inj.1
  simp
  omega
 refine bo (a := ()) ?_ ?_
 ·unfold pack_Out_U8_1 pack_Out_put
  rw [bif_decT (by rw [room_val]; simp)]; rfl
 rw [e1]
 refine lpA (w := rowS l) (lq1 (fun i => ((i : Int), bytesN (u64i l.length) 1 ++ ((l.take i).map putS).flatten)) l.length (fun i hi => ?_) ?_ (by simp)) ?_
 ·have f := flat_len (short_take hs i)
  have tl : (l.take i).length ≤ 24 := by simp; omega
  show (bif _ then _ else _) = _
  rw [bif_decT (by omega), getI_at hi, bind_some', row_put_eq _ _ (hs _ (List.getElem_mem hi)) (by rw [List.length_append, bytesN_len]; omega), bind_some', w64_succ (by omega), rowS_take l _ i hi]
 ·show (bif _ then _ else _) = _
  rw [bif_decF (by omega), List.take_length]
  rfl
 ·have f := flat_len hs
  refine bo (a := ()) ?_ ?_
  ·unfold pack_Out_Bytes
   rw [bif_decT (by rw [room_val]; unfold rowS; rw [List.length_append, bytesN_len]; omega)]
  ·by_cases z : (rowS l).length > 512
   ·rw [bif_decT (by omega), if_pos z]
   ·rw [bif_decF (by omega), if_neg z]
theorem firstF_none {α W : Type} {f : Nat → α → Option W} : ∀ {l : List α} {i : Nat}, firstF f i l = none ↔ ∀ j (h : j < l.length), f (i + j) (l[j]'h) = none
 | [], i => by simp [firstF]
 | x :: r, i => by
  rw [firstF]
  cases hf : f i x with
  | some w =>
   simp only [reduceCtorEq, false_iff]
   intro h
   have := h 0 (by simp)
   simp [hf] at this
  | none =>
   simp only
   rw [firstF_none (l := r) (i := i + 1)]
   constructor
   ·intro h j hj
    cases j with
    | zero => simpa using hf
    | succ j => have := h j (by simpa using hj); simpa [Nat.add_assoc, Nat.add_comm 1 j] using this
   ·intro h j hj
    have := h (j + 1) (by simpa using hj)
    simpa [Nat.add_assoc, Nat.add_comm 1 j] using this
def OkX (x : ApiIndex) : Prop := x.Name.length < 4611686018427387904 ∧ x.Parts.length < 4611686018427387904 ∧ x.Extra.length < 4611686018427387904
structure OkT (t : ApiTable) : Prop where
 name : t.Name.length < 4611686018427387904
 cols : OkCs t.Cols
 prim : t.Primary.length < 4611686018427387904
 idxs : t.Indexes.length < 4611686018427387904
 idx : ∀ x ∈ t.Indexes, OkX x
def hasS (l : List Int) (x : Int) : Bool := l.any fun y => y == x
theorem ref17_Has_eq (l : List Int) (x : Int) (h : l.length < 4611686018427387904) : ref17_Has l x = some (hasS l x) := by
 unfold ref17_Has
 refine lpE (lq3 l (fun y => y == x) (.inr true) (.inl ()) (fun i => (i : Int)) (fun i hi => ?_) ?_ rfl) ?_
 ·show (bif _ then _ else _) = _
  rw [bif_decT (by omega), getI_at hi, bind_some', w64_succ (by omega)]
  cases l[i] == x <;> rfl
 ·show (bif _ then _ else _) = _
  rw [bif_decF (by omega)]
 ·unfold hasS; cases (l.any fun y => y == x) <;> rfl
def plE (n : Int) (l : List Int) (i : Nat) (c : Int) : Option Unit := if c < 0 ∨ c ≥ n ∨ hasS (l.take i) c = true then some () else none
def placesS (n : Int) (l : List Int) : Bool := (firstF (plE n l) 0 l).isNone
theorem ref17_places_eq (n : Int) (l : List Int) (h : l.length < 4611686018427387904) : ref17_places n l = some (placesS n l) := by
 unfold ref17_places
 refine lpE (lq5 l (fun i c => (plE n l i c).map fun _ => (.inr false : Unit ⊕ Bool)) (.inl ()) (fun i => (i : Int)) (fun i hi => ?_) ?_ rfl) ?_
 ·show (bif _ then _ else _) = _
  rw [bif_decT (by omega), getI_at hi, w64_succ (by omega)]
  simp only [bind_some']
  refine bo (a := decide (l[i] < 0 ∨ l[i] ≥ n ∨ hasS (l.take i) l[i] = true)) ?_ ?_
  ·by_cases h1 : l[i] < 0
   ·rw [bif_decT h1]; simp [h1]
   rw [bif_decF h1]
   by_cases h2 : l[i] ≥ n
   ·rw [bif_decT h2]; simp [h2]
   rw [bif_decF h2, bif_decT (by omega), Int.toNat_natCast, ref17_Has_eq _ _ (by simp; omega), bind_some']
   simp [h1, h2]
  ·unfold plE
   by_cases q : l[i] < 0 ∨ l[i] ≥ n ∨ hasS (l.take i) l[i] = true
   ·rw [bif_decT q, if_pos q]; rfl
   ·rw [bif_decF q, if_neg q]; rfl
 ·show (bif _ then _ else _) = _
  rw [bif_decF (by omega)]
 ·unfold placesS
  have key : ∀ (r : List Int) (i : Nat), firstF (fun i c => (plE n l i c).map fun _ => (.inr false : Unit ⊕ Bool)) i r = (firstF (plE n l) i r).map fun _ => .inr false := by
   intro r
   induction r with
   | nil => intro i; rfl
   | cons x r ih => intro i; rw [firstF, firstF]; cases plE n l i x <;> simp [ih]
  rw [key]
  cases firstF (plE n l) 0 l <;> rfl
theorem placesS_in {n : Int} {l : List Int} (h : placesS n l = true) : ∀ c ∈ l, 0 ≤ c ∧ c < n := by
 unfold placesS at h
 rw [Option.isNone_iff_eq_none, firstF_none] at h
 intro c hc
 obtain ⟨i, hi, rfl⟩ := List.mem_iff_getElem.1 hc
 have := h i hi
 unfold plE at this
 split at this
 ·cases this
 ·rename_i q; rw [not_or, not_or] at q; omega
theorem placesS_nodup {n : Int} {l : List Int} (h : placesS n l = true) : l.Nodup := by
 unfold placesS at h
 rw [Option.isNone_iff_eq_none, firstF_none] at h
 show List.Pairwise (· ≠ ·) l
 rw [List.pairwise_iff_getElem]
 intro i j hi hj hij e
 have := h j hj
 unfold plE at this
 split at this
 ·cases this
 ·rename_i q
  rw [not_or, not_or] at q
  refine q.2.2 ?_
  unfold hasS
  rw [List.any_eq_true]
  refine ⟨l[i], ?_, by simp [e]⟩
  rw [Nat.zero_add]
  exact List.mem_iff_getElem.2 ⟨i, by simp; omega, by simp⟩
theorem map_ts {α β : Type} (f : α → β) (l : List α) {i : Nat} (hi : i < l.length) : (l.take (i + 1)).map f = (l.take i).map f ++ [f l[i]] := by
 rw [List.take_succ_eq_append_getElem hi, List.map_append]; rfl
def upS (l : List Int) : List ApiPart := l.map fun c => ⟨c, false⟩
theorem ref17_Up_eq (l : List Int) (h : l.length ≤ 1048576) : ref17_Up l = some (upS l) := by
 unfold ref17_Up
 refine lpA (w := upS l) (lq1 (fun i => (upS (l.take i), (i : Int))) l.length (fun i hi => ?_) ?_ rfl) rfl
 ·show (bif _ then _ else _) = _
  rw [bif_decT (by omega), getI_at hi, bind_some', bif_decT (by rw [room_val]; simp [upS]; omega), w64_succ (by omega), show upS (l.take (i + 1)) = _ from map_ts _ l hi]
  rfl
 ·show (bif _ then _ else _) = _
  rw [bif_decF (by omega), List.take_length]
theorem schema_up_eq (l : List Int) (h : l.length ≤ 1048576) : schema_up l = some (upS l) := by
 unfold schema_up
 refine lpA (w := upS l) (lq1 (fun i => (upS (l.take i), (i : Int))) l.length (fun i hi => ?_) ?_ rfl) rfl
 ·show (bif _ then _ else _) = _
  rw [bif_decT (by omega), getI_at hi, bind_some', bif_decT (by rw [room_val]; simp [upS]; omega), w64_succ (by omega), show upS (l.take (i + 1)) = _ from map_ts _ l hi]
  rfl
 ·show (bif _ then _ else _) = _
  rw [bif_decF (by omega), List.take_length]
def colsOf (l : List ApiPart) : List Int := l.map (·.Col)
theorem ref17_Cols_eq (l : List ApiPart) (h : l.length ≤ 1048576) : ref17_Cols l = some (colsOf l) := by
 unfold ref17_Cols
 refine lpA (w := colsOf l) (lq1 (fun i => (colsOf (l.take i), (i : Int))) l.length (fun i hi => ?_) ?_ rfl) rfl
 ·show (bif _ then _ else _) = _
  rw [bif_decT (by omega), getI_at hi, bind_some', bif_decT (by rw [room_val]; simp [colsOf]; omega), w64_succ (by omega), show colsOf (l.take (i + 1)) = _ from map_ts _ l hi]
  rfl
 ·show (bif _ then _ else _) = _
  rw [bif_decF (by omega), List.take_length]
def wideS (c : ApiColumn) (each : Int) : Int := if c.Kind = 1 ∨ c.Kind = 2 then 9 else if c.Kind = 3 then 2 else 3 + each * c.Max
theorem colS_ok {c : ApiColumn} (h : colS c = 0) : nameS c.Name = true ∧ 1 ≤ c.Kind ∧ c.Kind ≤ 5 ∧ (if c.Kind = 4 ∨ c.Kind = 5 then 1 ≤ c.Max ∧ c.Max ≤ 64 else c.Max = 0) ∧ fitS c c.Default = 0 := by
 unfold colS at h
 by_cases h1 : nameS c.Name = false
 ·rw [if_pos h1] at h; cases h
 rw [if_neg h1] at h
 by_cases h2 : c.Kind < 1 ∨ c.Kind > 5
 ·rw [if_pos h2] at h; cases h
 rw [if_neg h2] at h
 by_cases h3 : (if c.Kind = 4 ∨ c.Kind = 5 then c.Max < 1 ∨ c.Max > 64 else c.Max ≠ 0)
 ·rw [if_pos h3] at h; cases h
 rw [if_neg h3] at h
 refine ⟨by simpa using h1, by omega, by omega, ?_, h⟩
 by_cases k : c.Kind = 4 ∨ c.Kind = 5
 ·rw [if_pos k] at h3 ⊢; omega
 ·rw [if_neg k] at h3 ⊢; omega
theorem colS_max {c : ApiColumn} (h : colS c = 0) : 0 ≤ c.Max ∧ c.Max ≤ 64 := by
 have := (colS_ok h).2.2.2.1
 split at this <;> omega
theorem ref17_wide_eq (c : ApiColumn) (each : Int) (hc : 0 ≤ c.Max ∧ c.Max ≤ 64) (he : each = 1 ∨ each = 2) : ref17_wide c each = some (wideS c each) := by
 unfold ref17_wide wideS
 refine bo (a := decide (c.Kind = 1 ∨ c.Kind = 2)) ?_ ?_
 ·by_cases k : c.Kind = 1
  ·rw [k]; rfl
  ·rw [beq_eq_false_iff_ne.2 k, cond_false]; congr 1; simp [k, Bool.beq_eq_decide_eq]
 by_cases k : c.Kind = 1 ∨ c.Kind = 2
 ·rw [bif_decT k, if_pos k]
 rw [bif_decF k, if_neg k]
 by_cases k3 : c.Kind = 3
 ·rw [show (c.Kind == 3) = true by simpa using k3, cond_true, if_pos k3]
 rw [show (c.Kind == 3) = false by simpa using k3, cond_false, if_neg k3]
 have hm : 0 ≤ each * c.Max ∧ each * c.Max ≤ 128 := by rcases he with rfl | rfl <;> omega
 generalize each * c.Max = m at hm ⊢
 rw [w64_id (n := m) (by omega) (by omega), w64_id (by omega) (by omega)]
theorem wideS_le {c : ApiColumn} {each : Int} (hc : 0 ≤ c.Max ∧ c.Max ≤ 64) (he : each = 1 ∨ each = 2) : 0 ≤ wideS c each ∧ wideS c each ≤ 131 := by
 unfold wideS
 have hm : 0 ≤ each * c.Max ∧ each * c.Max ≤ 128 := by rcases he with rfl | rfl <;> omega
 repeat' split
 all_goals omega
theorem sum_bound {α : Type} (f : α → Int) : ∀ {l : List α}, (∀ x ∈ l, 0 ≤ f x ∧ f x ≤ 131) → 0 ≤ (l.map f).sum ∧ (l.map f).sum ≤ 131 * l.length
 | [], _ => by simp
 | x :: l, h => by
  have h1 := h x (by simp)
  have h2 := sum_bound f (l := l) (fun y hy => h y (by simp [hy]))
  simp only [List.map_cons, List.sum_cons, List.length_cons]
  omega
theorem sum_take (l : List Int) (i : Nat) (hi : i < l.length) : (l.take (i + 1)).sum = (l.take i).sum + l[i] := by
 rw [List.take_succ_eq_append_getElem hi, List.sum_append]
 simp only [List.sum_cons, List.sum_nil, Int.add_zero]
def rowMaxS (l : List ApiColumn) : Int := 1 + (l.map fun c => wideS c 1).sum
theorem ref17_RowMax_eq (l : List ApiColumn) (h : l.length ≤ 24) (hc : ∀ c ∈ l, 0 ≤ c.Max ∧ c.Max ≤ 64) : ref17_RowMax l = some (rowMaxS l) := by
 unfold ref17_RowMax
 refine lpA (w := rowMaxS l) (lq1 (fun i => (rowMaxS (l.take i), (i : Int))) l.length (fun i hi => ?_) ?_ rfl) rfl
 ·have b := sum_bound (fun c => wideS c 1) (l := l.take i) (fun c h => wideS_le (hc c (List.mem_of_mem_take h)) (.inl rfl))
  have w := wideS_le (each := 1) (hc _ (List.getElem_mem hi)) (.inl rfl)
  have tl : (l.take i).length ≤ 24 := by simp; omega
  show (bif _ then _ else _) = _
  rw [bif_decT (by omega), getI_at hi, bind_some', ref17_wide_eq _ _ (hc _ (List.getElem_mem hi)) (.inl rfl), bind_some', w64_succ (by omega)]
  have e : rowMaxS (l.take (i + 1)) = rowMaxS (l.take i) + wideS l[i] 1 := by
   unfold rowMaxS
   rw [List.map_take, List.map_take, sum_take _ _ (by simpa using hi)]; simp; omega
  rw [e, w64_id (by unfold rowMaxS; omega) (by unfold rowMaxS; omega)]
 ·show (bif _ then _ else _) = _
  rw [bif_decF (by omega), List.take_length]
def colAt (cols : List ApiColumn) (i : Int) : ApiColumn := (cols[i.toNat]?).getD default
theorem colAt_eq {cols : List ApiColumn} {i : Int} (h : 0 ≤ i ∧ i < cols.length) : getI cols i = some (colAt cols i) := by
 unfold getI colAt
 rw [if_pos h.1]
 have hl : i.toNat < cols.length := by omega
 rw [List.getElem?_eq_getElem hl]; rfl
theorem colAt_mem {cols : List ApiColumn} {i : Int} (h : 0 ≤ i ∧ i < cols.length) : colAt cols i ∈ cols := by
 unfold colAt
 have hl : i.toNat < cols.length := by omega
 rw [List.getElem?_eq_getElem hl]; exact List.getElem_mem hl
def keyMaxS (cols : List ApiColumn) (l : List ApiPart) : Int := (l.map fun p => wideS (colAt cols p.Col) 2).sum
theorem ref17_KeyMax_eq (cols : List ApiColumn) (l : List ApiPart) (h : l.length ≤ 1048576) (hp : ∀ p ∈ l, 0 ≤ p.Col ∧ p.Col < cols.length) (hc : ∀ c ∈ cols, 0 ≤ c.Max ∧ c.Max ≤ 64) : ref17_KeyMax cols l = some (keyMaxS cols l) := by
 unfold ref17_KeyMax
 refine lpA (w := keyMaxS cols l) (lq1 (fun i => (keyMaxS cols (l.take i), (i : Int))) l.length (fun i hi => ?_) ?_ rfl) rfl
 ·have b := sum_bound (fun p : ApiPart => wideS (colAt cols p.Col) 2) (l := l.take i) (fun p h => wideS_le (hc _ (colAt_mem (hp p (List.mem_of_mem_take h)))) (.inr rfl))
  have hq := hp _ (List.getElem_mem hi)
  have w := wideS_le (each := 2) (hc _ (colAt_mem hq)) (.inr rfl)
  have tl : (l.take i).length ≤ 1048576 := by simp; omega
  show (bif _ then _ else _) = _
  rw [bif_decT (by omega), getI_at hi, bind_some', colAt_eq hq, bind_some', ref17_wide_eq _ _ (hc _ (colAt_mem hq)) (.inr rfl), bind_some', w64_succ (by omega)]
  have e : keyMaxS cols (l.take (i + 1)) = keyMaxS cols (l.take i) + wideS (colAt cols l[i].Col) 2 := by
   unfold keyMaxS
   rw [List.map_take, List.map_take, sum_take _ _ (by simpa using hi)]; simp
  rw [e, w64_id (by unfold keyMaxS; omega) (by unfold keyMaxS; omega)]
 ·show (bif _ then _ else _) = _
  rw [bif_decF (by omega), List.take_length]
def indexS (t : ApiTable) (x : ApiIndex) : Int :=
 if x.Parts.length < 1 ∨ x.Parts.length > 4 ∨ placesS t.Cols.length (colsOf x.Parts) = false ∨ placesS t.Cols.length x.Extra = false then 1
 else if (x.Extra.any fun c => hasS (colsOf x.Parts) c || hasS t.Primary c) = true then 1
 else if keyMaxS t.Cols x.Parts > 128 then 7 else 0
theorem parts_in {n : Int} {l : List ApiPart} (h : placesS n (colsOf l) = true) : ∀ p ∈ l, 0 ≤ p.Col ∧ p.Col < n := fun p hp => placesS_in h p.Col (List.mem_map.2 ⟨p, hp, rfl⟩)
theorem ref17_index_eq (t : ApiTable) (x : ApiIndex) (hc : ∀ c ∈ t.Cols, 0 ≤ c.Max ∧ c.Max ≤ 64) (hx : OkX x) (hp : t.Primary.length < 4611686018427387904) : ref17_index t x = some (indexS t x) := by
 unfold ref17_index indexS
 obtain ⟨o1, o2, o3⟩ := hx
 refine bo (a := decide (x.Parts.length < 1 ∨ x.Parts.length > 4 ∨ placesS t.Cols.length (colsOf x.Parts) = false ∨ placesS t.Cols.length x.Extra = false)) ?_ ?_
 ·by_cases h1 : x.Parts.length < 1
  ·rw [bif_decT (by omega), decide_eq_true (.inl h1)]
  rw [bif_decF (by omega)]
  by_cases h2 : x.Parts.length > 4
  ·rw [bif_decT (by omega), decide_eq_true (.inr (.inl h2))]
  rw [bif_decF (by omega), ref17_Cols_eq _ (by omega), bind_some', ref17_places_eq _ _ (by simp [colsOf]; omega), bind_some']
  cases p1 : placesS t.Cols.length (colsOf x.Parts) with
  | false => simp
  | true =>
   rw [Bool.not_true, cond_false, ref17_places_eq _ _ o3, bind_some']
   cases p2 : placesS t.Cols.length x.Extra <;> simp [h1, h2]
 by_cases q : x.Parts.length < 1 ∨ x.Parts.length > 4 ∨ placesS t.Cols.length (colsOf x.Parts) = false ∨ placesS t.Cols.length x.Extra = false
 ·rw [bif_decT q, if_pos q]
 rw [bif_decF q, if_neg q]
 simp only [not_or, Bool.not_eq_false] at q
 refine lpE (lq3 x.Extra (fun c => hasS (colsOf x.Parts) c || hasS t.Primary c) (.inr 1) (.inl ()) (fun i => (i : Int)) (fun i hi => ?_) ?_ rfl) ?_
 ·show (bif _ then _ else _) = _
  rw [bif_decT (by omega), getI_at hi, w64_succ (by omega), ref17_Cols_eq _ (by omega)]
  simp only [bind_some']
  rw [ref17_Has_eq _ _ (by simp [colsOf]; omega), bind_some', ref17_Has_eq _ _ hp]
  cases hasS (colsOf x.Parts) x.Extra[i] <;> cases hasS t.Primary x.Extra[i] <;> rfl
 ·show (bif _ then _ else _) = _
  rw [bif_decF (by omega)]
 ·cases (x.Extra.any fun c => hasS (colsOf x.Parts) c || hasS t.Primary c) with
  | true => rfl
  | false =>
   simp only [Bool.false_eq_true, if_false, Sum.elim_inl]
   rw [ref17_KeyMax_eq _ _ (by omega) (parts_in q.2.2.1) hc, bind_some']
   by_cases k : keyMaxS t.Cols x.Parts > 128
   ·rw [bif_decT k, if_pos k]
   ·rw [bif_decF k, if_neg k]
def colE (l : List ApiColumn) (i : Nat) (c : ApiColumn) : Option Int := if colS c ≠ 0 then some (colS c) else if ((l.take i).any fun d => d.Name == c.Name) = true then some 6 else none
def idxE (t : ApiTable) (i : Nat) (x : ApiIndex) : Option Int :=
 if nameS x.Name = false then some 1 else if ((t.Indexes.take i).any fun y => y.Name == x.Name) = true then some 6 else if indexS t x ≠ 0 then some (indexS t x) else none
def chkS (t : ApiTable) : Int :=
 if nameS t.Name = false then 1 else if t.Cols.length < 1 ∨ t.Cols.length > 24 then 7 else match firstF (colE t.Cols) 0 t.Cols with
 | some e => e
 | none => if t.Primary.length < 1 ∨ t.Primary.length > 4 ∨ placesS t.Cols.length t.Primary = false then 1
  else if (t.Primary.any fun c => (colAt t.Cols c).Nulls) = true then 1
  else if rowMaxS t.Cols > 512 ∨ keyMaxS t.Cols (upS t.Primary) > 128 ∨ t.Indexes.length > 6 then 7
  else match firstF (idxE t) 0 t.Indexes with
   | some e => e
   | none => 0
theorem up_in {n : Int} {l : List Int} (h : placesS n l = true) : ∀ p ∈ upS l, 0 ≤ p.Col ∧ p.Col < n := by
 intro p hp
 obtain ⟨c, hc, rfl⟩ := List.mem_map.1 hp
 exact placesS_in h c hc
theorem firstF_map {α W V : Type} (f : Nat → α → Option W) (g : W → V) : ∀ (l : List α) (i : Nat), firstF (fun i x => (f i x).map g) i l = (firstF f i l).map g
 | [], i => rfl
 | x :: r, i => by rw [firstF, firstF]; cases f i x <;> simp [firstF_map f g r]
theorem cols_of_none {l : List ApiColumn} (h : firstF (colE l) 0 l = none) : ∀ c ∈ l, colS c = 0 := by
 rw [firstF_none] at h
 intro c hc
 obtain ⟨i, hi, rfl⟩ := List.mem_iff_getElem.1 hc
 have := h i hi
 unfold colE at this
 by_cases q : colS l[i] = 0
 ·exact q
 ·rw [if_pos q] at this; cases this
theorem ref17_Check_eq (t : ApiTable) (h : OkT t) : ref17_Check t = some (chkS t) := by
  unfold ref17_Check chkS
  rw [ref06_Name_eq _ h.name, bind_some']
  cases nameS t.Name with
  | false => rfl
  | true =>
  rw [Bool.not_true, cond_false, if_neg (by simp)]
  refine bo (a := decide (t.Cols.length < 1 ∨ t.Cols.length > 24)) ?_ ?_
  · by_cases k : t.Cols.length < 1
    · rw [bif_decT (by omega)]; simp [k]
    · rw [bif_decF (by omega)]; congr 1; exact decI (by omega)
  by_cases q : t.Cols.length < 1 ∨ t.Cols.length > 24
  · rw [bif_decT q, if_pos q]
  rw [bif_decF q, if_neg q]
  refine lpE (lq5 t.Cols (fun i c => (colE t.Cols i c).map fun e => (.inr e : Unit ⊕ Int)) (.inl ()) (fun i => (i : Int)) (fun i hi => ?_) ?_ rfl) ?_
  · have hm := List.getElem_mem hi
    show (bif _ then _ else _) = _
    rw [bif_decT (by omega), getI_at hi, w64_succ (by omega)]
    unfold colE
    refine (?_ : bindE _ _ _ = _)
    simp only [bind_some']
    rw [ref06_Column_eq _ (h.cols.2 _ hm).1 (h.cols.2 _ hm).2, bind_some']
    by_cases k : colS t.Cols[i] = 0
    rotate_left
    · rw [show (colS t.Cols[i] != 0) = true by simpa using k, cond_true, bindE_r, if_pos k]; rfl
    rw [show (colS t.Cols[i] != 0) = false by simpa using k, cond_false, if_neg (by simpa using k)]
    have tl : (t.Cols.take i).length = i := by simp; omega
    have inner := lq3 (y0 := (0 : Int)) (B := (fun y590 : Int =>
                      bif (decide (y590 < (i : Int))) then
                        Option.bind (getI t.Cols y590) fun v596 =>
                        bif (v596.Name == t.Cols[i].Name) then
                          some (Sum.inr (Sum.inr (6 : Int)))
                        else
                          some (Sum.inl (w64 (y590 + (1 : Int))))
                      else
                        some (Sum.inr (Sum.inl ())))) (t.Cols.take i) (fun d => d.Name == t.Cols[i].Name) (.inr 6) (.inl ()) (fun j => (j : Int)) (fun j hj => by
          show (bif _ then _ else _) = _
          rw [bif_decT (by omega), getI_at (by omega), bind_some', w64_succ (by omega), List.getElem_take]
          cases t.Cols[j].Name == t.Cols[i].Name <;> rfl) (by
          show (bif _ then _ else _) = _
          rw [bif_decF (by omega)]) rfl
    cases ha : ((t.Cols.take i).any fun d => d.Name == t.Cols[i].Name) with
    | true =>
      rw [ha] at inner
      rw [inner]; rfl
    | false =>
      rw [ha] at inner
      rw [inner]; rfl
  · show (bif _ then _ else _) = _
    rw [bif_decF (by omega)]
  rw [firstF_map]
  cases hc : firstF (colE t.Cols) 0 t.Cols with
  | some e => rfl
  | none =>
  have hcol := cols_of_none hc
  have hmax : ∀ c ∈ t.Cols, 0 ≤ c.Max ∧ c.Max ≤ 64 := fun c hm => colS_max (hcol c hm)
  simp only [Option.map_none, Option.getD_none, Sum.elim_inl]
  refine bo (a := decide (t.Primary.length < 1 ∨ t.Primary.length > 4 ∨ placesS t.Cols.length t.Primary = false)) ?_ ?_
  · by_cases k : t.Primary.length < 1
    · rw [bif_decT (by omega)]; simp [k]
    rw [bif_decF (by omega)]
    by_cases k2 : t.Primary.length > 4
    · rw [bif_decT (by omega)]; simp [k2]
    rw [bif_decF (by omega), ref17_places_eq _ _ h.prim, bind_some']
    cases placesS t.Cols.length t.Primary <;> simp [k, k2]
  by_cases q2 : t.Primary.length < 1 ∨ t.Primary.length > 4 ∨ placesS t.Cols.length t.Primary = false
  · rw [bif_decT q2, if_pos q2]
  rw [bif_decF q2, if_neg q2]
  simp only [not_or, Bool.not_eq_false] at q2
  refine lpE (lq3 t.Primary (fun c => (colAt t.Cols c).Nulls) (.inr 1) (.inl ()) (fun i => (i : Int)) (fun i hi => ?_) ?_ rfl) ?_
  · show (bif _ then _ else _) = _
    rw [bif_decT (by omega), getI_at hi, bind_some', colAt_eq (placesS_in q2.2.2 _ (List.getElem_mem hi)), bind_some', w64_succ (by omega)]
    cases (colAt t.Cols t.Primary[i]).Nulls <;> rfl
  · show (bif _ then _ else _) = _
    rw [bif_decF (by omega)]
  cases (t.Primary.any fun c => (colAt t.Cols c).Nulls) with
  | true => rfl
  | false =>
  simp only [Bool.false_eq_true, if_false, Sum.elim_inl]
  refine bo (a := decide (rowMaxS t.Cols > 512 ∨ keyMaxS t.Cols (upS t.Primary) > 128 ∨ t.Indexes.length > 6)) ?_ ?_
  · rw [ref17_RowMax_eq _ (by omega) hmax, bind_some']
    by_cases k : rowMaxS t.Cols > 512
    · rw [bif_decT k]; simp [k]
    rw [bif_decF k, ref17_Up_eq _ (by omega), bind_some', ref17_KeyMax_eq _ _ (by simp [upS]; omega) (up_in q2.2.2) hmax, bind_some']
    by_cases k2 : keyMaxS t.Cols (upS t.Primary) > 128
    · rw [bif_decT k2]; simp [k2]
    rw [bif_decF k2]; congr 1; simp only [k, k2, false_or]; exact decI (by omega)
  by_cases q3 : rowMaxS t.Cols > 512 ∨ keyMaxS t.Cols (upS t.Primary) > 128 ∨ t.Indexes.length > 6
  · rw [bif_decT q3, if_pos q3]
  rw [bif_decF q3, if_neg q3]
  refine lpE (lq5 t.Indexes (fun i x => (idxE t i x).map fun e => (.inr e : Unit ⊕ Int)) (.inl ()) (fun i => (i : Int)) (fun i hi => ?_) ?_ rfl) ?_
  · have hm := List.getElem_mem hi
    show (bif _ then _ else _) = _
    rw [bif_decT (by omega), getI_at hi, w64_succ (by omega)]
    unfold idxE
    refine (?_ : bindE _ _ _ = _)
    simp only [bind_some']
    rw [ref06_Name_eq _ (h.idx _ hm).1, bind_some']
    cases hn : nameS t.Indexes[i].Name with
    | false => rfl
    | true =>
    rw [Bool.not_true, cond_false, if_neg (by simp)]
    have tl : (t.Indexes.take i).length = i := by simp; omega
    have inner := lq3 (y0 := (0 : Int)) (B := (fun y874 : Int =>
                                    bif (decide (y874 < (i : Int))) then
                                      Option.bind (getI t.Indexes y874) fun v879 =>
                                      bif (v879.Name == t.Indexes[i].Name) then
                                        some (Sum.inr (Sum.inr (6 : Int)))
                                      else
                                        some (Sum.inl (w64 (y874 + (1 : Int))))
                                    else
                                      some (Sum.inr (Sum.inl ())))) (t.Indexes.take i) (fun d => d.Name == t.Indexes[i].Name) (.inr 6) (.inl ()) (fun j => (j : Int)) (fun j hj => by
          show (bif _ then _ else _) = _
          rw [bif_decT (by omega), getI_at (by omega), bind_some', w64_succ (by omega), List.getElem_take]
          cases t.Indexes[j].Name == t.Indexes[i].Name <;> rfl) (by
          show (bif _ then _ else _) = _
          rw [bif_decF (by omega)]) rfl
    rw [inner]
    cases ha : ((t.Indexes.take i).any fun d => d.Name == t.Indexes[i].Name) with
    | true => rfl
    | false =>
      simp only [Bool.false_eq_true, if_false]
      rw [ref17_index_eq t _ hmax (h.idx _ hm) h.prim]
      by_cases k : indexS t t.Indexes[i] = 0
      · rw [k]; rfl
      · rw [if_pos k]
        refine beE (x := indexS t t.Indexes[i]) ?_ rfl
        refine beY (y := ()) rfl ?_
        rw [bind_some', show (indexS t t.Indexes[i] != 0) = true by simpa using k]; rfl
  · show (bif _ then _ else _) = _
    rw [bif_decF (by omega)]
  rw [firstF_map]
  cases firstF (idxE t) 0 t.Indexes <;> rfl
structure Right (t : ApiTable) : Prop where
 len : 1 ≤ t.Cols.length ∧ t.Cols.length ≤ 24
 col : ∀ c ∈ t.Cols, colS c = 0
 pri : 1 ≤ t.Primary.length ∧ t.Primary.length ≤ 4
 pla : placesS t.Cols.length t.Primary = true
 row : rowMaxS t.Cols ≤ 512
 key : keyMaxS t.Cols (upS t.Primary) ≤ 128
 ixs : t.Indexes.length ≤ 6
 idx : ∀ x ∈ t.Indexes, indexS t x = 0
theorem Right.of {t : ApiTable} (h : chkS t = 0) : Right t := by
 unfold chkS at h
 by_cases h1 : nameS t.Name = false
 ·rw [if_pos h1] at h; cases h
 rw [if_neg h1] at h
 by_cases h2 : t.Cols.length < 1 ∨ t.Cols.length > 24
 ·rw [if_pos h2] at h; cases h
 rw [if_neg h2] at h
 cases h3 : firstF (colE t.Cols) 0 t.Cols with
 | some e =>
  rw [h3] at h
  exfalso
  have : ∀ (l : List ApiColumn) (i : Nat) (e : Int), firstF (colE t.Cols) i l = some e → e ≠ 0 := by
   intro l
   induction l with
   | nil => intro i e h; cases h
   | cons x r ih =>
    intro i e h
    rw [firstF] at h
    cases hx : colE t.Cols i x with
    | none => rw [hx] at h; exact ih _ _ h
    | some e' =>
     rw [hx] at h
     cases h
     unfold colE at hx
     by_cases q : colS x = 0
     ·rw [if_neg (by simpa using q)] at hx
      by_cases q2 : ((t.Cols.take i).any fun d => d.Name == x.Name) = true
      ·rw [if_pos q2] at hx; cases hx; decide
      ·rw [if_neg q2] at hx; cases hx
     ·rw [if_pos q] at hx; cases hx; exact q
  exact this _ _ _ h3 h
 | none =>
 rw [h3] at h
 simp only at h
 by_cases h4 : t.Primary.length < 1 ∨ t.Primary.length > 4 ∨ placesS t.Cols.length t.Primary = false
 ·rw [if_pos h4] at h; cases h
 rw [if_neg h4] at h
 by_cases h5 : (t.Primary.any fun c => (colAt t.Cols c).Nulls) = true
 ·rw [if_pos h5] at h; cases h
 rw [if_neg h5] at h
 by_cases h6 : rowMaxS t.Cols > 512 ∨ keyMaxS t.Cols (upS t.Primary) > 128 ∨ t.Indexes.length > 6
 ·rw [if_pos h6] at h; cases h
 rw [if_neg h6] at h
 simp only [not_or, Bool.not_eq_false] at h2 h4 h6
 refine ⟨by omega, cols_of_none h3, by omega, h4.2.2, by omega, by omega, by omega, fun x hx => ?_⟩
 obtain ⟨i, hi, rfl⟩ := List.mem_iff_getElem.1 hx
 cases h7 : firstF (idxE t) 0 t.Indexes with
 | none =>
  rw [firstF_none] at h7
  have := h7 i hi
  unfold idxE at this
  by_cases q : nameS t.Indexes[i].Name = false
  ·rw [if_pos q] at this; cases this
  rw [if_neg q] at this
  by_cases q2 : ((t.Indexes.take (0 + i)).any fun y => y.Name == t.Indexes[i].Name) = true
  ·rw [if_pos q2] at this; cases this
  rw [if_neg q2] at this
  by_cases q3 : indexS t t.Indexes[i] = 0
  ·exact q3
  ·rw [if_pos q3] at this; cases this
 | some e =>
  rw [h7] at h
  exfalso
  have : ∀ (l : List ApiIndex) (i : Nat) (e : Int), firstF (idxE t) i l = some e → e ≠ 0 := by
   intro l
   induction l with
   | nil => intro i e h; cases h
   | cons x r ih =>
    intro i e h
    rw [firstF] at h
    cases hx : idxE t i x with
    | none => rw [hx] at h; exact ih _ _ h
    | some e' =>
     rw [hx] at h
     cases h
     unfold idxE at hx
     by_cases q : nameS x.Name = false
     ·rw [if_pos q] at hx; cases hx; decide
     rw [if_neg q] at hx
     by_cases q2 : ((t.Indexes.take i).any fun y => y.Name == x.Name) = true
     ·rw [if_pos q2] at hx; cases hx; decide
     rw [if_neg q2] at hx
     by_cases q3 : indexS t x = 0
     ·rw [if_neg (by simpa using q3)] at hx; cases hx
     ·rw [if_pos q3] at hx; cases hx; exact q3
  exact this _ _ _ h7 h
structure RightX (t : ApiTable) (x : ApiIndex) : Prop where
 par : 1 ≤ x.Parts.length ∧ x.Parts.length ≤ 4
 pla : placesS t.Cols.length (colsOf x.Parts) = true
 ext : placesS t.Cols.length x.Extra = true
 key : keyMaxS t.Cols x.Parts ≤ 128
theorem RightX.of {t : ApiTable} {x : ApiIndex} (h : indexS t x = 0) : RightX t x := by
 unfold indexS at h
 by_cases h1 : x.Parts.length < 1 ∨ x.Parts.length > 4 ∨ placesS t.Cols.length (colsOf x.Parts) = false ∨ placesS t.Cols.length x.Extra = false
 ·rw [if_pos h1] at h; cases h
 rw [if_neg h1] at h
 by_cases h2 : (x.Extra.any fun c => hasS (colsOf x.Parts) c || hasS t.Primary c) = true
 ·rw [if_pos h2] at h; cases h
 rw [if_neg h2] at h
 by_cases h3 : keyMaxS t.Cols x.Parts > 128
 ·rw [if_pos h3] at h; cases h
 simp only [not_or, Bool.not_eq_false] at h1
 exact ⟨by omega, h1.2.2.1, h1.2.2.2, by omega⟩
theorem nd_len : ∀ (n : Nat) (l : List Nat), l.Nodup → (∀ x ∈ l, x < n) → l.length ≤ n
 | 0, [], _, _ => by simp
 | 0, x :: l, _, h => absurd (h x (by simp)) (by omega)
 | n + 1, l, hd, h => by
  have h1 := nd_len n (l.erase n) (hd.erase n) (fun x hx => by
   have := (List.Nodup.mem_erase_iff hd).1 hx
   have := h x this.2
   omega)
  have := List.length_erase (a := n) (l := l)
  split at this <;> omega
theorem nodup_len {n : Nat} {l : List Int} (h : placesS n l = true) : l.length ≤ n := by
 have h1 := placesS_in h
 have h2 := placesS_nodup h
 have h3 : (l.map Int.toNat).Nodup := by
  show List.Pairwise (· ≠ ·) _
  rw [List.pairwise_map]
  refine List.Pairwise.imp_of_mem ?_ h2
  intro a b ha hb hab e
  have := h1 a ha; have := h1 b hb
  omega
 have h4 : ∀ x ∈ l.map Int.toNat, x < n := by
  intro x hx
  obtain ⟨c, hc, rfl⟩ := List.mem_map.1 hx
  have := h1 c hc; omega
 have := nd_len n _ h3 h4
 simpa using this
theorem fitS_ok {c : ApiColumn} {v : ApiValue} (h : fitS c v = 0) : val v = true ∧ (v.Kind = 0 ∨ v.Kind = c.Kind) ∧ ((v.Kind = 4 ∨ v.Kind = 5) → (v.S.length : Int) ≤ c.Max) := by
 unfold fitS at h
 by_cases h1 : val v = false
 ·rw [if_pos h1] at h; cases h
 rw [if_neg h1] at h
 have hv : val v = true := by simpa using h1
 by_cases h2 : v.Kind = 0
 ·exact ⟨hv, .inl h2, fun k => by omega⟩
 rw [if_neg h2] at h
 by_cases h3 : v.Kind ≠ c.Kind
 ·rw [if_pos h3] at h; cases h
 rw [if_neg h3] at h
 by_cases h4 : (v.Kind = 4 ∨ v.Kind = 5) ∧ (v.S.length : Int) > c.Max
 ·rw [if_pos h4] at h; cases h
 exact ⟨hv, .inr (by simpa using h3), fun k => by
  rcases Int.lt_or_le c.Max v.S.length with q | q
  ·exact absurd ⟨k, q⟩ h4
  ·exact q⟩
theorem valKind {v : ApiValue} (h : val v = true) : 0 ≤ v.Kind ∧ v.Kind ≤ 5 := by
 unfold val at h
 simp only [Bool.or_eq_true, Bool.and_eq_true, beq_iff_eq, decide_eq_true_eq] at h
 omega
structure Fit (cols : List ApiColumn) (l : List ApiValue) : Prop where
 rc : colsS cols = true
 len : l.length = cols.length
 fit : ∀ i (h1 : i < cols.length) (h2 : i < l.length), fitS cols[i] l[i] = 0
theorem Fit.of {cols : List ApiColumn} {l : List ApiValue} (h : fitsS cols l = 0) : Fit cols l := by
 unfold fitsS at h
 by_cases q : colsS cols = false ∨ l.length ≠ cols.length
 ·rw [if_pos q] at h; cases h
 rw [if_neg q] at h
 simp only [not_or, Bool.not_eq_false, ne_eq, Decidable.not_not] at q
 refine ⟨q.1, q.2, fun i h1 h2 => ?_⟩
 have hn : (cols.zip l).findSome? fitE = none := by
  cases hf : (cols.zip l).findSome? fitE with
  | none => rfl
  | some e =>
   rw [hf] at h
   exfalso
   obtain ⟨p, _, hp⟩ := List.exists_of_findSome?_eq_some hf
   unfold fitE at hp
   by_cases k : fitS p.1 p.2 = 0
   ·rw [if_pos k] at hp; cases hp
   ·rw [if_neg k] at hp; cases hp; exact k h
 rw [List.findSome?_eq_none_iff] at hn
 have := hn (cols[i], l[i]) (List.mem_iff_getElem.2 ⟨i, by simp; omega, by rw [List.getElem_zip]⟩)
 unfold fitE at this
 by_cases k : fitS cols[i] l[i] = 0
 ·exact k
 ·rw [if_neg k] at this; cases this
theorem Fit.to {cols : List ApiColumn} {l : List ApiValue} (h : Fit cols l) : fitsS cols l = 0 := by
 unfold fitsS
 rw [if_neg (by rw [h.rc, h.len]; simp)]
 have hn : (cols.zip l).findSome? fitE = none := by
  rw [List.findSome?_eq_none_iff]
  intro p hp
  obtain ⟨i, hi, rfl⟩ := List.mem_iff_getElem.1 hp
  have hi' : i < cols.length ∧ i < l.length := by have := hi; simp at this; omega
  rw [List.getElem_zip]
  unfold fitE
  rw [if_pos (h.fit i hi'.1 hi'.2)]
 rw [hn]; rfl
theorem Fit.num {cols : List ApiColumn} {l : List ApiValue} (h : Fit cols l) : 1 ≤ cols.length ∧ cols.length ≤ 24 ∧ ∀ c ∈ cols, colS c = 0 := by
 have := h.rc
 unfold colsS at this
 simp only [Bool.and_eq_true, decide_eq_true_eq, List.all_eq_true, beq_iff_eq] at this
 exact ⟨this.1.1, this.1.2, this.2⟩
theorem Fit.val {cols : List ApiColumn} {l : List ApiValue} (h : Fit cols l) : ∀ v ∈ l, val v = true := by
 intro v hv
 obtain ⟨i, hi, rfl⟩ := List.mem_iff_getElem.1 hv
 exact (fitS_ok (h.fit i (by rw [← h.len]; exact hi) hi)).1
theorem Fit.short {cols : List ApiColumn} {l : List ApiValue} (h : Fit cols l) : ∀ v ∈ l, v.S.length ≤ 64 := fun v hv => val_short (h.val v hv)
def vAt (l : List ApiValue) (i : Int) : ApiValue := (l[i.toNat]?).getD default
theorem vAt_eq {l : List ApiValue} {i : Int} (h : 0 ≤ i ∧ i < l.length) : getI l i = some (vAt l i) := by
 unfold getI vAt
 rw [if_pos h.1]
 have hl : i.toNat < l.length := by omega
 rw [List.getElem?_eq_getElem hl]; rfl
theorem vAt_mem {l : List ApiValue} {i : Int} (h : 0 ≤ i ∧ i < l.length) : vAt l i ∈ l := by
 unfold vAt
 have hl : i.toNat < l.length := by omega
 rw [List.getElem?_eq_getElem hl]; exact List.getElem_mem hl
theorem Fit.at {cols : List ApiColumn} {l : List ApiValue} (h : Fit cols l) {i : Int} (hi : 0 ≤ i ∧ i < cols.length) : fitS (colAt cols i) (vAt l i) = 0 := by
 unfold colAt vAt
 have h1 : i.toNat < cols.length := by omega
 have h2 : i.toNat < l.length := by rw [h.len]; exact h1
 rw [List.getElem?_eq_getElem h1, List.getElem?_eq_getElem h2]
 exact h.fit _ h1 h2
def partV (l : List ApiValue) (ps : List ApiPart) : List ApiValue := ps.map fun p => vAt l p.Col
def downs (ps : List ApiPart) : List Bool := ps.map (·.Down)
def nullS (l : List ApiValue) (ps : List ApiPart) : Bool := ps.any fun p => (vAt l p.Col).Kind == 0
def keyS (l : List ApiValue) (ps : List ApiPart) : List UInt8 := encL (partV l ps) (downs ps)
theorem enc_wide {c : ApiColumn} {v : ApiValue} (hc : colS c = 0) (h : fitS c v = 0) : ((enc v).length : Int) ≤ wideS c 2 ∧ ((putS v).length : Int) ≤ wideS c 1 := by
 obtain ⟨h1, h2, h3⟩ := fitS_ok h
 obtain ⟨_, k1, k2, km, _⟩ := colS_ok hc
 have he := esc_len v.S
 have hk := valKind h1
 have hm0 := colS_max hc
 rcases h2 with h0 | hkc
 ·have e1 : enc v = [0] := by unfold enc body; simp [h0]
  have e2 : putS v = [1] := by unfold putS; simp [h0]
  rw [e1, e2]
  unfold wideS
  simp only [List.length_cons, List.length_nil]
  by_cases q : c.Kind = 1 ∨ c.Kind = 2
  ·rw [if_pos q, if_pos q]; omega
  rw [if_neg q, if_neg q]
  by_cases q3 : c.Kind = 3
  ·rw [if_pos q3, if_pos q3]; omega
  ·rw [if_neg q3, if_neg q3]; omega
 ·have wide : ∀ each, wideS c each = if v.Kind = 1 ∨ v.Kind = 2 then 9 else if v.Kind = 3 then 2 else 3 + each * c.Max := by intro each; unfold wideS; rw [hkc]
  rw [wide, wide]
  by_cases q1 : v.Kind = 1
  ·simp [enc, body, putS, q1, bytesN_len]
  by_cases q2 : v.Kind = 2
  ·simp [enc, body, putS, q2, bytesN_len]
  by_cases q3 : v.Kind = 3
  ·simp [enc, body, putS, q3, bytesN_len]
  have q4 : v.Kind = 4 ∨ v.Kind = 5 := by omega
  have hm := h3 q4
  have e1 : enc v = 1 :: (esc v.S ++ [0, 0]) := by unfold enc body; rcases q4 with k | k <;> simp [k]
  have e2 : putS v = 0 :: (bytesN (u64i v.S.length) 2 ++ v.S) := by unfold putS; rcases q4 with k | k <;> simp [k]
  rw [e1, e2, if_neg (show ¬ (v.Kind = 1 ∨ v.Kind = 2) by omega), if_neg q3, if_neg (show ¬ (v.Kind = 1 ∨ v.Kind = 2) by omega), if_neg q3]
  simp only [List.length_cons, List.length_append, bytesN_len, List.length_nil]
  omega
theorem keyS_len {cols : List ApiColumn} {l : List ApiValue} (h : Fit cols l) : ∀ {ps : List ApiPart}, (∀ p ∈ ps, 0 ≤ p.Col ∧ p.Col < cols.length) → ((keyS l ps).length : Int) ≤ keyMaxS cols ps
 | [], _ => by simp [keyS, partV, downs, encL, keyMaxS]
 | p :: ps, hp => by
  have h1 := keyS_len h (ps := ps) (fun q hq => hp q (by simp [hq]))
  have hq := hp p (by simp)
  have h2 := (enc_wide (h.num.2.2 _ (colAt_mem hq)) (h.at hq)).1
  unfold keyS partV downs keyMaxS at h1 ⊢
  simp only [List.map_cons, encL, List.sum_cons, List.length_append, turn_len]
  omega
theorem nobad {cols : List ApiColumn} {l : List ApiValue} (h : Fit cols l) {ps : List ApiPart} (hp : ∀ p ∈ ps, 0 ≤ p.Col ∧ p.Col < cols.length) : (partV l ps).any bad = false := by
 rw [List.any_eq_false]
 intro v hv
 obtain ⟨p, hm, rfl⟩ := List.mem_map.1 hv
 have := h.val _ (vAt_mem (l := l) (by have := hp p hm; rw [h.len]; exact this))
 simp [bad, this]
theorem nullS_take (l : List ApiValue) (ps : List ApiPart) (i : Nat) (hi : i < ps.length) : nullS l (ps.take (i + 1)) = (nullS l (ps.take i) || (vAt l ps[i].Col).Kind == 0) := by
 unfold nullS
 rw [List.take_succ_eq_append_getElem hi, List.any_append]; simp
theorem schema_keyed_eq (t : ApiTable) (ps : List ApiPart) (l : List ApiValue) (hc : OkCs t.Cols) (hv : OkVs l) (hn : ps.length ≤ 1048576) (hp : ∀ p ∈ ps, 0 ≤ p.Col ∧ p.Col < t.Cols.length) (hk : keyMaxS t.Cols ps ≤ 256) :
  schema_keyed t ps l = some (if fitsS t.Cols l ≠ 0 then ([], false, fitsS t.Cols l) else (keyS l ps, nullS l ps, 0)) := by
 unfold schema_keyed
 rw [row_Fits_eq _ _ hc hv, bind_some']
 by_cases q : fitsS t.Cols l = 0
 rotate_left
 ·rw [show (fitsS t.Cols l != 0) = true by simpa using q, cond_true, if_pos q]
 rw [show (fitsS t.Cols l != 0) = false by simpa using q, cond_false, if_neg (by simpa using q)]
 have hf := Fit.of q
 refine lpA (w := (partV l ps, downs ps, nullS l ps)) (lq1 (fun i => (partV l (ps.take i), downs (ps.take i), nullS l (ps.take i), (i : Int))) ps.length (fun i hi => ?_) ?_ rfl) ?_
 ·have hq := hp _ (List.getElem_mem hi)
  have hq' : 0 ≤ ps[i].Col ∧ ps[i].Col < l.length := by rw [hf.len]; exact hq
  show (bif _ then _ else _) = _
  rw [bif_decT (by omega), getI_at hi, bind_some', vAt_eq hq', bind_some', bif_decT (by rw [room_val]; simp [partV]; omega), bif_decT (by rw [room_val]; simp [downs]; omega), w64_succ (by omega), nullS_take l ps i hi,
   show partV l (ps.take (i + 1)) = _ from map_ts _ ps hi, show downs (ps.take (i + 1)) = _ from map_ts _ ps hi]
  cases nullS l (ps.take i) <;> rfl
 ·show (bif _ then _ else _) = _
  rw [bif_decF (by omega), List.take_length]
 ·have hb := nobad hf hp
  have hl := keyS_len hf hp
  have sm : Sm (partV l ps) := ⟨by simp [partV]; omega, fun v hv => by
   obtain ⟨p, hm, rfl⟩ := List.mem_map.1 hv
   have := hf.short _ (vAt_mem (l := l) (by have := hp p hm; rw [hf.len]; exact this))
   omega⟩
  show Option.bind (key_Encode (partV l ps) (downs ps)) _ = _
  rw [key_Encode_eq _ _ sm]
  unfold encS
  rw [if_pos (by simp [partV, downs]), hb, if_neg (by simp), if_neg (by unfold keyS at hl; omega)]
  rfl
theorem schema_Primary_eq (t : ApiTable) (l : List ApiValue) (hc : OkCs t.Cols) (hv : OkVs l) (r : Right t) : schema_Primary t l = some (if fitsS t.Cols l ≠ 0 then ([], fitsS t.Cols l) else (keyS l (upS t.Primary), 0)) := by
 unfold schema_Primary
 rw [schema_up_eq _ (by have := r.pri; omega), bind_some', schema_keyed_eq t _ l hc hv (by have := r.pri; simp [upS]; omega) (up_in r.pla) (by have := r.key; omega), bind_some']
 by_cases q : fitsS t.Cols l = 0
 ·rw [if_neg (by simpa using q), if_neg (by simpa using q)]
 ·rw [if_pos q, if_pos q]
theorem schema_Front_eq (t : ApiTable) (x : ApiIndex) (l : List ApiValue) (hc : OkCs t.Cols) (hv : OkVs l) (r : RightX t x) : schema_Front t x l = some (if fitsS t.Cols l ≠ 0 then ([], false, fitsS t.Cols l) else (keyS l x.Parts, nullS l x.Parts, 0)) := by
 unfold schema_Front
 rw [schema_keyed_eq t _ l hc hv (by have := r.par; omega) (parts_in r.pla) (by have := r.key; omega), bind_some']
def extV (l : List ApiValue) (cs : List Int) : List ApiValue := cs.map (vAt l)
def extC (cols : List ApiColumn) (cs : List Int) : List ApiColumn := cs.map (colAt cols)
theorem schema_extras_eq (t : ApiTable) (x : ApiIndex) (h : x.Extra.length ≤ 1048576) (hp : ∀ c ∈ x.Extra, 0 ≤ c ∧ c < t.Cols.length) : schema_extras t x = some (extC t.Cols x.Extra) := by
 unfold schema_extras
 refine lpA (w := extC t.Cols x.Extra) (lq1 (fun i => (extC t.Cols (x.Extra.take i), (i : Int))) x.Extra.length (fun i hi => ?_) ?_ rfl) rfl
 ·show (bif _ then _ else _) = _
  rw [bif_decT (by omega), getI_at hi, bind_some', colAt_eq (hp _ (List.getElem_mem hi)), bind_some', bif_decT (by rw [room_val]; simp [extC]; omega), w64_succ (by omega), show extC t.Cols (x.Extra.take (i + 1)) = _ from map_ts _ _ hi]
  rfl
 ·show (bif _ then _ else _) = _
  rw [bif_decF (by omega), List.take_length]
theorem ext_fit {cols : List ApiColumn} {l : List ApiValue} (h : Fit cols l) {cs : List Int} (hp : ∀ c ∈ cs, 0 ≤ c ∧ c < cols.length) (h1 : 1 ≤ cs.length) (h24 : cs.length ≤ 24) : Fit (extC cols cs) (extV l cs) := by
 refine ⟨?_, by simp [extV, extC], fun i k1 k2 => ?_⟩
 ·unfold colsS
  rw [decide_eq_true (by simp [extC]; omega), Bool.true_and, List.all_eq_true]
  intro c hc
  obtain ⟨j, hj, rfl⟩ := List.mem_map.1 hc
  simpa using h.num.2.2 _ (colAt_mem (hp j hj))
 ·simp only [extC, extV, List.getElem_map]
  exact h.at (hp _ (List.getElem_mem _))
theorem sum_nd (f : Nat → Int) (hf : ∀ i, 0 ≤ f i) : ∀ (n : Nat) (l : List Nat), l.Nodup → (∀ x ∈ l, x < n) → (l.map f).sum ≤ ((List.range n).map f).sum
 | 0, [], _, _ => by simp
 | 0, x :: l, _, h => absurd (h x (by simp)) (by omega)
 | n + 1, l, hd, h => by
  have h1 := sum_nd f hf n (l.erase n) (hd.erase n) (fun x hx => by
   have := (List.Nodup.mem_erase_iff hd).1 hx
   have := h x this.2
   omega)
  have e : (l.map f).sum ≤ ((l.erase n).map f).sum + f n := by
   clear h1 h hd
   induction l with
   | nil => have := hf n; simp; omega
   | cons x r ih =>
    rw [List.erase_cons]
    by_cases q : x = n
    ·subst q; simp; omega
    ·rw [if_neg (by simpa using q)]
     simp only [List.map_cons, List.sum_cons]
     omega
  rw [List.range_succ, List.map_append, List.sum_append]
  simp only [List.map_cons, List.map_nil, List.sum_cons, List.sum_nil]
  omega
theorem rowS_len {cols : List ApiColumn} {l : List ApiValue} (h : Fit cols l) : ((rowS l).length : Int) ≤ rowMaxS cols := by
 have key : ∀ (cs : List ApiColumn) (vs : List ApiValue), cs.length = vs.length → (∀ i (h1 : i < cs.length) (h2 : i < vs.length), colS cs[i] = 0 ∧ fitS cs[i] vs[i] = 0) → (((vs.map putS).flatten.length : Nat) : Int) ≤ (cs.map fun c => wideS c 1).sum := by
  intro cs
  induction cs with
  | nil => intro vs hl _; cases vs <;> simp at hl ⊢
  | cons c cs ih =>
   intro vs hl hh
   cases vs with
   | nil => simp at hl
   | cons v vs =>
    have h0 := hh 0 (by simp) (by simp)
    have h1 := ih vs (by simpa using hl) (fun i k1 k2 => by have := hh (i + 1) (by simpa using k1) (by simpa using k2); simpa using this)
    have h2 := (enc_wide h0.1 h0.2).2
    simp only [List.getElem_cons_zero] at h2
    simp only [List.map_cons, List.flatten_cons, List.sum_cons, List.length_append]
    omega
 have := key cols l h.len.symm (fun i k1 k2 => ⟨h.num.2.2 _ (List.getElem_mem _), h.fit i k1 k2⟩)
 unfold rowS rowMaxS
 rw [List.length_append, bytesN_len]
 omega
theorem ext_rowMax {cols : List ApiColumn} (hc : ∀ c ∈ cols, colS c = 0) {cs : List Int} (h : placesS cols.length cs = true) : rowMaxS (extC cols cs) ≤ rowMaxS cols := by
 have h1 := placesS_in h
 have h2 := placesS_nodup h
 have h3 : (cs.map Int.toNat).Nodup := by
  show List.Pairwise (· ≠ ·) _
  rw [List.pairwise_map]
  refine List.Pairwise.imp_of_mem ?_ h2
  intro a b ha hb hab e
  have := h1 a ha; have := h1 b hb
  omega
 have h4 : ∀ x ∈ cs.map Int.toNat, x < cols.length := by
  intro x hx
  obtain ⟨c, hc, rfl⟩ := List.mem_map.1 hx
  have := h1 c hc; omega
 have h5 := sum_nd (fun i => if h : i < cols.length then wideS cols[i] 1 else 0) (fun i => by
  split
  ·rename_i hi; exact (wideS_le (colS_max (hc _ (List.getElem_mem hi))) (.inl rfl)).1
  ·exact Int.le_refl 0) cols.length _ h3 h4
 unfold rowMaxS
 have e1 : (cs.map Int.toNat).map (fun i => if h : i < cols.length then wideS cols[i] 1 else 0) = (extC cols cs).map fun c => wideS c 1 := by
  unfold extC
  rw [List.map_map, List.map_map]
  refine List.map_congr_left fun c hm => ?_
  have := h1 c hm
  have hl : c.toNat < cols.length := by omega
  simp only [Function.comp, hl, dite_true, colAt, List.getElem?_eq_getElem hl]
  rfl
 have e2 : (List.range cols.length).map (fun i => if h : i < cols.length then wideS cols[i] 1 else 0) = cols.map fun c => wideS c 1 := by
  apply List.ext_getElem
  ·simp
  ·intro i k1 k2
   have hi : i < cols.length := by simpa using k1
   simp [hi]
 rw [e1, e2] at h5
 omega
def entS (t : ApiTable) (x : ApiIndex) (l : List ApiValue) : ApiPair := ⟨keyS l x.Parts ++ keyS l (upS t.Primary), if x.Extra = [] then [] else rowS (extV l x.Extra)⟩
theorem ok_ext {cols : List ApiColumn} (h : OkCs cols) {cs : List Int} (hp : ∀ c ∈ cs, 0 ≤ c ∧ c < cols.length) (h24 : cs.length ≤ 24) : OkCs (extC cols cs) := ⟨by simp [extC]; omega, fun c hc => by
 obtain ⟨j, hj, rfl⟩ := List.mem_map.1 hc
 exact h.2 _ (colAt_mem (hp j hj))⟩
theorem ok_extV {l : List ApiValue} (h : OkVs l) {cs : List Int} (hp : ∀ c ∈ cs, 0 ≤ c ∧ c < l.length) (h24 : cs.length ≤ 24) : OkVs (extV l cs) := ⟨by simp [extV]; omega, fun c hc => by
 obtain ⟨j, hj, rfl⟩ := List.mem_map.1 hc
 exact h.2 _ (vAt_mem (hp j hj))⟩
theorem schema_Entry_eq (t : ApiTable) (x : ApiIndex) (l : List ApiValue) (hc : OkCs t.Cols) (hv : OkVs l) (r : Right t) (rx : RightX t x) : schema_Entry t x l = some (if fitsS t.Cols l ≠ 0 then (fitsS t.Cols l, ⟨[], []⟩) else (0, entS t x l)) := by
 unfold schema_Entry
 rw [schema_Front_eq t x l hc hv rx]
 by_cases q : fitsS t.Cols l = 0
 rotate_left
 ·rw [if_pos q, if_pos q, bind_some']
  show (bif (fitsS t.Cols l != 0) then _ else _) = _
  rw [show (fitsS t.Cols l != 0) = true by simpa using q, cond_true]
 rw [if_neg (by simpa using q), if_neg (by simpa using q), bind_some']
 show (bif ((0 : Int) != 0) then _ else Option.bind (schema_Primary t l) _) = _
 rw [show ((0 : Int) != 0) = false from rfl, cond_false, schema_Primary_eq t l hc hv r, if_neg (by simpa using q), bind_some']
 have hf := Fit.of q
 have l1 := keyS_len hf (parts_in rx.pla)
 have l2 := keyS_len hf (up_in r.pla)
 have k1 := rx.key
 have k2 := r.key
 show (bif decide ((keyS l x.Parts).length + (keyS l (upS t.Primary)).length ≤ 9223372036854775807) then _ else _) = _
 rw [bif_decT (by omega)]
 have e24 := nodup_len rx.ext
 have hlen := r.len
 have hin := placesS_in rx.ext
 have hin' : ∀ c ∈ x.Extra, 0 ≤ c ∧ c < l.length := fun c h => by rw [hf.len]; exact hin c h
 refine bo (a := (0, entS t x l)) ?_ rfl
 by_cases he : x.Extra = []
 ·rw [bif_decF (by rw [he]; simp)]
  unfold entS
  rw [if_pos he]
 have hpos : 1 ≤ x.Extra.length := by
  cases hx : x.Extra with
  | nil => exact absurd hx he
  | cons a b => simp
 rw [bif_decT (by omega)]
 refine lpA (w := extV l x.Extra) (lq1 (fun i => (extV l (x.Extra.take i), (i : Int))) x.Extra.length (fun i hi => ?_) ?_ rfl) ?_
 ·show (bif _ then _ else _) = _
  rw [bif_decT (by omega), getI_at hi, bind_some', vAt_eq (hin' _ (List.getElem_mem hi)), bind_some', bif_decT (by rw [room_val]; simp [extV]; omega), w64_succ (by omega), show extV l (x.Extra.take (i + 1)) = _ from map_ts _ _ hi]
  rfl
 ·show (bif _ then _ else _) = _
  rw [bif_decF (by omega), List.take_length]
 ·have ef := ext_fit hf hin hpos (by omega)
  have eq := ef.to
  have er := rowS_len ef
  have em := ext_rowMax r.col rx.ext
  have rr := r.row
  rw [schema_extras_eq t x (by omega) hin, bind_some', row_Encode_eq _ _ (ok_ext hc hin (by omega)) (ok_extV hv hin' (by omega)) (fun _ => ef.short) (fun _ => by simp [extV]; omega), if_neg (by simpa using eq), if_neg (by omega), bind_some']
  unfold entS
  rw [if_neg he]
def undS (s : List UInt8) : ApiSpan := match afterL s with
 | some a => ⟨s, a, false⟩
 | none => ⟨s, [], true⟩
theorem Under_eq (s : List UInt8) (h : s.length < 4611686018427387904) : key_Under s = some (undS s) := by
 unfold key_Under undS
 rw [After_eq s h, bind_some']
 cases afterL s <;> rfl
end Lv
namespace Lv
open Go Go.Proofs
variable [BaseTab]
variable [BaseTab]
variable [BaseTab]
end Lv
namespace Lv
open Go Go.Proofs
variable [BaseTab]
def sgI (a b : Int) : Int := if a < b then -1 else if b < a then 1 else 0
theorem Compare_int_eq (a b : Int) : cmp_Compare_int a b = some (sgI a b) := by
 unfold cmp_Compare_int sgI
 rw [show cmp_isNaN_int a = some () from rfl, bind_some', show cmp_isNaN_int b = some () from rfl, bind_some', show (a != a) = false by simp, cond_false, show (b != b) = false by simp, cond_false]
 by_cases h : a < b
 ·rw [bif_decT h, if_pos h]
 ·rw [bif_decF h, if_neg h]
  by_cases k : b < a
  ·rw [bif_decT k, if_pos k]
  ·rw [bif_decF k, if_neg k]
theorem Compare_int64_eq (a b : Int) : cmp_Compare_int64 a b = some (sgI a b) := by
 unfold cmp_Compare_int64 sgI
 rw [show cmp_isNaN_int64 a = some () from rfl, bind_some', show cmp_isNaN_int64 b = some () from rfl, bind_some', show (a != a) = false by simp, cond_false, show (b != b) = false by simp, cond_false]
 by_cases h : a < b
 ·rw [bif_decT h, if_pos h]
 ·rw [bif_decF h, if_neg h]
  by_cases k : b < a
  ·rw [bif_decT k, if_pos k]
  ·rw [bif_decF k, if_neg k]
theorem Compare_u64_eq (a b : UInt64) : cmp_Compare_uint64 a b = some (sgI a.toNat b.toNat) := by
 unfold cmp_Compare_uint64 sgI
 rw [show cmp_isNaN_uint64 a = some () from rfl, bind_some', show cmp_isNaN_uint64 b = some () from rfl, bind_some', show (a != a) = false by simp, cond_false, show (b != b) = false by simp, cond_false]
 by_cases h : a < b
 ·rw [bif_decT h, if_pos (by have := UInt64.lt_iff_toNat_lt.1 h; omega)]
 ·rw [bif_decF h, if_neg (by have : ¬ a.toNat < b.toNat := fun q => h (UInt64.lt_iff_toNat_lt.2 q); omega)]
  by_cases k : b < a
  ·rw [bif_decT k, if_pos (by have := UInt64.lt_iff_toNat_lt.1 k; omega)]
  ·rw [bif_decF k, if_neg (by have : ¬ b.toNat < a.toNat := fun q => k (UInt64.lt_iff_toNat_lt.2 q); omega)]
theorem Or3_eq (a b c : Int) : cmp_Or_int [a, b, c] = some (if a ≠ 0 then a else if b ≠ 0 then b else c) := by
 unfold cmp_Or_int
 refine lpE (lq2 [a, b, c] (fun v => if v ≠ 0 then some (.inr v : Unit ⊕ Int) else none) (.inl ()) (fun i => (i : Int)) (fun i hi => ?_) ?_ rfl) ?_
 ·show (bif _ then _ else _) = _
  rw [bif_decT (by omega), getI_at hi, bind_some', w64_succ (by simp at hi; omega)]
  by_cases q : [a, b, c][i] = 0
  ·rw [show ([a, b, c][i] != 0) = false by simpa using q, cond_false, if_neg (by simpa using q)]
  ·rw [show ([a, b, c][i] != 0) = true by simpa using q, cond_true, if_pos q]
 ·show (bif _ then _ else _) = _
  rw [bif_decF (by omega)]
 ·simp only [List.findSome?]
  by_cases ha : a = 0
  ·by_cases hb : b = 0
   ·by_cases hc : c = 0
    ·simp [ha, hb, hc]
    ·simp [ha, hb, hc]
   ·simp [ha, hb]
  ·simp [ha]
def cmpD (a b : ApiValue) : Int := if sgI a.Kind b.Kind = 0 ∧ a.Kind = 1 then sgI (i64u a.N) (i64u b.N) else sgI a.Kind b.Kind
def cmpV (a b : ApiValue) : Int := if cmpD a b ≠ 0 then cmpD a b else if sgI a.N.toNat b.N.toNat ≠ 0 then sgI a.N.toNat b.N.toNat else Go.Lib.compareBytes a.S b.S
theorem value_Cmp_eq (a b : ApiValue) : value_Cmp_1 a b = some (cmpV a b) := by
 unfold value_Cmp_1 cmpV
 rw [Compare_int_eq, bind_some']
 refine bo (a := cmpD a b) ?_ ?_
 ·unfold cmpD
  refine bo (a := decide (sgI a.Kind b.Kind = 0 ∧ a.Kind = 1)) ?_ ?_
  ·by_cases q : sgI a.Kind b.Kind = 0
   ·rw [show (sgI a.Kind b.Kind == 0) = true by simpa using q, cond_true]; simp [q, Bool.beq_eq_decide_eq]
   ·rw [show (sgI a.Kind b.Kind == 0) = false by simpa using q, cond_false]; simp [q]
  ·by_cases q : sgI a.Kind b.Kind = 0 ∧ a.Kind = 1
   ·rw [decide_eq_true q, cond_true, if_pos q, Compare_int64_eq, bind_some']
   ·rw [decide_eq_false q, cond_false, if_neg q]
 ·rw [Compare_u64_eq, bind_some', show cmpF a.S b.S = some (Go.Lib.compareBytes a.S b.S) from rfl, bind_some', Or3_eq, bind_some']
def takN (n : PredNode) : Nat := if n.Kind = 4 ∨ n.Kind = 5 then 2 else if n.Kind = 6 then 1 else 0
theorem takes_eq (n : PredNode) : pred_Node_takes n = some (takN n : Int) := by
 unfold pred_Node_takes takN
 refine bo (a := decide (n.Kind = 4 ∨ n.Kind = 5)) ?_ ?_
 ·by_cases h : n.Kind = 4
  ·simp [h]
  ·rw [show (n.Kind == 4) = false by simpa using h]; simp [h, Bool.beq_eq_decide_eq]
 ·by_cases h : n.Kind = 4 ∨ n.Kind = 5
  ·rw [decide_eq_true h, if_pos h]; rfl
  ·rw [decide_eq_false h, if_neg h]
   by_cases k : n.Kind = 6
   ·rw [show (n.Kind == 6) = true by simpa using k, if_pos k]; rfl
   ·rw [show (n.Kind == 6) = false by simpa using k, if_neg k]; rfl
theorem takN_le (n : PredNode) : takN n ≤ 2 := by unfold takN; split <;> (try split) <;> omega
inductive PT where
 | leaf (n : PredNode)
 | un (n : PredNode) (a : PT)
 | bin (n : PredNode) (a b : PT)
def flat : PT → List PredNode
 | .leaf n => [n]
 | .un n a => flat a ++ [n]
 | .bin n a b => flat a ++ (flat b ++ [n])
def okTr : PT → Prop
 | .leaf n => takN n = 0
 | .un n a => takN n = 1 ∧ okTr a
 | .bin n a b => takN n = 2 ∧ okTr a ∧ okTr b
def flats : List PT → List PredNode
 | [] => []
 | t :: ts => flats ts ++ flat t
def stk : List PredNode → Nat → Option Nat
 | [], k => some k
 | n :: r, k => if takN n ≤ k then stk r (k - takN n + 1) else none
theorem stk_trees : ∀ (p : List PredNode) (ts : List PT) (k : Nat), (∀ t ∈ ts, okTr t) → stk p ts.length = some k → ∃ us : List PT, (∀ t ∈ us, okTr t) ∧ us.length = k ∧ flats us = flats ts ++ p
 | [], ts, k, h, hs => by
  simp only [stk, Option.some.injEq] at hs
  exact ⟨ts, h, hs, by simp⟩
 | n :: r, ts, k, h, hs => by
  rw [stk] at hs
  split at hs
  ·rename_i hle
   have h2 := takN_le n
   rcases (by omega : takN n = 0 ∨ takN n = 1 ∨ takN n = 2) with e | e | e
   ·obtain ⟨us, h1, h2, h3⟩ := stk_trees r (.leaf n :: ts) k (fun t ht => by
     rcases List.mem_cons.1 ht with rfl | ht
     ·exact e
     ·exact h t ht) (by rw [e] at hs; simpa using hs)
    exact ⟨us, h1, h2, by rw [h3]; simp [flats, flat]⟩
   ·match ts, h, hs, hle with
    | a :: ts, h, hs, _ =>
     obtain ⟨us, h1, h2, h3⟩ := stk_trees r (.un n a :: ts) k (fun t ht => by
      rcases List.mem_cons.1 ht with rfl | ht
      ·exact ⟨e, h a (by simp)⟩
      ·exact h t (by simp [ht])) (by rw [e] at hs; simpa using hs)
     exact ⟨us, h1, h2, by rw [h3]; simp [flats, flat]⟩
    | [], _, _, hle => simp at hle; omega
   ·match ts, h, hs, hle with
    | b :: a :: ts, h, hs, _ =>
     obtain ⟨us, h1, h2, h3⟩ := stk_trees r (.bin n a b :: ts) k (fun t ht => by
      rcases List.mem_cons.1 ht with rfl | ht
      ·exact ⟨e, h a (by simp), h b (by simp)⟩
      ·exact h t (by simp [ht])) (by rw [e] at hs; simpa using hs)
     exact ⟨us, h1, h2, by rw [h3]; simp [flats, flat]⟩
    | [_], _, _, hle => simp at hle; omega
    | [], _, _, hle => simp at hle; omega
  ·cases hs
theorem stk_tree {p : List PredNode} (h : stk p 0 = some 1) : ∃ t, okTr t ∧ flat t = p := by
 obtain ⟨us, h1, h2, h3⟩ := stk_trees p [] 1 (by simp) h
 match us, h2 with
 | [t], _ => exact ⟨t, h1 t (by simp), by simpa [flats] using h3⟩
theorem flat_pos : ∀ t : PT, 0 < (flat t).length
 | .leaf n => by simp [flat]
 | .un n a => by simp [flat]
 | .bin n a b => by simp [flat] <;> omega
def formS (n : PredNode) (c : Int) : Bool :=
 if n.Kind = 2 then decide (0 ≤ n.Col ∧ n.Col < c ∧ 1 ≤ n.Op ∧ n.Op ≤ 6)
 else if n.Kind = 3 then decide (0 ≤ n.Col ∧ n.Col < c ∧ n.Op = 0 ∧ n.Val = ⟨0, 0, []⟩)
 else decide ((n.Kind = 1 ∨ n.Kind = 4 ∨ n.Kind = 5 ∨ n.Kind = 6) ∧ n = ⟨n.Kind, 0, 0, ⟨0, 0, []⟩⟩)
theorem eqV20 (v w : ApiValue) : eqApiValue v w = decide (v = w) := by
 cases v; cases w
 rw [Bool.eq_iff_iff]
 simp [eqApiValue]
theorem eqN20 (v w : PredNode) : eqPredNode v w = decide (v = w) := by
 cases v; cases w
 rw [Bool.eq_iff_iff]
 simp [eqPredNode, eqV20]
theorem form_eq (n : PredNode) (c : Int) : pred_Node_form n c = some (formS n c) := by
 unfold pred_Node_form formS
 by_cases h2 : n.Kind = 2
 ·rw [show (n.Kind == 2) = true by simpa using h2, if_pos h2]
  refine bo (a := decide (0 ≤ n.Col ∧ n.Col < c ∧ 1 ≤ n.Op ∧ n.Op ≤ 6)) ?_ rfl
  by_cases a1 : n.Col ≥ 0
  ·by_cases a2 : n.Col < c
   ·by_cases a3 : n.Op ≥ 1
    ·rw [bif_decT a1, bif_decT a2, bif_decT a3]; congr 1; exact decI (by omega)
    ·rw [bif_decT a1, bif_decT a2, bif_decF a3]; congr 1; exact (decide_eq_false (by omega)).symm
   ·rw [bif_decT a1, bif_decF a2]; congr 1; exact (decide_eq_false (by omega)).symm
  ·rw [bif_decF a1]; congr 1; exact (decide_eq_false (by omega)).symm
 rw [show (n.Kind == 2) = false by simpa using h2, if_neg h2]
 refine bf rfl ?_
 by_cases h3 : n.Kind = 3
 ·rw [show (n.Kind == 3) = true by simpa using h3, if_pos h3]
  refine bo (a := decide (0 ≤ n.Col ∧ n.Col < c ∧ n.Op = 0 ∧ n.Val = ⟨0, 0, []⟩)) ?_ rfl
  by_cases a1 : n.Col ≥ 0
  ·by_cases a2 : n.Col < c
   ·by_cases a3 : n.Op = 0
    ·rw [bif_decT a1, bif_decT a2, show (n.Op == 0) = true by simpa using a3]
     refine bt rfl ?_
     rw [eqV20]; congr 1; exact decI (by simp [a1, a2, a3])
    ·rw [bif_decT a1, bif_decT a2, show (n.Op == 0) = false by simpa using a3]; refine bf rfl ?_; congr 1; symm; rw [decide_eq_false_iff_not]; rintro ⟨_, _, q, _⟩; exact a3 q
   ·rw [bif_decT a1, bif_decF a2]; congr 1; symm; rw [decide_eq_false_iff_not]; rintro ⟨_, q, _⟩; exact a2 q
  ·rw [bif_decF a1]; congr 1; symm; rw [decide_eq_false_iff_not]; rintro ⟨q, _⟩; exact a1 q
 rw [show (n.Kind == 3) = false by simpa using h3, if_neg h3]
 refine bf rfl ?_
 refine bo (a := decide (n.Kind = 1 ∨ n.Kind = 4 ∨ n.Kind = 5 ∨ n.Kind = 6)) ?_ ?_
 ·by_cases b1 : n.Kind = 1
  ·simp [b1]
  by_cases b4 : n.Kind = 4
  ·simp [b4]
  by_cases b5 : n.Kind = 5
  ·simp [b5]
  rw [show (n.Kind == 1) = false by simpa using b1, show (n.Kind == 4) = false by simpa using b4, show (n.Kind == 5) = false by simpa using b5]
  simp [b1, b4, b5, Bool.beq_eq_decide_eq]
 ·by_cases q : n.Kind = 1 ∨ n.Kind = 4 ∨ n.Kind = 5 ∨ n.Kind = 6
  ·rw [decide_eq_true q]
   refine bt rfl ?_
   rw [eqN20]; congr 1; exact decI (by simp [q])
  ·rw [decide_eq_false q]; refine bf rfl ?_; congr 1; symm; rw [decide_eq_false_iff_not]; rintro ⟨r, _⟩; exact q r
def colK (cols : List ApiColumn) (i : Int) : Int := ((cols[i.toNat]?).map ApiColumn.Kind).getD 0
def typeS (cols : List ApiColumn) (n : PredNode) : Bool := decide (n.Kind = 2 ∧ (val n.Val = false ∨ n.Val.Kind = 0 ∨ n.Val.Kind ≠ colK cols n.Col))
def maxL (l : List Int) : Int := l.foldl max 0
def stepC (cols : List ApiColumn) (s : List Int) (n : PredNode) : List Int ⊕ (List Int ⊕ Int) :=
 if formS n cols.length = false ∨ s.length < takN n then .inr (.inr 1)
 else if typeS cols n = true then .inr (.inr 8)
 else .inl (s.take (s.length - takN n) ++ [maxL (s.drop (s.length - takN n)) + 1])
def checkS (cols : List ApiColumn) (p : List PredNode) : Int :=
 if p.length > 200 then 7 else match foldE (stepC cols) .inl [] p with
  | .inr e => e
  | .inl s => if s.length ≠ 1 then 1 else if s.headD 0 > 24 then 7 else 0
def OkN (n : PredNode) : Prop := n.Val.S.length < 4611686018427387904
theorem maxL_le {l : List Int} {b : Int} (hb : 0 ≤ b) (h : ∀ d ∈ l, d ≤ b) : 0 ≤ maxL l ∧ maxL l ≤ b := by
 unfold maxL
 have : ∀ (l : List Int) (a : Int), 0 ≤ a → a ≤ b → (∀ d ∈ l, d ≤ b) → 0 ≤ l.foldl max a ∧ l.foldl max a ≤ b := by
  intro l
  induction l with
  | nil => intro a h1 h2 _; exact ⟨h1, h2⟩
  | cons x l ih =>
   intro a h1 h2 h3
   rw [List.foldl_cons]
   have := h3 x (by simp)
   exact ih _ (by omega) (by omega) (fun d hd => h3 d (by simp [hd]))
 exact this l 0 (by omega) hb h
theorem getS_at {α : Type} {xs : List α} {off len i : Nat} (h : i < len) (h2 : off + i < xs.length) : getS xs off len (i : Int) = some xs[off + i] := by
 unfold getS
 rw [if_pos (by omega), Int.toNat_natCast, List.getElem?_eq_getElem h2]
theorem sub_nat {a b : Nat} (h : b ≤ a) (ha : a < 9223372036854775808) : w64 ((a : Int) - (b : Int)) = ((a - b : Nat) : Int) := by
 rw [show ((a : Int) - (b : Int)) = ((a - b : Nat) : Int) by omega]
 exact w64_nat (by omega)
theorem Check_eq (cols : List ApiColumn) (p : List PredNode) (hc : cols.length < 4611686018427387904) (hp : ∀ n ∈ p, OkN n) : pred_Check cols p = some (checkS cols p) := by
  unfold pred_Check checkS
  by_cases h2 : p.length > 200
  · rw [bif_decT (by omega), if_pos h2]
  rw [bif_decF (by omega), if_neg h2]
  refine lpE (lq4 p (fun i s => (s, (i : Int))) (stepC cols) .inl (fun i s => s.length ≤ i ∧ ∀ d ∈ s, 0 ≤ d ∧ d ≤ i) [] (fun i s hi hI => ⟨?_, fun s' hs => ?_⟩) (fun s hI => ?_) ⟨by simp, by simp⟩ rfl) ?_
  · obtain ⟨I1, I2⟩ := hI
    show (bif _ then _ else _) = _
    rw [bif_decT (by omega)]
    have hn := hp _ (List.getElem_mem hi)
    generalize hn' : p[i] = n at hn
    have ht := takN_le n
    have tyq : formS n cols.length = true → (bif (n.Kind == (2 : Int)) then
                    Option.bind (value_Valid n.Val) fun r1444 =>
                    bif (!r1444) then
                      some true
                    else
                      bif (n.Val.Kind == (0 : Int)) then
                        some true
                      else
                        Option.bind (getI cols n.Col) fun v1445 =>
                        some (n.Val.Kind != v1445.Kind)
                  else
                    some false) = some (typeS cols n) := by
      intro hf
      unfold typeS
      by_cases k2 : n.Kind = 2
      · rw [show (n.Kind == 2) = true by simpa using k2, value_Valid_eq n.Val hn]
        refine bt rfl ?_
        rw [bind_some']
        cases hv : val n.Val with
        | false => simp [k2]
        | true =>
          refine bf rfl ?_
          by_cases k0 : n.Val.Kind = 0
          · simp [k2, k0]
          · rw [show (n.Val.Kind == 0) = false by simpa using k0]
            refine bf rfl ?_
            unfold formS at hf
            rw [if_pos k2, decide_eq_true_eq] at hf
            have hl : n.Col.toNat < cols.length := by omega
            have hg : getI cols n.Col = some cols[n.Col.toNat] := by
              unfold getI
              rw [if_pos hf.1, List.getElem?_eq_getElem hl]
            rw [hg, bind_some']
            congr 1
            unfold colK
            rw [List.getElem?_eq_getElem hl]
            simp [k2, k0, bne, Bool.beq_eq_decide_eq]
      · rw [show (n.Kind == 2) = false by simpa using k2]
        refine bf rfl ?_
        simp [k2]
    have hk : ∀ {R : Type} {f : PredNode → Option R} {r : Option R}, f n = r → Option.bind (getI p (i : Int)) f = r := fun h => bo (by rw [getI_at hi, hn']) h
    have hw : w64 ((s.length : Int) - (takN n : Int)) = (s.length : Int) - (takN n : Int) := w64_id (by omega) (by omega)
    unfold stepC
    by_cases q : formS n cols.length = false ∨ s.length < takN n
    · rw [if_pos q]
      refine beE (x := 1) ?_ rfl
      refine hk ?_
      refine bo (takes_eq n) ?_
      refine bo (a := true) ?_ rfl
      refine bo (form_eq n _) ?_
      rcases q with q | q
      · rw [q]; rfl
      · cases formS n cols.length with
        | false => rfl
        | true =>
          refine bf rfl ?_
          rw [hw, decide_eq_true (by omega)]
    · rw [if_neg q]
      simp only [not_or, Bool.not_eq_false, Nat.not_lt] at q
      have tyq := tyq q.1
      by_cases ty : typeS cols n = true
      · rw [if_pos ty]
        refine beE (x := 8) ?_ rfl
        refine hk ?_
        refine bo (takes_eq n) ?_
        refine bo (a := false) ?_ ?_
        · refine bo (form_eq n _) ?_
          rw [q.1]
          refine bf rfl ?_
          rw [hw, decide_eq_false (by omega)]
        refine bf rfl ?_
        refine bo (a := true) ?_ rfl
        exact (tyq.trans (by rw [ty]))
      · rw [if_neg ty]
        have ty' : typeS cols n = false := by simpa using ty
        generalize hpile : s.take (s.length - takN n) ++ [maxL (s.drop (s.length - takN n)) + 1] = pile
        refine beY (y := pile) ?_ ?_
        · refine hk ?_
          refine bo (takes_eq n) ?_
          refine bo (a := false) ?_ ?_
          · refine bo (form_eq n _) ?_
            rw [q.1]
            refine bf rfl ?_
            rw [hw, decide_eq_false (by omega)]
          refine bf rfl ?_
          refine bo (a := false) (tyq.trans (by rw [ty'])) ?_
          refine bf rfl ?_
          rw [sub_nat q.2 (by omega), Int.toNat_natCast]
          refine bo (a := maxL (s.drop (s.length - takN n))) ?_ ?_
          · refine gt (by omega) ?_
            refine bo (a := maxL (s.drop (s.length - takN n))) (lq1 (fun j => (maxL ((s.drop (s.length - takN n)).take j), (j : Int))) (takN n) (fun j hj => ?_) ?_ rfl) rfl
            · show (bif _ then _ else _) = _
              rw [bif_decT (by omega), getS_at (by omega) (by omega), bind_some', w64_succ (by omega)]
              have e1 : (s.drop (s.length - takN n)).take (j + 1) = (s.drop (s.length - takN n)).take j ++ [s[0 + (s.length - takN n) + j]] := by
                rw [List.take_add_one, List.getElem?_drop, List.getElem?_eq_getElem (by omega)]
                simp
              rw [e1]
              unfold maxL
              rw [List.foldl_append]
              rfl
            · show (bif _ then _ else _) = _
              rw [bif_decF (by omega), List.take_of_length_le (by simp; omega)]
          · have hm := maxL_le (l := s.drop (s.length - takN n)) (b := i) (by omega) fun d hd => (I2 d (List.mem_of_mem_drop hd)).2
            refine gt (by omega) ?_
            refine gt (by omega) ?_
            rw [w64_id (n := maxL (s.drop (s.length - takN n)) + 1) (by omega) (by omega)]
            refine gt (by show (s.length - takN n + 1) * 8 ≤ room; rw [room_val]; omega) ?_
            rw [List.drop_zero, hpile]
        · show some (Sum.inl (_, _)) = _
          rw [w64_succ (by omega)]; rfl
  · obtain ⟨I1, I2⟩ := hI
    unfold stepC at hs
    split at hs
    · cases hs
    · rename_i q
      split at hs
      · cases hs
      · simp only [not_or, Bool.not_eq_false, Nat.not_lt] at q
        obtain rfl := Sum.inl.inj hs
        have ht := takN_le p[i]
        have hm := maxL_le (l := s.drop (s.length - takN p[i])) (b := i) (by omega) fun d hd => (I2 d (List.mem_of_mem_drop hd)).2
        refine ⟨by simp; omega, fun d hd => ?_⟩
        rcases List.mem_append.1 hd with hd | hd
        · have := I2 d (List.mem_of_mem_take hd); omega
        · obtain rfl : d = _ := by simpa using hd
          omega
  · show (bif _ then _ else _) = _
    rw [bif_decF (by omega)]
  · cases foldE (stepC cols) .inl [] p with
    | inr e => rfl
    | inl s =>
      show (bif ((s.length : Int) != 1) then _ else _) = some (if s.length ≠ 1 then 1 else if s.headD 0 > 24 then 7 else 0)
      by_cases h1 : s.length ≠ 1
      · rw [if_pos h1, show ((s.length : Int) != 1) = true by simp; omega]; rfl
      · rw [if_neg h1, show ((s.length : Int) != 1) = false by simp; omega]
        refine bf rfl ?_
        match s, h1 with
        | [d], _ =>
          refine bo (a := d) rfl ?_
          show (bif decide (d > 24) then _ else _) = some (if d > 24 then 7 else 0)
          by_cases h24 : d > 24
          · rw [bif_decT h24, if_pos h24]
          · rw [bif_decF h24, if_neg h24]
        | [], h1 => simp at h1
        | _ :: _ :: _, h1 => simp at h1
theorem foldC_ok (cols : List ApiColumn) : ∀ (p : List PredNode) (s s' : List Int), foldE (stepC cols) (.inl : List Int → List Int ⊕ Int) s p = .inl s' → (∀ n ∈ p, formS n cols.length = true ∧ typeS cols n = false) ∧ stk p s.length = some s'.length
 | [], s, s', h => by
  obtain rfl := Sum.inl.inj h
  exact ⟨by simp, rfl⟩
 | n :: p, s, s', h => by
  have ht := takN_le n
  unfold foldE stepC at h
  by_cases q : formS n cols.length = false ∨ s.length < takN n
  ·rw [if_pos q] at h; cases h
  rw [if_neg q] at h
  by_cases ty : typeS cols n = true
  ·rw [if_pos ty] at h; cases h
  rw [if_neg ty] at h
  simp only [not_or, Bool.not_eq_false, Nat.not_lt] at q
  obtain ⟨h1, h2⟩ := foldC_ok cols p _ s' h
  refine ⟨fun m hm => ?_, ?_⟩
  ·rcases List.mem_cons.1 hm with rfl | hm
   ·exact ⟨q.1, by simpa using ty⟩
   ·exact h1 m hm
  ·rw [stk, if_pos q.2, ← h2]
   congr 1
   rw [List.length_append, List.length_take, List.length_singleton]
   omega
theorem check_ok {cols : List ApiColumn} {p : List PredNode} (h : checkS cols p = 0) : p.length ≤ 200 ∧ (∀ n ∈ p, formS n cols.length = true ∧ typeS cols n = false) ∧ ∃ t, okTr t ∧ flat t = p := by
 unfold checkS at h
 by_cases h2 : p.length > 200
 ·rw [if_pos h2] at h; cases h
 rw [if_neg h2] at h
 refine ⟨by omega, ?_⟩
 split at h
 ·rename_i e he
  have : ∀ (p : List PredNode) (s : List Int) (e : Int), foldE (stepC cols) (.inl : List Int → List Int ⊕ Int) s p = .inr e → e = 1 ∨ e = 8 := by
   intro p
   induction p with
   | nil => intro s e h; cases h
   | cons n p ih =>
    intro s e h
    unfold foldE stepC at h
    split at h
    ·exact .inl (Sum.inr.inj h).symm
    ·split at h
     ·exact .inr (Sum.inr.inj h).symm
     ·exact ih _ _ h
  have := this p [] e he
  omega
 ·rename_i s hs
  by_cases h1 : s.length ≠ 1
  ·rw [if_pos h1] at h; cases h
  obtain ⟨k1, k2⟩ := foldC_ok cols p [] s hs
  have : s.length = 1 := by omega
  rw [this] at k2
  exact ⟨k1, stk_tree k2⟩
def holdS (op c : Int) : Bool :=
 if op = 1 then decide (c < 0) else if op = 2 then decide (c ≤ 0) else if op = 3 then decide (c = 0) else if op = 4 then decide (c ≥ 0) else if op = 5 then decide (c > 0) else decide (c ≠ 0)
def cmpN (n : PredNode) (v : ApiValue) : Bool := if v.Kind = 0 then false else holdS n.Op (cmpV v n.Val)
def leafV (row : List ApiValue) (n : PredNode) : Bool := if n.Kind = 2 then cmpN n (vAt row n.Col) else if n.Kind = 3 then decide ((vAt row n.Col).Kind = 0) else true
def valT (row : List ApiValue) : PT → Bool
 | .leaf n => leafV row n
 | .un n a => !valT row a
 | .bin n a b => if n.Kind = 4 then valT row a && valT row b else valT row a || valT row b
theorem compares_eq (n : PredNode) (v : ApiValue) : pred_Node_compares n v = some (cmpN n v) := by
 unfold pred_Node_compares cmpN
 by_cases h0 : v.Kind = 0
 ·rw [show (v.Kind == 0) = true by simpa using h0, if_pos h0]; rfl
 rw [show (v.Kind == 0) = false by simpa using h0, if_neg h0]
 refine bf rfl ?_
 refine bo (value_Cmp_eq v n.Val) ?_
 generalize cmpV v n.Val = c
 unfold holdS
 by_cases h1 : n.Op = 1
 ·rw [show (n.Op == 1) = true by simpa using h1, if_pos h1]; rfl
 rw [show (n.Op == 1) = false by simpa using h1, if_neg h1]
 refine bf rfl ?_
 by_cases h1 : n.Op = 2
 ·rw [show (n.Op == 2) = true by simpa using h1, if_pos h1]; rfl
 rw [show (n.Op == 2) = false by simpa using h1, if_neg h1]
 refine bf rfl ?_
 by_cases h1 : n.Op = 3
 ·rw [show (n.Op == 3) = true by simpa using h1, if_pos h1]; refine bt rfl ?_; rw [Bool.beq_eq_decide_eq]
 rw [show (n.Op == 3) = false by simpa using h1, if_neg h1]
 refine bf rfl ?_
 by_cases h1 : n.Op = 4
 ·rw [show (n.Op == 4) = true by simpa using h1, if_pos h1]; rfl
 rw [show (n.Op == 4) = false by simpa using h1, if_neg h1]
 refine bf rfl ?_
 by_cases h1 : n.Op = 5
 ·rw [show (n.Op == 5) = true by simpa using h1, if_pos h1]; rfl
 rw [show (n.Op == 5) = false by simpa using h1, if_neg h1]
 refine bf rfl ?_
 simp [bne, Bool.beq_eq_decide_eq]
def nodeR (row : List ApiValue) (n : PredNode) : Prop := (n.Kind = 1 ∨ n.Kind = 2 ∨ n.Kind = 3 ∨ n.Kind = 4 ∨ n.Kind = 5 ∨ n.Kind = 6) ∧ ((n.Kind = 2 ∨ n.Kind = 3) → 0 ≤ n.Col ∧ n.Col < row.length)
theorem nodeR_form {row : List ApiValue} {n : PredNode} (h : formS n row.length = true) : nodeR row n := by
 unfold formS at h
 unfold nodeR
 by_cases h2 : n.Kind = 2
 ·rw [if_pos h2, decide_eq_true_eq] at h
  exact ⟨.inr (.inl h2), fun _ => ⟨h.1, h.2.1⟩⟩
 rw [if_neg h2] at h
 by_cases h3 : n.Kind = 3
 ·rw [if_pos h3, decide_eq_true_eq] at h
  exact ⟨.inr (.inr (.inl h3)), fun _ => ⟨h.1, h.2.1⟩⟩
 rw [if_neg h3, decide_eq_true_eq] at h
 exact ⟨by rcases h.1 with h | h | h | h <;> simp [h], fun k => by rcases k with k | k <;> contradiction⟩
theorem Eval_eq (t : PT) (row : List ApiValue) (ht : okTr t) (hl : (flat t).length ≤ 1000000) (hn : ∀ n ∈ flat t, nodeR row n) : pred_Eval (flat t) row = some (valT row t) := by
  unfold pred_Eval
  refine bo (a := ()) rfl ?_
  refine lpA (w := [valT row t]) (nmB fun B hB => ?_) rfl
  generalize hp : flat t = p at hB hl hn
  -- one node
  have step : ∀ (i : Nat) (hi : i < p.length) (pile kids : List Bool) (v : Bool), kids.length = takN p[i] → (pile ++ kids).length ≤ i →
      (p[i].Kind = 1 → v = true) → (p[i].Kind = 2 → v = cmpN p[i] (vAt row p[i].Col)) → (p[i].Kind = 3 → v = decide ((vAt row p[i].Col).Kind = 0)) →
      (p[i].Kind = 4 → ∀ a b, kids = [a, b] → v = (a && b)) → (p[i].Kind = 5 → ∀ a b, kids = [a, b] → v = (a || b)) → (p[i].Kind = 6 → ∀ a, kids = [a] → v = !a) →
      B (pile ++ kids, (i : Int)) = some (.inl (pile ++ [v], ((i + 1 : Nat) : Int))) := by
    intro i hi pile kids v hk hlen h1 h2 h3 h4 h5 h6
    have hnode := hn _ (List.getElem_mem hi)
    rw [hB]
    show (bif _ then _ else _) = _
    rw [bif_decT (by omega)]
    refine bo (getI_at hi) ?_
    generalize p[i] = n at *
    refine bo (takes_eq n) ?_
    have htk := takN_le n
    rw [List.length_append] at hlen
    rw [sub_nat (a := (pile ++ kids).length) (b := takN n) (by simp; omega) (by simp; omega), Int.toNat_natCast]
    have hfrom : (pile ++ kids).length - takN n = pile.length := by simp; omega
    rw [hfrom]
    have g1 : 0 ≤ (pile.length : Int) ∧ (pile.length : Int) ≤ ((pile ++ kids).length : Int) := by rw [List.length_append]; omega
    refine gt g1 ?_
    have tail : ∀ {w : Bool}, w = v → (bif decide (0 + pile.length ≤ (pile ++ kids).length) then
            (bif decide ((pile.length + [w].length) * 1 ≤ room) then
            some (Sum.inl ((List.take pile.length (List.drop 0 (pile ++ kids)) ++ [w]), (w64 ((i : Int) + (1 : Int)))))
            else none)
            else none : Option ((List Bool × Int) ⊕ List Bool)) = some (.inl (pile ++ [v], ((i + 1 : Nat) : Int))) := by
      rintro w rfl
      rw [bif_decT (by simp), bif_decT (by show (pile.length + 1) * 1 ≤ room; rw [room_val]; omega), w64_succ (by omega), List.drop_zero, List.take_left]
    have col : n.Kind = 2 ∨ n.Kind = 3 → getI row n.Col = some (vAt row n.Col) := fun k => vAt_eq (hnode.2 k)
    have kid : ∀ (j : Nat) (hj : j < kids.length), getS (pile ++ kids) (0 + pile.length) ((pile ++ kids).length - pile.length) (j : Int) = some kids[j] := by
      intro j hj
      rw [getS_at (by simp; omega) (by simp; omega)]
      simp
    rcases hnode.1 with e | e | e | e | e | e
    · refine bt (by simpa using e) ?_
      refine gt g1 ?_
      refine bo (a := ()) rfl ?_
      exact tail (h1 e).symm
    · refine bf (by simp [e]) ?_
      refine bt (by simpa using e) ?_
      refine gt g1 ?_
      refine bo (a := v) ?_ (tail rfl)
      refine bo (col (.inl e)) ?_
      refine bo (compares_eq n _) ?_
      rw [h2 e]
    · refine bf (by simp [e]) ?_
      refine bf (by simp [e]) ?_
      refine bt (by simpa using e) ?_
      refine gt g1 ?_
      refine bo (a := v) ?_ (tail rfl)
      refine bo (col (.inr e)) ?_
      rw [h3 e, Bool.beq_eq_decide_eq]
    · refine bf (by simp [e]) ?_
      refine bf (by simp [e]) ?_
      refine bf (by simp [e]) ?_
      refine bt (by simpa using e) ?_
      refine gt g1 ?_
      have hk2 : kids.length = 2 := by rw [hk]; unfold takN; rw [if_pos (.inl e)]
      match kids, hk2, kid, h4 with
      | [a, b], _, kid, h4 =>
        refine bo (a := v) ?_ (tail rfl)
        refine bo (a := v) ?_ rfl
        refine bo (kid 0 (by simp)) ?_
        rw [h4 e a b rfl]
        cases a with
        | false => rfl
        | true =>
          refine bt rfl ?_
          exact bo (kid 1 (by simp)) rfl
    · refine bf (by simp [e]) ?_
      refine bf (by simp [e]) ?_
      refine bf (by simp [e]) ?_
      refine bf (by simp [e]) ?_
      refine bt (by simpa using e) ?_
      refine gt g1 ?_
      have hk2 : kids.length = 2 := by rw [hk]; unfold takN; rw [if_pos (.inr e)]
      match kids, hk2, kid, h5 with
      | [a, b], _, kid, h5 =>
        refine bo (a := v) ?_ (tail rfl)
        refine bo (a := v) ?_ rfl
        refine bo (kid 0 (by simp)) ?_
        rw [h5 e a b rfl]
        cases a with
        | true => rfl
        | false =>
          refine bf rfl ?_
          exact bo (kid 1 (by simp)) rfl
    · refine bf (by simp [e]) ?_
      refine bf (by simp [e]) ?_
      refine bf (by simp [e]) ?_
      refine bf (by simp [e]) ?_
      refine bf (by simp [e]) ?_
      refine bt (by simpa using e) ?_
      refine gt g1 ?_
      have hk1 : kids.length = 1 := by rw [hk]; unfold takN; rw [if_neg (by omega), if_pos e]
      match kids, hk1, kid, h6 with
      | [a], _, kid, h6 =>
        refine bo (a := v) ?_ (tail rfl)
        refine bo (kid 0 (by simp)) ?_
        rw [h6 e a rfl]; rfl
  have last : ∀ (pile : List Bool), B (pile, (p.length : Int)) = some (.inr pile) := by
    intro pile
    rw [hB]
    show (bif _ then _ else _) = _
    rw [bif_decF (by omega)]
  clear hB
  have tree : ∀ (t : PT) (pre post : List PredNode) (pile : List Bool), okTr t → p = pre ++ (flat t ++ post) → pile.length ≤ pre.length → loop B (pile, (pre.length : Int)) = loop B (pile ++ [valT row t], ((pre ++ flat t).length : Int)) := by
    intro t
    induction t with
    | leaf n =>
      intro pre post pile ok e hle
      have hi : pre.length < p.length := by rw [e]; simp [flat]
      have hx : p[pre.length] = n := by simp [e, flat]
      have := step pre.length hi pile [] (leafV row n) (by rw [hx]; exact (show takN n = 0 from ok).symm) (by simpa using hle) (fun k => by rw [hx] at k; simp [leafV, k]) (fun k => by rw [hx] at k; simp [leafV, k, hx]) (fun k => by rw [hx] at k; simp [leafV, k, hx]) (fun _ a b h => by cases h) (fun _ a b h => by cases h) (fun _ a h => by cases h)
      rw [List.append_nil] at this
      rw [loop_step this]
      simp [flat, valT]
    | un n a ih =>
      intro pre post pile ok e hle
      have e' : p = pre ++ (flat a ++ ([n] ++ post)) := by rw [e]; simp [flat]
      rw [ih pre ([n] ++ post) pile ok.2 e' hle]
      have hi : (pre ++ flat a).length < p.length := by rw [e']; simp
      have hx : p[(pre ++ flat a).length] = n := by simp [e']
      have hpos := flat_pos a
      have k6 : takN n = 1 := ok.1
      have kk : n.Kind ≠ 1 ∧ n.Kind ≠ 2 ∧ n.Kind ≠ 3 ∧ n.Kind ≠ 4 ∧ n.Kind ≠ 5 := by
        unfold takN at k6
        split at k6
        · omega
        · split at k6 <;> omega
      have := step (pre ++ flat a).length hi pile [valT row a] (!valT row a) (by rw [hx]; exact k6.symm) (by simp; omega) (fun k => by rw [hx] at k; omega) (fun k => by rw [hx] at k; omega) (fun k => by rw [hx] at k; omega) (fun _ a b h => by simp at h) (fun _ a b h => by simp at h) (fun _ x h => by simp at h; rw [h])
      rw [loop_step this]
      have el : (pre ++ flat a).length + 1 = (pre ++ flat (.un n a)).length := by simp [flat]; omega
      rw [el]; rfl
    | bin n a b iha ihb =>
      intro pre post pile ok e hle
      have e1 : p = pre ++ (flat a ++ (flat b ++ ([n] ++ post))) := by rw [e]; simp [flat]
      have e2 : p = (pre ++ flat a) ++ (flat b ++ ([n] ++ post)) := by rw [e1]; simp
      have hpa := flat_pos a
      have hpb := flat_pos b
      rw [iha pre _ pile ok.2.1 e1 hle, ihb (pre ++ flat a) _ (pile ++ [valT row a]) ok.2.2 e2 (by simp; omega)]
      have hi : ((pre ++ flat a) ++ flat b).length < p.length := by rw [e2]; simp
      have hx : p[((pre ++ flat a) ++ flat b).length] = n := by simp [e2]
      have k2 : takN n = 2 := ok.1
      have kk : n.Kind = 4 ∨ n.Kind = 5 := by
        unfold takN at k2
        split at k2
        · assumption
        · split at k2 <;> omega
      have := step ((pre ++ flat a) ++ flat b).length hi pile [valT row a, valT row b] (valT row (.bin n a b)) (by rw [hx]; exact k2.symm) (by simp; omega) (fun k => by rw [hx] at k; omega) (fun k => by rw [hx] at k; omega) (fun k => by rw [hx] at k; omega)
        (fun k x y h => by rw [hx] at k; simp at h; rw [valT, if_pos k, h.1, h.2]) (fun k x y h => by rw [hx] at k; simp at h; rw [valT, if_neg (by omega), h.1, h.2]) (fun k => by rw [hx] at k; omega)
      rw [show pile ++ [valT row a] ++ [valT row b] = pile ++ [valT row a, valT row b] by simp, loop_step this]
      have el : (pre ++ flat a ++ flat b).length + 1 = (pre ++ flat (.bin n a b)).length := by simp [flat]; omega
      rw [el]
  have h0 := tree t [] [] [] ht (by simp [hp]) (by simp)
  rw [show ((([] : List PredNode)).length : Int) = 0 from rfl, List.nil_append, List.nil_append] at h0
  rw [hp] at h0
  exact h0.trans (loop_end (last _))
theorem Fits_row {cols : List ApiColumn} {row : List ApiValue} (h : fitsS cols row = 0) : row.length = cols.length := (Fit.of h).len
def onceI (l : List Int) : List Int := Go.Lib.compact (l.mergeSort fun x y => decide (x ≤ y))
def askB (n : PredNode) : Bool := decide (n.Kind = 2 ∨ n.Kind = 3)
def askC (p : List PredNode) : List Int := (p.filter askB).map PredNode.Col
theorem ask_eq (n : PredNode) : (bif (n.Kind == (2 : Int)) then some true else some (n.Kind == (3 : Int))) = some (askB n) := by
 unfold askB
 by_cases h : n.Kind = 2
 ·simp [h]
 ·rw [show (n.Kind == 2) = false by simpa using h]; simp [h, Bool.beq_eq_decide_eq]
theorem Cols_eq (p : List PredNode) (h : p.length ≤ 1000000) : pred_Cols p = some (onceI (askC p)) := by
 unfold pred_Cols
 have hlen : ∀ i, ((p.take i).filter askB).length ≤ i := fun i => by
  have := List.length_filter_le askB (p.take i)
  rw [List.length_take] at this
  omega
 refine lpA (w := askC p) (lq1 (fun i => (askC (p.take i), (i : Int))) p.length (fun i hi => ?_) ?_ rfl) ?_
 ·show (bif _ then _ else _) = _
  rw [bif_decT (by omega)]
  refine bo (a := askC (p.take (i + 1))) ?_ ?_
  ·refine bo (getI_at hi) ?_
   refine bo (ask_eq p[i]) ?_
   have e : p.take (i + 1) = p.take i ++ [p[i]] := by rw [List.take_add_one, List.getElem?_eq_getElem hi]; rfl
   have hl := hlen i
   cases hq : askB p[i] with
   | true =>
    refine bt rfl ?_
    refine gt (by unfold askC; rw [List.length_map, List.length_singleton, room_val]; omega) ?_
    rw [e]; unfold askC; rw [List.filter_append, List.map_append]; simp [hq]
   | false =>
    refine bf rfl ?_
    rw [e]; unfold askC; rw [List.filter_append, List.map_append]; simp [hq]
  ·rw [w64_succ (by omega)]
 ·show (bif _ then _ else _) = _
  rw [bif_decF (by omega), List.take_length]
 ·have hl : (askC p).length ≤ p.length := by unfold askC; rw [List.length_map]; exact List.length_filter_le _ _
  refine bo (a := (askC p).mergeSort fun x y => decide (x ≤ y)) (by unfold isortF; rw [if_pos (by omega)]) ?_
  refine bo (a := onceI (askC p)) ?_ rfl
  unfold icompactF onceI
  rw [if_pos ⟨rfl, by rw [List.length_mergeSort], by rw [List.length_mergeSort]; omega⟩]
def conS : Bool → PT → List PredNode
 | m, .leaf n => if m = true ∧ (n.Kind = 2 ∨ n.Kind = 3) then [n] else []
 | _, .un _ _ => []
 | m, .bin n a b => conS (m && decide (n.Kind = 4)) a ++ conS (m && decide (n.Kind = 4)) b
theorem con_false : ∀ t : PT, conS false t = []
 | .leaf n => by simp [conS]
 | .un n a => rfl
 | .bin n a b => by simp [conS, con_false a, con_false b]
theorem con_len : ∀ (m : Bool) (t : PT), (conS m t).length ≤ (flat t).length
 | m, .leaf n => by unfold conS; split <;> simp [flat]
 | m, .un n a => by simp [conS]
 | m, .bin n a b => by
  have h1 := con_len (m && decide (n.Kind = 4)) a
  have h2 := con_len (m && decide (n.Kind = 4)) b
  simp only [conS, flat, List.length_append, List.length_singleton]
  omega
theorem con_sub : ∀ (m : Bool) (t : PT), ∀ n ∈ conS m t, n ∈ flat t ∧ (n.Kind = 2 ∨ n.Kind = 3)
 | m, .leaf n, k, h => by
  unfold conS at h
  split at h
  ·rename_i q
   obtain rfl : k = n := by simpa using h
   exact ⟨by simp [flat], q.2⟩
  ·cases h
 | m, .un n a, k, h => by cases h
 | m, .bin n a b, k, h => by
  unfold conS at h
  rcases List.mem_append.1 h with h | h
  ·have := con_sub _ a k h
   exact ⟨by simp [flat, this.1], this.2⟩
  ·have := con_sub _ b k h
   exact ⟨by simp [flat, this.1], this.2⟩
theorem con_holds (row : List ApiValue) : ∀ (t : PT), okTr t → valT row t = true → ∀ n ∈ conS true t, leafV row n = true
 | .leaf n, _, h, k, hk => by
  unfold conS at hk
  split at hk
  ·obtain rfl : k = n := by simpa using hk
   exact h
  ·cases hk
 | .un n a, _, _, k, hk => by cases hk
 | .bin n a b, ok, h, k, hk => by
  unfold conS at hk
  unfold valT at h
  by_cases q : n.Kind = 4
  ·rw [if_pos q, Bool.and_eq_true] at h
   rw [decide_eq_true q, Bool.and_true] at hk
   rcases List.mem_append.1 hk with hk | hk
   ·exact con_holds row a ok.2.1 h.1 k hk
   ·exact con_holds row b ok.2.2 h.2 k hk
  ·rw [decide_eq_false q, Bool.and_false, con_false, con_false] at hk
   cases hk
theorem conj_eq : ∀ (t : PT), okTr t → ∀ (fuel : Nat) (pre post p : List PredNode) (m : Bool), (flat t).length ≤ fuel → p = pre ++ (flat t ++ post) → p.length ≤ 1000000 →
  pred_conjuncts fuel p ((pre.length : Int) + (flat t).length - 1) m = some (conS m t, (pre.length : Int) - 1) := by
 intro t
 induction t with
 | leaf n =>
  intro ok fuel pre post p m hf hp hl
  obtain ⟨f, rfl⟩ : ∃ f, fuel = f + 1 := ⟨fuel - 1, by simp [flat] at hf; omega⟩
  have hi : pre.length < p.length := by rw [hp]; simp [flat]
  have hx : p[pre.length] = n := by simp [hp, flat]
  have ok : takN n = 0 := ok
  unfold pred_conjuncts
  rw [show ((pre.length : Int) + (flat (.leaf n)).length - 1) = (pre.length : Int) by simp [flat]]
  refine bo (getI_at hi) ?_
  rw [hx]
  refine bo (a := m) ?_ ?_
  ·cases m with
   | false => rfl
   | true =>
    refine bt rfl ?_
    refine bo (takes_eq n) ?_
    rw [ok]; rfl
  ·refine bo (a := ([], (pre.length : Int) - 1)) ?_ ?_
   ·refine bo (takes_eq n) ?_
    rw [ok]
    refine bo (a := ([], (pre.length : Int) - 1)) (loop_end ?_) rfl
    show (bif _ then _ else _) = _
    rw [bif_decF (by omega), w64_id (by omega) (by omega)]
   ·refine bo (a := conS m (.leaf n)) ?_ rfl
    refine bo (a := decide (m = true ∧ (n.Kind = 2 ∨ n.Kind = 3))) ?_ ?_
    ·cases m with
     | false => simp
     | true =>
      refine bt rfl ?_
      by_cases h2 : n.Kind = 2
      ·simp [h2]
      ·rw [show (n.Kind == 2) = false by simpa using h2]; simp [h2, Bool.beq_eq_decide_eq]
    ·by_cases q : m = true ∧ (n.Kind = 2 ∨ n.Kind = 3)
     ·rw [decide_eq_true q]
      refine bt rfl ?_
      refine gt (by show (0 + 1) * 56 ≤ room; rw [room_val]; omega) ?_
      unfold conS; rw [if_pos q]; rfl
     ·rw [decide_eq_false q]
      refine bf rfl ?_
      unfold conS; rw [if_neg q]
 | un n a ih =>
  intro ok fuel pre post p m hf hp hl
  have hpa := flat_pos a
  obtain ⟨f, rfl⟩ : ∃ f, fuel = f + 1 := ⟨fuel - 1, by simp [flat] at hf; omega⟩
  have e' : p = pre ++ (flat a ++ ([n] ++ post)) := by rw [hp]; simp [flat]
  have hi : pre.length + (flat a).length < p.length := by rw [e']; simp
  have hx : p[pre.length + (flat a).length] = n := by
   have : p[(pre ++ flat a).length]'(by simpa using hi) = n := by simp [e']
   simpa using this
  have k1 : takN n = 1 := ok.1
  have kk : n.Kind ≠ 2 ∧ n.Kind ≠ 3 ∧ n.Kind ≠ 4 := by
   unfold takN at k1
   split at k1
   ·omega
   ·split at k1 <;> omega
  unfold pred_conjuncts
  rw [show ((pre.length : Int) + (flat (.un n a)).length - 1) = ((pre.length + (flat a).length : Nat) : Int) by simp [flat]; omega]
  refine bo (getI_at hi) ?_
  rw [hx]
  refine bo (a := false) ?_ ?_
  ·cases m with
   | false => rfl
   | true =>
    refine bt rfl ?_
    refine bo (takes_eq n) ?_
    rw [k1]
    refine bf rfl ?_
    refine bt rfl ?_
    simp [kk.2.2]
  ·have hrec := ih ok.2 f pre ([n] ++ post) p false (by simp [flat] at hf; omega) e' hl
   rw [con_false] at hrec
   refine bo (a := ([], (pre.length : Int) - 1)) ?_ rfl
   refine bo (takes_eq n) ?_
   rw [k1]
   refine bo (a := ([], (pre.length : Int) - 1)) ?_ rfl
   refine (loop_step (y' := ([], (pre.length : Int) - 1, 1)) ?_).trans (loop_end ?_)
   ·show (bif _ then _ else _) = _
    rw [bif_decT (by omega), show w64 (((pre.length + (flat a).length : Nat) : Int) - 1) = (pre.length : Int) + (flat a).length - 1 by rw [w64_id (by omega) (by omega)]; omega, hrec, bind_some']
    show (bif decide ((0 + 0) * 56 ≤ room) then _ else _) = _
    rw [bif_decT (by rw [room_val]; omega)]; rfl
   ·show (bif _ then _ else _) = _
    rw [bif_decF (by omega)]
 | bin n a b iha ihb =>
  intro ok fuel pre post p m hf hp hl
  have hpa := flat_pos a
  have hpb := flat_pos b
  obtain ⟨f, rfl⟩ : ∃ f, fuel = f + 1 := ⟨fuel - 1, by simp [flat] at hf; omega⟩
  have e1 : p = pre ++ (flat a ++ (flat b ++ ([n] ++ post))) := by rw [hp]; simp [flat]
  have e2 : p = (pre ++ flat a) ++ (flat b ++ ([n] ++ post)) := by rw [e1]; simp
  have hi : pre.length + (flat a).length + (flat b).length < p.length := by rw [e1]; simp; omega
  have hx : p[pre.length + (flat a).length + (flat b).length] = n := by
   have : p[((pre ++ flat a) ++ flat b).length]'(by simp; omega) = n := by simp [e2]
   simpa [Nat.add_assoc] using this
  have hle : p.length = pre.length + (flat a).length + (flat b).length + 1 + post.length := by rw [e1]; simp; omega
  have k2 : takN n = 2 := ok.1
  have kk : n.Kind ≠ 2 ∧ n.Kind ≠ 3 := by
   unfold takN at k2
   split at k2
   ·omega
   ·split at k2 <;> omega
  unfold pred_conjuncts
  rw [show ((pre.length : Int) + (flat (.bin n a b)).length - 1) = ((pre.length + (flat a).length + (flat b).length : Nat) : Int) by simp [flat]; omega]
  refine bo (getI_at hi) ?_
  rw [hx]
  refine bo (a := m && decide (n.Kind = 4)) ?_ ?_
  ·cases m with
   | false => rfl
   | true =>
    refine bt rfl ?_
    refine bo (takes_eq n) ?_
    rw [k2]
    refine bf rfl ?_
    refine bt rfl ?_
    simp [Bool.beq_eq_decide_eq]
  ·generalize hm : (m && decide (n.Kind = 4)) = m'
   have r1 := ihb ok.2.2 f (pre ++ flat a) ([n] ++ post) p m' (by simp [flat] at hf; omega) e2 hl
   have r2 := iha ok.2.1 f pre (flat b ++ ([n] ++ post)) p m' (by simp [flat] at hf; omega) e1 hl
   have c1 := con_len m' a
   have c2 := con_len m' b
   refine bo (a := (conS m' a ++ conS m' b, (pre.length : Int) - 1)) ?_ ?_
   ·refine bo (takes_eq n) ?_
    rw [k2]
    refine bo (a := (conS m' a ++ conS m' b, (pre.length : Int) - 1)) ?_ rfl
    refine (loop_step (y' := (conS m' b, (pre.length : Int) + (flat a).length - 1, 1)) ?_).trans ((loop_step (y' := (conS m' a ++ conS m' b, (pre.length : Int) - 1, 2)) ?_).trans (loop_end ?_))
    ·show (bif _ then _ else _) = _
     rw [bif_decT (by omega), show w64 (((pre.length + (flat a).length + (flat b).length : Nat) : Int) - 1) = ((pre ++ flat a).length : Int) + (flat b).length - 1 by rw [w64_id (by omega) (by omega), List.length_append]; omega, r1, bind_some']
     show (bif decide (((conS m' b).length + 0) * 56 ≤ room) then _ else _) = _
     rw [bif_decT (by rw [room_val]; omega), List.append_nil, List.length_append]
     show some (Sum.inl (_, _, _)) = some (Sum.inl (_, _, _))
     rw [show (((pre.length + (flat a).length : Nat) : Int) - 1) = (pre.length : Int) + (flat a).length - 1 by omega]; rfl
    ·show (bif _ then _ else _) = _
     rw [bif_decT (by omega), r2, bind_some']
     show (bif decide (((conS m' a).length + (conS m' b).length) * 56 ≤ room) then _ else _) = _
     rw [bif_decT (by rw [room_val]; omega)]; rfl
    ·show (bif _ then _ else _) = _
     rw [bif_decF (by omega)]
   ·refine bo (a := conS m' a ++ conS m' b) ?_ (by show some (conS m' a ++ conS m' b, _) = some (conS (m && decide (n.Kind = 4)) a ++ conS (m && decide (n.Kind = 4)) b, _); rw [hm])
    refine bo (a := false) ?_ rfl
    cases m' with
    | false => rfl
    | true =>
     refine bt rfl ?_
     refine bf (by simpa using kk.1) ?_
     simp [kk.2]
def fixB (c : Int) (n : PredNode) : Bool := decide (n.Col = c ∧ (n.Kind = 3 ∨ n.Op = 3))
theorem fixes_eq (n : PredNode) (c : Int) : pred_Node_fixes n c = some (fixB c n) := by
 unfold pred_Node_fixes fixB
 refine bo (a := decide (n.Col = c ∧ (n.Kind = 3 ∨ n.Op = 3))) ?_ rfl
 by_cases h : n.Col = c
 ·rw [show (n.Col == c) = true by simpa using h]
  refine bt rfl ?_
  by_cases k : n.Kind = 3
  ·simp [h, k]
  ·rw [show (n.Kind == 3) = false by simpa using k]; simp [h, k, Bool.beq_eq_decide_eq]
 ·rw [show (n.Col == c) = false by simpa using h]; simp [h]
theorem index20_eq (l : List PredNode) (x : ApiPart) (hl : l.length ≤ 1000000) : slices_IndexFunc_pred_Node_pred_Node l x = some (idxI (fixB x.Col) l) := by
 unfold slices_IndexFunc_pred_Node_pred_Node
 refine lqX l (fixB x.Col) (fun i hi => ?_) ?_
 ·show (bif _ then _ else _) = _
  rw [bif_decT (by omega), getI_at hi, bind_some']
  refine bo (a := fixB x.Col l[i]) (bo (fixes_eq _ _) rfl) ?_
  rw [w64_succ (by omega)]
  cases fixB x.Col l[i] <;> rfl
 ·show (bif _ then _ else _) = _
  rw [bif_decF (by omega)]
theorem idx_find {α : Type} (p : α → Bool) (l : List α) : match l.find? p with
  | some x => 0 ≤ idxI p l ∧ getI l (idxI p l) = some x
  | none => idxI p l < 0 := by
 unfold idxI
 have key : ∀ (r pre : List α), l = pre ++ r → match r.find? p with
   | some x => ∃ i : Nat, firstF (fun i x => if p x = true then some (i : Int) else none) pre.length r = some (i : Int) ∧ getI l (i : Int) = some x
   | none => firstF (fun i x => if p x = true then some (i : Int) else none) pre.length r = none := by
  intro r
  induction r with
  | nil => intro pre h; rfl
  | cons x r ih =>
   intro pre h
   rw [List.find?_cons]
   cases hq : p x with
   | true =>
    refine ⟨pre.length, by rw [firstF, if_pos hq], ?_⟩
    rw [getI_at (by rw [h]; simp)]
    simp [h]
   | false =>
    have := ih (pre ++ [x]) (by rw [h]; simp)
    rw [List.length_append, List.length_singleton] at this
    have e : firstF (fun i x => if p x = true then some (i : Int) else none) pre.length (x :: r) = firstF (fun i x => if p x = true then some (i : Int) else none) (pre.length + 1) r := by
     rw [firstF, if_neg (by rw [hq]; simp)]
    rw [e]
    exact this
 have := key l [] rfl
 split
 ·rename_i x hx
  rw [hx] at this
  obtain ⟨i, h1, h2⟩ := this
  rw [show ([] : List α).length = 0 from rfl] at h1
  rw [h1]
  exact ⟨by show (0 : Int) ≤ (i : Int); omega, h2⟩
 ·rename_i hx
  rw [hx] at this
  rw [show firstF (fun i x => if p x = true then some (i : Int) else none) 0 l = none from this]
  show (-1 : Int) < 0
  omega
def encP (v : ApiValue) (d : Bool) : List UInt8 := turn d (enc v)
theorem one_eq (v : ApiValue) (d : Bool) (h : val v = true) : pred_one v d = some (encP v d) := by
 unfold pred_one
 have hs := val_short h
 have he := enc_short h
 refine bo (key_Encode_eq [v] [d] ⟨by simp, fun x hx => by
  obtain rfl : x = v := by simpa using hx
  omega⟩) ?_
 unfold encS
 have h1 : ([v].any bad) = false := by simp [bad, h]
 have h2 : encL [v] [d] = encP v d := by simp [encL, encP]
 have h3 : (encP v d).length ≤ 137 := by unfold encP; rw [turn_len]; exact he
 rw [if_pos (show [v].length = [d].length from rfl), h1, if_neg (by simp), h2, if_neg (by omega)]
theorem encP_len {v : ApiValue} {d : Bool} (h : val v = true) : (encP v d).length ≤ 137 := by unfold encP; rw [turn_len]; exact enc_short h
def endL (s : List UInt8) : List UInt8 := (afterL s).getD []
theorem end_eq (s : List UInt8) (h : s.length ≤ 1000000) : pred_end s = some (endL s) := by
 unfold pred_end endL
 refine bo (After_eq s (by omega)) ?_
 cases afterL s <;> rfl
def fixP (con : List PredNode) : List ApiPart → List (PredNode × ApiPart)
 | [] => []
 | x :: r => match con.find? (fixB x.Col) with
  | some n => (n, x) :: fixP con r
  | none => []
def preP (l : List (PredNode × ApiPart)) : List UInt8 := (l.map fun q => encP q.1.Val q.2.Down).flatten
def skipB (x : ApiPart) (n : PredNode) : Bool := decide (n.Kind ≠ 2 ∨ n.Col ≠ x.Col ∨ n.Op = 3 ∨ n.Op = 6)
def stepB (x : ApiPart) (pre : List UInt8) (s : Bool × ApiSpan) (n : PredNode) : Bool × ApiSpan :=
 if skipB x n = true then s else
  if decide (n.Op = 4 ∨ n.Op = 5) = x.Down then
   (if n.Op = 4 ∨ n.Op = 2 then (true, ⟨s.2.Lo, minS s.2.Hi (endL (pre ++ encP n.Val x.Down)), s.2.Open⟩) else (true, ⟨s.2.Lo, minS s.2.Hi (pre ++ encP n.Val x.Down), s.2.Open⟩))
  else (if n.Op = 4 ∨ n.Op = 2 then (true, ⟨maxS s.2.Lo (pre ++ encP n.Val x.Down), s.2.Hi, s.2.Open⟩) else (true, ⟨maxS s.2.Lo (endL (pre ++ encP n.Val x.Down)), s.2.Hi, s.2.Open⟩))
def spanB (x : ApiPart) (pre : List UInt8) : ApiSpan := if x.Down = true then ⟨pre, endL (pre ++ [254]), false⟩ else ⟨pre ++ [1], endL (pre ++ [1]), false⟩
def boundS (x : ApiPart) (con : List PredNode) (pre : List UInt8) : Bool × ApiSpan := con.foldl (stepB x pre) (false, spanB x pre)
def boundsS (ps : List ApiPart) (con : List PredNode) : Int × Bool × ApiSpan :=
 match ps[(fixP con ps).length]? with
 | some x => if (boundS x con (preP (fixP con ps))).1 = true then ((fixP con ps).length, true, (boundS x con (preP (fixP con ps))).2) else ((fixP con ps).length, false, undS (preP (fixP con ps)))
 | none => ((fixP con ps).length, false, undS (preP (fixP con ps)))
theorem op45 (o : Int) : (bif (o == (4 : Int)) then some true else some (o == (5 : Int))) = some (decide (o = 4 ∨ o = 5)) := by
 by_cases h : o = 4
 ·simp [h]
 ·rw [show (o == 4) = false by simpa using h]; simp [h, Bool.beq_eq_decide_eq]
theorem bounded_eq (x : ApiPart) (con : List PredNode) (pre : List UInt8) (hc : con.length ≤ 1000000) (hv : ∀ n ∈ con, val n.Val = true) (hp : pre.length ≤ 100000) : pred_bounded x con pre = some (boundS x con pre) := by
 unfold pred_bounded
 refine gt (by show pre.length + 1 ≤ _; omega) ?_
 refine gt (by show pre.length + 1 ≤ _; omega) ?_
 refine bo (end_eq (pre ++ [1]) (by simp; omega)) ?_
 refine bo (a := spanB x pre) ?_ ?_
 ·unfold spanB
  cases x.Down with
  | true =>
   refine bt rfl ?_
   refine gt (by show pre.length + 1 ≤ _; omega) ?_
   exact bo (end_eq (pre ++ [254]) (by simp; omega)) rfl
  | false => rfl
 ·refine lpA (w := boundS x con pre) (lq1 (fun i => (((con.take i).foldl (stepB x pre) (false, spanB x pre)).1, (i : Int), ((con.take i).foldl (stepB x pre) (false, spanB x pre)).2)) con.length (fun i hi => ?_) ?_ rfl) rfl
  ·show (bif _ then _ else _) = _
   rw [bif_decT (by omega)]
   have e : con.take (i + 1) = con.take i ++ [con[i]] := by rw [List.take_add_one, List.getElem?_eq_getElem hi]; rfl
   have hn := hv _ (List.getElem_mem hi)
   rw [e, List.foldl_append]
   generalize (con.take i).foldl (stepB x pre) (false, spanB x pre) = s
   show _ = some (Sum.inl ((stepB x pre s con[i]).1, ((i + 1 : Nat) : Int), (stepB x pre s con[i]).2))
   refine bo (a := stepB x pre s con[i]) ?_ (by rw [w64_succ (by omega)])
   refine bo (getI_at hi) ?_
   generalize con[i] = n at hn
   refine bo (a := skipB x n) ?_ ?_
   ·unfold skipB
    by_cases h1 : n.Kind ≠ 2
    ·rw [show (n.Kind != 2) = true by simpa using h1]; simp [h1]
    rw [show (n.Kind != 2) = false by simpa using h1]
    refine bf rfl ?_
    by_cases h2 : n.Col ≠ x.Col
    ·rw [show (n.Col != x.Col) = true by simpa using h2]; simp [h2]
    rw [show (n.Col != x.Col) = false by simpa using h2]
    refine bf rfl ?_
    by_cases h3 : n.Op = 3
    ·rw [show (n.Op == 3) = true by simpa using h3]; simp [h3]
    rw [show (n.Op == 3) = false by simpa using h3]
    refine bf rfl ?_
    simp only [ne_eq, Decidable.not_not] at h1 h2
    simp [h1, h2, h3, Bool.beq_eq_decide_eq]
   ·unfold stepB
    cases hq : skipB x n with
    | true => rfl
    | false =>
     refine bf rfl ?_
     rw [if_neg (by simp)]
     refine bo (one_eq n.Val x.Down hn) ?_
     have hel := encP_len (d := x.Down) hn
     refine gt (by omega) ?_
     refine bo (op45 n.Op) ?_
     have en := end_eq (pre ++ encP n.Val x.Down) (by rw [List.length_append]; omega)
     by_cases r : decide (n.Op = 4 ∨ n.Op = 5) = x.Down
     ·rw [if_pos r, show (decide (n.Op = 4 ∨ n.Op = 5) == x.Down) = true by simpa using r]
      refine bo (a := decide (n.Op = 4 ∨ n.Op = 2)) ?_ ?_
      ·refine bt rfl ?_
       by_cases h : n.Op = 4
       ·simp [h]
       ·rw [show (n.Op == 4) = false by simpa using h]; simp [h, Bool.beq_eq_decide_eq]
      ·by_cases q : n.Op = 4 ∨ n.Op = 2
       ·rw [decide_eq_true q, if_pos q]
        refine bt rfl ?_
        exact bo en rfl
       ·rw [decide_eq_false q, if_neg q]; rfl
     ·rw [if_neg r, show (decide (n.Op = 4 ∨ n.Op = 5) == x.Down) = false by simpa using r]
      refine bo (a := false) rfl ?_
      refine bf rfl ?_
      refine bf rfl ?_
      refine bo (a := decide (n.Op = 4 ∨ n.Op = 2)) ?_ ?_
      ·by_cases h : n.Op = 4
       ·simp [h]
       ·rw [show (n.Op == 4) = false by simpa using h]; simp [h, Bool.beq_eq_decide_eq]
      ·by_cases q : n.Op = 4 ∨ n.Op = 2
       ·rw [decide_eq_true q, if_pos q]; rfl
       ·rw [decide_eq_false q, if_neg q]
        refine bf rfl ?_
        exact bo en rfl
  ·show (bif _ then _ else _) = _
   rw [bif_decF (by omega), List.take_length]; rfl
theorem fixP_len (con : List PredNode) : ∀ ps : List ApiPart, (fixP con ps).length ≤ ps.length
 | [] => by simp [fixP]
 | x :: r => by
  have := fixP_len con r
  unfold fixP
  split
  ·simp; omega
  ·simp
theorem fixP_val {con : List PredNode} (hv : ∀ n ∈ con, val n.Val = true) : ∀ ps : List ApiPart, ∀ q ∈ fixP con ps, val q.1.Val = true
 | [], q, h => by cases h
 | x :: r, q, h => by
  unfold fixP at h
  split at h
  ·rename_i n hn
   rcases List.mem_cons.1 h with rfl | h
   ·exact hv _ (List.mem_of_find?_eq_some hn)
   ·exact fixP_val hv r q h
  ·cases h
theorem preP_len {l : List (PredNode × ApiPart)} (h : ∀ q ∈ l, val q.1.Val = true) : (preP l).length ≤ 137 * l.length := by
 induction l with
 | nil => simp [preP]
 | cons q l ih =>
  have h1 := ih fun x hx => h x (by simp [hx])
  have h2 := encP_len (d := q.2.Down) (h q (by simp))
  unfold preP at h1 ⊢
  simp only [List.map_cons, List.flatten_cons, List.length_append, List.length_cons]
  omega
theorem Bounds_eq (ps : List ApiPart) (t : PT) (ht : okTr t) (hps : ps.length ≤ 100) (hl : (flat t).length ≤ 1000) (hv : ∀ n ∈ conS true t, val n.Val = true) : pred_Bounds ps (flat t) = some (boundsS ps (conS true t)) := by
 unfold pred_Bounds
 have hpos := flat_pos t
 have h0 := conj_eq t ht 1000 [] [] (flat t) true hl (by simp) (by omega)
 rw [show ((([] : List PredNode).length : Int) + (flat t).length - 1) = ((flat t).length : Int) - 1 by simp] at h0
 rw [w64_id (n := ((flat t).length : Int) - 1) (by omega) (by omega)]
 refine bo h0 ?_
 have hcl := con_len true t
 generalize conS true t = con at hv hcl
 have hfl := fixP_len con ps
 have hfv := fixP_val hv ps
 have hpl := preP_len hfv
 refine lpA (w := (preP (fixP con ps), ((fixP con ps).length : Int))) (nmB fun B hB => ?_) ?_
 ·have key : ∀ (r pre : List ApiPart) (s : List UInt8), ps = pre ++ r → s.length + 137 * r.length ≤ 100000 → loop B (s, (pre.length : Int)) = some (s ++ preP (fixP con r), ((pre.length + (fixP con r).length : Nat) : Int)) := by
   intro r
   induction r with
   | nil =>
    intro pre s e hs
    rw [show fixP con [] = [] from rfl]
    refine loop_end ?_
    rw [hB]
    show (bif _ then _ else _) = _
    rw [bif_decF (by rw [e]; simp)]
    simp [preP]
   | cons x r ih =>
    intro pre s e hs
    have hi : pre.length < ps.length := by rw [e]; simp
    have hx : ps[pre.length] = x := by simp [e]
    have hf := idx_find (fixB x.Col) con
    have hb : B (s, (pre.length : Int)) = (match con.find? (fixB x.Col) with | some n => some (.inl (s ++ encP n.Val x.Down, ((pre.length + 1 : Nat) : Int))) | none => some (.inr (s, (pre.length : Int)))) := by
     rw [hB]
     show (bif _ then _ else _) = _
     rw [bif_decT (by omega)]
     refine bo (getI_at hi) ?_
     rw [hx]
     refine bo (index20_eq con x (by omega)) ?_
     cases hq : con.find? (fixB x.Col) with
     | none =>
      rw [hq] at hf
      have hf : idxI (fixB x.Col) con < 0 := hf
      rw [bif_decT hf]
     | some n =>
      rw [hq] at hf
      obtain ⟨f1, f2⟩ := hf
      rw [bif_decF (by omega)]
      refine bo f2 ?_
      have hvn := hv _ (List.mem_of_find?_eq_some hq)
      refine bo (one_eq n.Val x.Down hvn) ?_
      have := encP_len (d := x.Down) hvn
      simp only [List.length_cons] at hs
      rw [bif_decT (by omega), w64_succ (by omega)]
    cases hq : con.find? (fixB x.Col) with
    | none =>
     rw [hq] at hb
     rw [loop_end hb]
     unfold fixP
     rw [hq]
     simp [preP]
    | some n =>
     rw [hq] at hb
     have hvn := hv _ (List.mem_of_find?_eq_some hq)
     have := encP_len (d := x.Down) hvn
     simp only [List.length_cons] at hs
     have ih' := ih (pre ++ [x]) (s ++ encP n.Val x.Down) (by rw [e]; simp) (by rw [List.length_append]; omega)
     rw [List.length_append, List.length_singleton] at ih'
     rw [loop_step hb, ih']
     have ef : fixP con (x :: r) = (n, x) :: fixP con r := by
      show (match con.find? (fixB x.Col) with | some n => (n, x) :: fixP con r | none => []) = _
      rw [hq]
     rw [ef]
     congr 2
     ·simp [preP]
     ·simp; omega
  have := key ps [] [] rfl (by simp; omega)
  simpa using this
 ·unfold boundsS
  by_cases hlt : (fixP con ps).length < ps.length
  ·rw [List.getElem?_eq_getElem hlt]
   refine (show bindE _ _ _ = _ from ?_)
   rw [bif_decT (by omega), getI_at hlt, bind_some', bounded_eq _ con _ (by omega) hv (by omega), bind_some']
   generalize hbs : boundS ps[(fixP con ps).length] con (preP (fixP con ps)) = bs
   obtain ⟨b, sp⟩ := bs
   show _ = some (if (boundS ps[(fixP con ps).length] con (preP (fixP con ps))).1 = true then (((fixP con ps).length : Int), true, (boundS ps[(fixP con ps).length] con (preP (fixP con ps))).2) else ((fixP con ps).length, false, undS (preP (fixP con ps))))
   rw [hbs]
   cases b with
   | true => rfl
   | false =>
    refine beY (y := ()) rfl ?_
    exact bo (Under_eq _ (by omega)) rfl
  ·rw [List.getElem?_eq_none (by omega)]
   refine (show bindE _ _ _ = _ from ?_)
   rw [bif_decF (by omega)]
   refine beY (y := ()) rfl ?_
   exact bo (Under_eq _ (by omega)) rfl
theorem con_val {cols : List ApiColumn} {t : PT} (h : ∀ n ∈ flat t, formS n cols.length = true ∧ typeS cols n = false) : ∀ n ∈ conS true t, val n.Val = true := by
 intro n hn
 obtain ⟨h1, h2⟩ := con_sub true t n hn
 obtain ⟨h3, h4⟩ := h n h1
 unfold formS at h3
 unfold typeS at h4
 rw [decide_eq_false_iff_not] at h4
 rcases h2 with h2 | h2
 ·cases hv : val n.Val with
  | true => rfl
  | false => exact absurd ⟨h2, .inl hv⟩ h4
 ·rw [if_neg (by omega), if_pos h2, decide_eq_true_eq] at h3
  rw [h3.2.2.2]; decide
end Lv
namespace Lv
open Go Go.Proofs
variable [BaseTab]
end Lv
namespace Lv
open Go Go.Proofs
variable [BaseTab]
theorem sgI_icmp (a b : Int) : sgI a b = icmp a b := rfl
theorem cmpV_vcmp (v w : ApiValue) : cmpV v w = vcmp v w := by
 have en : ∀ a b : Nat, sgI a b = ncmp a b := by
  intro a b
  unfold sgI ncmp
  repeat' split
  all_goals omega
 have z : ∀ {x y : Int}, sgI x y = 0 ↔ x = y := by intro x y; unfold sgI; split <;> (try split) <;> omega
 unfold cmpV vcmp
 rw [en, ← sgI_icmp, ← sgI_icmp]
 by_cases h : v.Kind = w.Kind
 ·have e0 : sgI v.Kind w.Kind = 0 := z.2 h
  rw [if_neg (show ¬ v.Kind ≠ w.Kind by simpa using h)]
  by_cases q : v.Kind = 1
  ·have e : cmpD v w = sgI (i64u v.N) (i64u w.N) := by unfold cmpD; rw [if_pos ⟨e0, q⟩]
   rw [e, if_pos q]
  ·have e : cmpD v w = 0 := by unfold cmpD; rw [if_neg (fun k => q k.2), e0]
   rw [e, if_neg q, if_neg (show ¬ (0 : Int) ≠ 0 by simp), if_neg (show ¬ (0 : Int) ≠ 0 by simp)]
 ·have e0 : sgI v.Kind w.Kind ≠ 0 := fun k => h (z.1 k)
  have e : cmpD v w = sgI v.Kind w.Kind := by unfold cmpD; rw [if_neg (fun k => e0 k.1)]
  rw [if_pos h, e, if_pos e0]
theorem lts_irr (a : List UInt8) : ltS a a = false := ltL_irrefl a
theorem lts_pre (p a b : List UInt8) : ltS (p ++ a) (p ++ b) = ltS a b := less_same p a b
theorem lts_nil (a : List UInt8) : ltS a [] = false := by cases a <;> simp [ltS, Op.bytesLess]
theorem lts_cons (x y : UInt8) (a b : List UInt8) : ltS (x :: a) (y :: b) = (decide (x < y) || (x == y && ltS a b)) := by
 by_cases h : x < y
 ·simp [ltS, Op.bytesLess, h]
 ·by_cases k : x = y
  ·subst k; simp [ltS, Op.bytesLess, h]
  ·simp [ltS, Op.bytesLess, h, k]
theorem lts_trans : ∀ {a b c : List UInt8}, ltS a b = true → ltS b c = true → ltS a c = true
 | a, b, [], _, h => by rw [lts_nil] at h; cases h
 | a, [], z :: c, h, _ => by rw [lts_nil] at h; cases h
 | [], y :: b, z :: c, _, _ => by simp [ltS, Op.bytesLess]
 | x :: a, y :: b, z :: c, h, k => by
  rw [lts_cons] at h k ⊢
  simp only [Bool.or_eq_true, decide_eq_true_eq, Bool.and_eq_true, beq_iff_eq] at h k ⊢
  rcases h with h | ⟨rfl, h⟩
  ·rcases k with k | ⟨rfl, k⟩
   ·exact .inl (UInt8.lt_iff_toNat_lt.2 (Nat.lt_trans (UInt8.lt_iff_toNat_lt.1 h) (UInt8.lt_iff_toNat_lt.1 k)))
   ·exact .inl h
  ·rcases k with k | ⟨rfl, k⟩
   ·exact .inl k
   ·exact .inr ⟨rfl, lts_trans h k⟩
theorem lts_tri : ∀ (a b : List UInt8), ltS a b = true ∨ a = b ∨ ltS b a = true
 | [], [] => .inr (.inl rfl)
 | [], y :: b => .inl (by simp [ltS, Op.bytesLess])
 | x :: a, [] => .inr (.inr (by simp [ltS, Op.bytesLess]))
 | x :: a, y :: b => by
  rw [lts_cons, lts_cons]
  rcases u8_tri x y with h | h | h
  ·exact .inl (by simp [h])
  ·exact .inr (.inr (by simp [h]))
  ·subst h
   rcases lts_tri a b with h | h | h
   ·exact .inl (by simp [h])
   ·exact .inr (.inl (by rw [h]))
   ·exact .inr (.inr (by simp [h]))
theorem lts_asym {a b : List UInt8} (h : ltS a b = true) : ltS b a = false := by
 cases k : ltS b a with
 | false => rfl
 | true => have := lts_trans h k; rw [lts_irr] at this; cases this
theorem nlt_le {a b : List UInt8} : ltS b a = false ↔ leL a b = true := by
 unfold leL
 constructor
 ·intro h
  rcases lts_tri a b with k | k | k
  ·rw [show Op.bytesLess a b = true from k]; rfl
  ·subst k; simp
  ·rw [h] at k; cases k
 ·intro h
  rw [Bool.or_eq_true] at h
  rcases h with h | h
  ·exact lts_asym h
  ·obtain rfl : a = b := by simpa using h
   exact lts_irr a
theorem pre_inL {e u : List UInt8} : inL e (e ++ u) = true := by rw [inL_prefix]; simp
theorem nlt_pre (e u : List UInt8) : ltS (e ++ u) e = false := by
 have := lts_pre e u []
 rw [List.append_nil] at this
 rw [this, lts_nil]
theorem In_eq (sp : ApiSpan) (k : List UInt8) : ref07_In sp k = some (!ltS k sp.Lo && (sp.Open || ltS k sp.Hi)) := by
 unfold ref07_In
 cases ltS k sp.Lo with
 | true => rfl
 | false =>
  cases sp.Open with
  | true => rfl
  | false => cases ltS k sp.Hi <;> rfl
theorem in_und (s u : List UInt8) : ref07_In (undS s) (s ++ u) = some true := by
 rw [In_eq]
 have h : inL s (s ++ u) = true := pre_inL
 unfold inL at h
 rw [Bool.and_eq_true] at h
 obtain ⟨h1, h2⟩ := h
 have h3 := nlt_le.2 h1
 unfold undS
 cases ha : afterL s with
 | none => simp [h3]
 | some a =>
  rw [ha] at h2
  have h2 : ltS (s ++ u) a = true := h2
  simp [h3, h2]
theorem afterL_ex : ∀ (s : List UInt8), (∃ x ∈ s, x ≠ 255) → ∃ a, afterL s = some a
 | [], h => by obtain ⟨x, hx, _⟩ := h; cases hx
 | y :: s, h => by
  unfold afterL
  cases hs : afterL s with
  | some a => exact ⟨_, rfl⟩
  | none =>
   obtain ⟨x, hx, hne⟩ := h
   rcases List.mem_cons.1 hx with rfl | hx
   ·exact ⟨_, by simp [hne]; rfl⟩
   ·obtain ⟨a, ha⟩ := afterL_ex s ⟨x, hx, hne⟩
    rw [ha] at hs; cases hs
theorem encP_head (v : ApiValue) (d : Bool) (h : v.Kind ≠ 0) : ∃ r, encP v d = (if d = true then 254 else 1) :: r := by
 unfold encP enc
 rw [if_neg h]
 cases d with
 | false => exact ⟨_, rfl⟩
 | true => exact ⟨_, rfl⟩
theorem encP_end (pre : List UInt8) (v : ApiValue) (d : Bool) (h : v.Kind ≠ 0) : ∃ a, afterL (pre ++ encP v d) = some a := by
 obtain ⟨r, hr⟩ := encP_head v d h
 refine afterL_ex _ ⟨if d = true then 254 else 1, by rw [hr]; simp, by cases d <;> decide⟩
def keyP (row : List ApiValue) (ps : List ApiPart) : List UInt8 := (ps.map fun x => encP (vAt row x.Col) x.Down).flatten
theorem keyS_P (row : List ApiValue) : ∀ ps : List ApiPart, keyS row ps = keyP row ps
 | [] => rfl
 | x :: r => by
  have ih := keyS_P row r
  unfold keyS partV downs at ih ⊢
  unfold keyP at ih ⊢
  rw [List.map_cons, List.map_cons, List.map_cons, encL, ih]
  rfl
structure ConOk (cols : List ApiColumn) (row : List ApiValue) (con : List PredNode) : Prop where
 hold : ∀ n ∈ con, leafV row n = true
 kind : ∀ n ∈ con, n.Kind = 2 ∨ n.Kind = 3
 form : ∀ n ∈ con, formS n cols.length = true
 type : ∀ n ∈ con, typeS cols n = false
theorem con_cmp {cols : List ApiColumn} {row : List ApiValue} {con : List PredNode} (hf : Fit cols row) (h : ConOk cols row con) {n : PredNode} (hn : n ∈ con) (h2 : n.Kind = 2) :
  (vAt row n.Col).Kind ≠ 0 ∧ holdS n.Op (vcmp (vAt row n.Col) n.Val) = true ∧ val (vAt row n.Col) = true ∧ val n.Val = true ∧ n.Val.Kind ≠ 0 ∧ clash (vAt row n.Col, n.Val) = false := by
 have a1 := h.hold n hn
 have a2 := h.form n hn
 have a3 := h.type n hn
 unfold leafV cmpN at a1
 unfold formS at a2
 unfold typeS at a3
 rw [if_pos h2] at a1 a2
 rw [decide_eq_true_eq] at a2
 rw [decide_eq_false_iff_not] at a3
 have k0 : (vAt row n.Col).Kind ≠ 0 := by
  intro k
  rw [if_pos k] at a1; cases a1
 rw [if_neg k0, cmpV_vcmp] at a1
 have hcol : 0 ≤ n.Col ∧ n.Col < cols.length := ⟨a2.1, a2.2.1⟩
 have hrow : 0 ≤ n.Col ∧ n.Col < row.length := by rw [hf.len]; exact hcol
 have hv := hf.val _ (vAt_mem hrow)
 have hfit := fitS_ok (hf.at hcol)
 have vn : val n.Val = true := by
  cases q : val n.Val with
  | true => rfl
  | false => exact absurd ⟨h2, .inl q⟩ a3
 have kn : n.Val.Kind ≠ 0 := fun k => a3 ⟨h2, .inr (.inl k)⟩
 have kk : n.Val.Kind = colK cols n.Col := by
  apply Decidable.byContradiction
  intro k
  exact a3 ⟨h2, .inr (.inr k)⟩
 have ck : colK cols n.Col = (colAt cols n.Col).Kind := by
  unfold colK colAt
  rw [List.getElem?_eq_getElem (by omega)]; rfl
 refine ⟨k0, a1, hv, vn, kn, ?_⟩
 unfold clash
 rcases hfit.2.1 with q | q
 ·exact absurd q k0
 ·have : (vAt row n.Col).Kind = n.Val.Kind := by rw [kk, ck, q]
  simp [this]
theorem fix_val {cols : List ApiColumn} {row : List ApiValue} {con : List PredNode} (hf : Fit cols row) (h : ConOk cols row con) {x : ApiPart} {n : PredNode} (hn : con.find? (fixB x.Col) = some n) : n.Val = vAt row x.Col := by
 have hm := List.mem_of_find?_eq_some hn
 have hp := List.find?_some hn
 unfold fixB at hp
 rw [decide_eq_true_eq] at hp
 obtain ⟨e, k⟩ := hp
 rw [← e]
 rcases h.kind n hm with h2 | h3
 ·obtain ⟨_, b, _, _, _, _⟩ := con_cmp hf h hm h2
  have o3 : n.Op = 3 := by rcases k with k | k <;> omega
  unfold holdS at b
  rw [if_neg (by omega), if_neg (by omega), if_pos o3, decide_eq_true_eq] at b
  exact (vcmp_zero.1 b).symm
 ·have a1 := h.hold n hm
  have a2 := h.form n hm
  unfold leafV at a1
  unfold formS at a2
  rw [if_neg (by omega), if_pos h3, decide_eq_true_eq] at a1 a2
  have hrow : 0 ≤ n.Col ∧ n.Col < row.length := by rw [hf.len]; exact ⟨a2.1, a2.2.1⟩
  rw [a2.2.2.2, val_null (hf.val _ (vAt_mem hrow)) a1]
theorem pre_key {cols : List ApiColumn} {row : List ApiValue} {con : List PredNode} (hf : Fit cols row) (h : ConOk cols row con) : ∀ ps : List ApiPart, keyP row ps = preP (fixP con ps) ++ keyP row (ps.drop (fixP con ps).length)
 | [] => rfl
 | x :: r => by
  cases hq : con.find? (fixB x.Col) with
  | none =>
   have e : fixP con (x :: r) = [] := by
    show (match con.find? (fixB x.Col) with | some n => (n, x) :: fixP con r | none => []) = _
    rw [hq]
   rw [e]; rfl
  | some n =>
   have e : fixP con (x :: r) = (n, x) :: fixP con r := by
    show (match con.find? (fixB x.Col) with | some n => (n, x) :: fixP con r | none => []) = _
    rw [hq]
   have ih := pre_key hf h r
   rw [e, List.length_cons, List.drop_succ_cons]
   show encP (vAt row x.Col) x.Down ++ keyP row r = encP n.Val x.Down ++ preP (fixP con r) ++ _
   rw [ih, fix_val hf h hq, List.append_assoc]
theorem endL_some {s a : List UInt8} (h : afterL s = some a) : endL s = a := by unfold endL; rw [h]; rfl
def within (K : List UInt8) (s : ApiSpan) : Prop := ltS K s.Lo = false ∧ ltS K s.Hi = true ∧ s.Open = false
theorem min_hi {K a b : List UInt8} (h : ltS K a = true) (k : ltS K b = true) : ltS K (minS a b) = true := by unfold minS; split <;> assumption
theorem max_lo {K a b : List UInt8} (h : ltS K a = false) (k : ltS K b = false) : ltS K (maxS a b) = false := by unfold maxS; split <;> assumption
theorem in_span (x : ApiPart) (pre tail : List UInt8) (v : ApiValue) (h : v.Kind ≠ 0) : within (pre ++ (encP v x.Down ++ tail)) (spanB x pre) := by
 obtain ⟨r, hr⟩ := encP_head v x.Down h
 rw [hr]
 unfold spanB
 cases hd : x.Down with
 | true =>
  rw [if_pos rfl, if_pos rfl]
  refine ⟨?_, ?_, rfl⟩
  ·show ltS _ pre = false
   exact nlt_pre pre _
  ·show ltS _ (endL (pre ++ [254])) = true
   rw [endL_some (afterL_last pre (by decide)), lts_pre]
   simp [lts_cons]
 | false =>
  rw [if_neg (by simp), if_neg (by simp)]
  refine ⟨?_, ?_, rfl⟩
  ·show ltS _ (pre ++ [1]) = false
   rw [show pre ++ ((1 : UInt8) :: r ++ tail) = (pre ++ [1]) ++ (r ++ tail) by simp]
   exact nlt_pre _ _
  ·show ltS _ (endL (pre ++ [1])) = true
   rw [endL_some (afterL_last pre (by decide)), lts_pre]
   simp [lts_cons]
theorem in_step {cols : List ApiColumn} {row : List ApiValue} {con : List PredNode} (hf : Fit cols row) (h : ConOk cols row con) (x : ApiPart) (pre tail : List UInt8) (s : Bool × ApiSpan) {n : PredNode} (hn : n ∈ con)
  (hs : within (pre ++ (encP (vAt row x.Col) x.Down ++ tail)) s.2) : within (pre ++ (encP (vAt row x.Col) x.Down ++ tail)) (stepB x pre s n).2 := by
 unfold stepB
 cases hq : skipB x n with
 | true => rw [if_pos rfl]; exact hs
 | false =>
  rw [if_neg (by simp)]
  unfold skipB at hq
  rw [decide_eq_false_iff_not] at hq
  simp only [not_or, ne_eq, Decidable.not_not] at hq
  obtain ⟨h2, hc, o3, o6⟩ := hq
  obtain ⟨c1, c2, c3, c4, c5, c6⟩ := con_cmp hf h hn h2
  have hop : 1 ≤ n.Op ∧ n.Op ≤ 6 := by
   have := h.form n hn
   unfold formS at this
   rw [if_pos h2, decide_eq_true_eq] at this
   exact ⟨this.2.2.1, this.2.2.2⟩
  rw [hc] at c1 c2 c3 c6
  generalize vAt row x.Col = v at *
  generalize n.Val = w at *
  generalize x.Down = d at *
  obtain ⟨w1, w2, w3⟩ := hs
  -- the difference of the two keys
  have hd : difB (encP v d) (encP w d) = if d = true then - vcmp v w else vcmp v w := by
   have := difB_enc c3 c4 c6
   unfold encP
   cases d with
   | false => exact this
   | true => show difB (List.map _ _) (List.map _ _) = _; rw [difB_turn, this]; rfl
  generalize hK : pre ++ (encP v d ++ tail) = K at *
  obtain ⟨a, hend⟩ := encP_end pre w d c5
  have below : difB (encP v d) (encP w d) < 0 → ltS K (pre ++ encP w d) = true := by
   intro q
   rw [← hK, lts_pre]
   have := difB_less tail [] q
   rw [List.append_nil] at this
   exact this
  have above : 0 < difB (encP v d) (encP w d) → ltS K (pre ++ encP w d) = false ∧ ∀ u, K ≠ (pre ++ encP w d) ++ u := by
   intro q
   refine ⟨?_, fun u e => ?_⟩
   ·rw [← hK, lts_pre]
    have := (difB_more tail [] q).1
    rw [List.append_nil] at this
    exact this
   ·rw [← hK, List.append_assoc] at e
    exact (difB_more tail u q).2 (List.append_cancel_left e)
  have same : difB (encP v d) (encP w d) = 0 → ∃ u, K = (pre ++ encP w d) ++ u := by
   intro q
   rw [hd] at q
   have : vcmp v w = 0 := by cases d <;> simp at q <;> omega
   obtain rfl := vcmp_zero.1 this
   exact ⟨tail, by rw [← hK, List.append_assoc]⟩
  have hless := afterL_less hend
  have e1 : difB (encP v d) (encP w d) ≤ 0 → ltS K (endL (pre ++ encP w d)) = true := by
   intro q
   rw [endL_some hend]
   rcases Int.lt_or_eq_of_le q with q | q
   ·exact lts_trans (below q) hless
   ·obtain ⟨u, e⟩ := same q
    have hp : inL (pre ++ encP w d) ((pre ++ encP w d) ++ u) = true := pre_inL
    unfold inL at hp
    rw [Bool.and_eq_true, hend] at hp
    rw [e]
    exact hp.2
  have e2 : 0 ≤ difB (encP v d) (encP w d) → ltS K (pre ++ encP w d) = false := by
   intro q
   rcases Int.lt_or_eq_of_le q with q | q
   ·exact (above q).1
   ·obtain ⟨u, e⟩ := same q.symm
    rw [e]
    exact nlt_pre _ _
  have e3 : 0 < difB (encP v d) (encP w d) → ltS K (endL (pre ++ encP w d)) = false := by
   intro q
   rw [endL_some hend]
   obtain ⟨q1, q2⟩ := above q
   have hp : inL (pre ++ encP w d) K = false := by
    rw [inL_prefix]
    cases hb : (pre ++ encP w d).isPrefixOf K with
    | false => rfl
    | true =>
     rw [List.isPrefixOf_iff_prefix] at hb
     obtain ⟨u, e⟩ := hb
     exact absurd e.symm (q2 u)
   unfold inL at hp
   rw [Bool.and_eq_false_iff, hend] at hp
   rcases hp with hp | hp
   ·rw [nlt_le.1 q1] at hp; cases hp
   ·exact hp
  unfold holdS at c2
  by_cases rr : decide (n.Op = 4 ∨ n.Op = 5) = d
  ·rw [if_pos rr]
   by_cases q : n.Op = 4 ∨ n.Op = 2
   ·rw [if_pos q]
    refine ⟨w1, min_hi w2 (e1 ?_), w3⟩
    rw [hd]
    rcases q with q | q
    ·rw [if_neg (by omega), if_neg (by omega), if_neg (by omega), if_pos q, decide_eq_true_eq] at c2
     have : d = true := by rw [← rr]; simp [q]
     rw [if_pos this]; omega
    ·rw [if_neg (by omega), if_pos q, decide_eq_true_eq] at c2
     have : d = false := by rw [← rr]; simp [q]
     rw [if_neg (by rw [this]; simp)]; omega
   ·rw [if_neg q]
    refine ⟨w1, min_hi w2 (below ?_), w3⟩
    rw [hd]
    by_cases q5 : n.Op = 5
    ·rw [if_neg (by omega), if_neg (by omega), if_neg (by omega), if_neg (by omega), if_pos q5, decide_eq_true_eq] at c2
     have : d = true := by rw [← rr]; simp [q5]
     rw [if_pos this]; omega
    ·have q1 : n.Op = 1 := by omega
     rw [if_pos q1, decide_eq_true_eq] at c2
     have : d = false := by rw [← rr]; simp [q1]
     rw [if_neg (by rw [this]; simp)]; omega
  ·rw [if_neg rr]
   by_cases q : n.Op = 4 ∨ n.Op = 2
   ·rw [if_pos q]
    refine ⟨max_lo w1 (e2 ?_), w2, w3⟩
    rw [hd]
    rcases q with q | q
    ·rw [if_neg (by omega), if_neg (by omega), if_neg (by omega), if_pos q, decide_eq_true_eq] at c2
     have : d = false := by cases d with | false => rfl | true => exact absurd (by simp [q]) rr
     rw [if_neg (by rw [this]; simp)]; omega
    ·rw [if_neg (by omega), if_pos q, decide_eq_true_eq] at c2
     have : d = true := by cases d with | true => rfl | false => exact absurd (by simp [q]) rr
     rw [if_pos this]; omega
   ·rw [if_neg q]
    refine ⟨max_lo w1 (e3 ?_), w2, w3⟩
    rw [hd]
    by_cases q5 : n.Op = 5
    ·rw [if_neg (by omega), if_neg (by omega), if_neg (by omega), if_neg (by omega), if_pos q5, decide_eq_true_eq] at c2
     have : d = false := by cases d with | false => rfl | true => exact absurd (by simp [q5]) rr
     rw [if_neg (by rw [this]; simp)]; omega
    ·have q1 : n.Op = 1 := by omega
     rw [if_pos q1, decide_eq_true_eq] at c2
     have : d = true := by cases d with | true => rfl | false => exact absurd (by simp [q1]) rr
     rw [if_pos this]; omega
theorem bound_ok (x : ApiPart) (pre : List UInt8) : ∀ (con : List PredNode) (s : Bool × ApiSpan), (con.foldl (stepB x pre) s).1 = true → s.1 = true ∨ ∃ n ∈ con, skipB x n = false
 | [], s, h => .inl h
 | n :: con, s, h => by
  rcases bound_ok x pre con _ h with k | ⟨m, hm, k⟩
  ·cases hq : skipB x n with
   | false => exact .inr ⟨n, by simp, hq⟩
   | true =>
    unfold stepB at k
    rw [hq, if_pos rfl] at k
    exact .inl k
  ·exact .inr ⟨m, by simp [hm], k⟩
theorem in_bound {cols : List ApiColumn} {row : List ApiValue} {con : List PredNode} (hf : Fit cols row) (h : ConOk cols row con) (x : ApiPart) (pre tail : List UInt8) (hb : (boundS x con pre).1 = true) : within (pre ++ (encP (vAt row x.Col) x.Down ++ tail)) (boundS x con pre).2 := by
 unfold boundS at hb ⊢
 have k0 : (vAt row x.Col).Kind ≠ 0 := by
  rcases bound_ok x pre con _ hb with k | ⟨n, hn, k⟩
  ·cases k
  ·unfold skipB at k
   rw [decide_eq_false_iff_not] at k
   simp only [not_or, ne_eq, Decidable.not_not] at k
   have := (con_cmp hf h hn k.1).1
   rw [k.2.1] at this
   exact this
 have key : ∀ (l : List PredNode) (s : Bool × ApiSpan), (∀ n ∈ l, n ∈ con) → within (pre ++ (encP (vAt row x.Col) x.Down ++ tail)) s.2 → within (pre ++ (encP (vAt row x.Col) x.Down ++ tail)) (l.foldl (stepB x pre) s).2 := by
  intro l
  induction l with
  | nil => intro s _ hs; exact hs
  | cons n l ih => intro s hl hs; exact ih _ (fun m hm => hl m (by simp [hm])) (in_step hf h x pre tail s (hl n (by simp)) hs)
 exact key con _ (fun _ h => h) (in_span x pre tail _ k0)
theorem in_bounds {cols : List ApiColumn} {row : List ApiValue} {con : List PredNode} (hf : Fit cols row) (h : ConOk cols row con) (ps : List ApiPart) (behind : List UInt8) : ref07_In (boundsS ps con).2.2 (keyS row ps ++ behind) = some true := by
 rw [keyS_P, pre_key hf h ps]
 unfold boundsS
 split
 ·rename_i x hx
  by_cases hb : (boundS x con (preP (fixP con ps))).1 = true
  ·rw [if_pos hb]
   have hlt := (List.getElem?_eq_some_iff.1 hx).1
   have e : ps.drop (fixP con ps).length = x :: ps.drop ((fixP con ps).length + 1) := by
    rw [List.drop_eq_getElem_cons hlt, (List.getElem?_eq_some_iff.1 hx).2]
   rw [e]
   have := in_bound hf h x (preP (fixP con ps)) (keyP row (ps.drop ((fixP con ps).length + 1)) ++ behind) hb
   obtain ⟨k1, k2, k3⟩ := this
   have e2 : preP (fixP con ps) ++ keyP row (x :: ps.drop ((fixP con ps).length + 1)) ++ behind = preP (fixP con ps) ++ (encP (vAt row x.Col) x.Down ++ (keyP row (ps.drop ((fixP con ps).length + 1)) ++ behind)) := by
    simp [keyP]
   rw [e2, In_eq, k1, k2, k3]; rfl
  ·rw [if_neg hb, List.append_assoc]
   exact in_und _ _
 ·rw [List.append_assoc]
  exact in_und _ _
theorem bounds_num (ps : List ApiPart) (con : List PredNode) : 0 ≤ (boundsS ps con).1 ∧ (boundsS ps con).1 ≤ ps.length := by
 have := fixP_len con ps
 unfold boundsS
 split
 ·split
  ·exact ⟨by show (0 : Int) ≤ ((fixP con ps).length : Int); omega, by show ((fixP con ps).length : Int) ≤ _; omega⟩
  ·exact ⟨by show (0 : Int) ≤ ((fixP con ps).length : Int); omega, by show ((fixP con ps).length : Int) ≤ _; omega⟩
 ·exact ⟨by show (0 : Int) ≤ ((fixP con ps).length : Int); omega, by show ((fixP con ps).length : Int) ≤ _; omega⟩
theorem conOk_of {cols : List ApiColumn} {row : List ApiValue} {t : PT} (ht : okTr t) (hf : ∀ n ∈ flat t, formS n cols.length = true ∧ typeS cols n = false) (hv : valT row t = true) : ConOk cols row (conS true t) :=
 ⟨con_holds row t ht hv, fun n hn => (con_sub true t n hn).2, fun n hn => (hf n (con_sub true t n hn).1).1, fun n hn => (hf n (con_sub true t n hn).1).2⟩
end Lv
namespace Lv
open Go Go.Proofs
section
variable {κ : Type} [BEq κ] [LawfulBEq κ]
end
variable [BaseTab]
theorem contains_eq (l : List Int) (x : Int) (h : l.length < 4611686018427387904) : slices_Contains_int_int l x = some (hasS l x) := by
 unfold slices_Contains_int_int slices_Index_int_int
 refine bo (a := idxI (fun c => c == x) l) (lqX l _ (fun i hi => ?_) ?_) (by rw [idxI_any]; rfl)
 ·rw [bif_decT (by omega), getI_at hi, bind_some', w64_succ (by omega), show (x == l[i]) = (l[i] == x) from BEq.comm]
  cases l[i] == x <;> rfl
 ·rw [bif_decF (by omega)]
def OkY (x : ApiIndex) : Prop := OkX x ∧ x.Parts.length * 8 ≤ room
end Lv
namespace Lv
open Go
variable [BaseTab]
omit [BaseTab] in
theorem okY_ofB {R : Nat} (hR : R ≤ 140737488355328) {x : ApiIndex} (h : okApiIndex R x) : OkY x := by
 obtain ⟨k1, k2, k3, _⟩ := h
 have q2 := k2.1
 have q3 := k3.1
 exact ⟨⟨by omega, by omega, by omega⟩, by rw [room_val]; omega⟩
omit [BaseTab] in
theorem okT_ofB {R : Nat} (hR : R ≤ 140737488355328) {t : ApiTable} (h : okApiTable R t) : OkT t := by
 obtain ⟨h1, h2, h3, h4, h5, _⟩ := h
 have q2 := h2.1
 have q3 := h3.1
 have q4 := h4.1
 refine ⟨by omega, ⟨by omega, fun c hc => ?_⟩, by omega, by omega, fun x hx => (okY_ofB hR (h4.2 x hx)).1⟩
 obtain ⟨k1, k2, k3, k4, k5, _⟩ := h2.2 c hc
 exact ⟨by omega, by have := k5.2.2.1; omega⟩
end Lv
namespace Lv
open Go Go.Proofs
variable [BaseTab]
def itR : Nat → Int
 | 0 => 1000
 | n + 1 => Int.tdiv (itR n) 10
theorem itR_le : ∀ n, 0 ≤ itR n ∧ itR n ≤ 1000
 | 0 => by simp [itR]
 | n + 1 => by
  have := itR_le n
  unfold itR
  rw [Int.tdiv_eq_ediv_of_nonneg this.1]
  omega
def rowsS (f : Int) (b one : Bool) : Int := if one = true then 1 else max (if b = true then Int.tdiv (itR f.toNat) 3 else itR f.toNat) 1
theorem rowsS_le (f : Int) (b one : Bool) : 1 ≤ rowsS f b one ∧ rowsS f b one ≤ 1000 := by
 have := itR_le f.toNat
 unfold rowsS
 split
 ·omega
 ·split
  ·rw [Int.tdiv_eq_ediv_of_nonneg this.1]; omega
  ·omega
theorem rows_eq (p : PlanPlan) (one : Bool) (h : 0 ≤ p.Fixed ∧ p.Fixed ≤ 1000) : plan_rows p one = some (rowsS p.Fixed p.Bounded one) := by
 unfold plan_rows
 have hf : ((p.Fixed.toNat : Nat) : Int) = p.Fixed := by omega
 refine lpA (w := itR p.Fixed.toNat) (lq1 (fun i => (itR i, (i : Int))) p.Fixed.toNat (fun i hi => ?_) ?_ rfl) ?_
 ·show (bif _ then _ else _) = _
  have h1 := itR_le i
  have h2 := itR_le (i + 1)
  rw [bif_decT (by omega), w64_succ (by omega)]
  show some (Sum.inl (w64 (itR (i + 1)), _)) = _
  rw [w64_id (by omega) (by omega)]
 ·show (bif _ then _ else _) = _
  rw [bif_decF (by omega)]
 ·have h1 := itR_le p.Fixed.toNat
  refine bo (a := if p.Bounded = true then Int.tdiv (itR p.Fixed.toNat) 3 else itR p.Fixed.toNat) ?_ ?_
  ·cases p.Bounded with
   | true =>
    refine bt rfl ?_
    rw [w64_id (by rw [Int.tdiv_eq_ediv_of_nonneg h1.1]; omega) (by rw [Int.tdiv_eq_ediv_of_nonneg h1.1]; omega)]; rfl
   | false => rfl
  ·unfold rowsS
   cases one <;> rfl
theorem take_s {α : Type} (l : List α) (i : Nat) (hi : i < l.length) : l.take (i + 1) = l.take i ++ [l[i]] := by
 rw [List.take_add_one, List.getElem?_eq_getElem hi]; rfl
theorem order_eq (q : PlanQuery) (h : q.Order.length * 16 ≤ 140737488351232) : plan_Query_order q = some (colsOf q.Order) := by
 unfold plan_Query_order
 refine lpA (w := colsOf q.Order) (lq1 (fun i => (colsOf (q.Order.take i), (i : Int))) q.Order.length (fun i hi => ?_) ?_ rfl) rfl
 ·show (bif _ then _ else _) = _
  rw [bif_decT (by omega)]
  refine bo (getI_at hi) ?_
  refine gt (by unfold colsOf; rw [List.length_map, List.length_take, List.length_singleton, room_val]; omega) ?_
  rw [w64_succ (by omega), take_s _ i hi]
  unfold colsOf
  rw [List.map_append]; rfl
 ·show (bif _ then _ else _) = _
  rw [bif_decF (by omega), List.take_length]
theorem grow_eq (n : Nat) (h : n ≤ 1000000) : slices_Grow_int_int (n : Int) = some () := by
 unfold slices_Grow_int_int
 refine bo (a := ()) (by rw [bif_decF (by omega)]) ?_
 have e : w64 ((n : Int) - w64 ((0 : Int) - (0 : Int))) = (n : Int) := by
  rw [show w64 ((0 : Int) - (0 : Int)) = 0 by rw [w64_id (by omega) (by omega)]; rfl, w64_id (by omega) (by omega)]; omega
 rw [e]
 refine bo (a := ()) ?_ rfl
 by_cases h0 : n = 0
 ·rw [bif_decF (by omega)]
 ·rw [bif_decT (by omega)]
  refine gt rfl ?_
  refine gt (by omega) ?_
  exact gt (by omega) rfl
theorem concat_eq (l : List (List Int)) (h : l.flatten.length ≤ 100000) (hl : l.length ≤ 1000) : slices_Concat_int_int l = some l.flatten := by
 unfold slices_Concat_int_int
 have hle : ∀ i, ((l.take i).flatten).length ≤ l.flatten.length := by
  intro i
  have : l.flatten = (l.take i).flatten ++ (l.drop i).flatten := by rw [← List.flatten_append, List.take_append_drop]
  rw [this, List.length_append]; omega
 refine lpA (w := (l.flatten.length : Int)) (lq1 (fun i => ((((l.take i).flatten).length : Int), (i : Int))) l.length (fun i hi => ?_) ?_ rfl) ?_
 ·show (bif _ then _ else _) = _
  rw [bif_decT (by omega)]
  have h2 := hle (i + 1)
  have e : ((l.take (i + 1)).flatten).length = ((l.take i).flatten).length + l[i].length := by rw [take_s l i hi]; simp only [List.flatten_append, List.flatten_cons, List.flatten_nil, List.append_nil, List.length_append]
  have ew : w64 ((((l.take i).flatten).length : Int) + (l[i].length : Int)) = (((l.take (i + 1)).flatten).length : Int) := by
   rw [w64_id (by omega) (by omega)]; omega
  refine bo (a := (((l.take (i + 1)).flatten).length : Int)) ?_ (by rw [w64_succ (by omega)])
  refine bo (getI_at hi) ?_
  show (bif decide (w64 ((((l.take i).flatten).length : Int) + (l[i].length : Int)) < 0) then _ else _) = _
  rw [ew, bif_decF (by omega)]
 ·show (bif _ then _ else _) = _
  rw [bif_decF (by omega), List.take_length]
 ·refine bo (grow_eq _ (by omega)) ?_
  refine lpA (w := l.flatten) (lq1 (fun i => ((l.take i).flatten, (i : Int))) l.length (fun i hi => ?_) ?_ rfl) rfl
  ·show (bif _ then _ else _) = _
   rw [bif_decT (by omega)]
   refine bo (getI_at hi) ?_
   have h2 := hle (i + 1)
   have e : (l.take (i + 1)).flatten = (l.take i).flatten ++ l[i] := by rw [take_s l i hi]; simp only [List.flatten_append, List.flatten_cons, List.flatten_nil, List.append_nil]
   have e2 := congrArg List.length e
   rw [List.length_append] at e2
   refine gt (by rw [room_val]; omega) ?_
   rw [w64_succ (by omega), e]
  ·show (bif _ then _ else _) = _
   rw [bif_decF (by omega), List.take_length]
def needsS (q : PlanQuery) : List Int := onceI [onceI (askC q.Pred), q.Cols, colsOf q.Order].flatten
theorem onceI_len (l : List Int) : (onceI l).length ≤ l.length := by
 have : ∀ (a : Array Int) (m : Nat), (Go.Lib.compactUpTo a m).length ≤ m := by
  intro a m
  induction m with
  | zero => simp [Go.Lib.compactUpTo]
  | succ m ih =>
   rw [Go.Lib.compactUpTo_succ, List.length_append]
   split <;> simp <;> omega
 unfold onceI Go.Lib.compact
 have h := this (l.mergeSort fun x y => decide (x ≤ y)).toArray (l.mergeSort fun x y => decide (x ≤ y)).length
 rw [List.length_mergeSort] at h ⊢
 exact h
theorem askC_len (p : List PredNode) : (askC p).length ≤ p.length := by unfold askC; rw [List.length_map]; exact List.length_filter_le _ _
theorem Needs_eq (q : PlanQuery) (h1 : q.Pred.length ≤ 1000) (h2 : q.Cols.length ≤ 1000) (h3 : q.Order.length ≤ 1000) : plan_Needs q = some (needsS q) := by
 unfold plan_Needs needsS
 have a1 := onceI_len (askC q.Pred)
 have a2 := askC_len q.Pred
 refine bo (Cols_eq q.Pred (by omega)) ?_
 refine bo (order_eq q (by omega)) ?_
 have hf : ([onceI (askC q.Pred), q.Cols, colsOf q.Order].flatten).length ≤ 3000 := by simp [colsOf]; omega
 refine bo (concat_eq _ (by omega) (by simp)) ?_
 generalize [onceI (askC q.Pred), q.Cols, colsOf q.Order].flatten = l at hf
 refine bo (a := l.mergeSort fun x y => decide (x ≤ y)) (by unfold isortF; rw [if_pos (by omega)]) ?_
 refine bo (a := onceI l) ?_ rfl
 unfold icompactF onceI
 rw [if_pos ⟨rfl, by rw [List.length_mergeSort], by rw [List.length_mergeSort]; omega⟩]
theorem needs_len (q : PlanQuery) (h1 : q.Pred.length ≤ 1000) (h2 : q.Cols.length ≤ 1000) (h3 : q.Order.length ≤ 1000) : (needsS q).length ≤ 3000 := by
 unfold needsS
 have a0 := onceI_len [onceI (askC q.Pred), q.Cols, colsOf q.Order].flatten
 have a1 := onceI_len (askC q.Pred)
 have a2 := askC_len q.Pred
 have hf : ([onceI (askC q.Pred), q.Cols, colsOf q.Order].flatten).length ≤ 3000 := by simp [colsOf]; omega
 omega
def tellB (t : ApiTable) (x : ApiIndex) (c : Int) : Bool := !(x.Parts.any fun p => p.Col == c) && (!hasS x.Extra c && !hasS t.Primary c)
theorem tells1_eq (c : Int) (x : ApiIndex) (t : ApiTable) (h1 : x.Parts.length < 4611686018427387904) (h2 : x.Extra.length < 4611686018427387904) (h3 : t.Primary.length < 4611686018427387904) : plan_tells_1 c x t = some (tellB t x c) := by
 unfold plan_tells_1 tellB
 refine bo (a := x.Parts.any fun p => p.Col == c) ?_ ?_
 ·unfold slices_ContainsFunc_api_Part_api_Part_1 slices_IndexFunc_api_Part_api_Part_1
  refine bo (lqX x.Parts (fun p => p.Col == c) (fun i hi => ?_) ?_) (by rw [idxI_any])
  ·show (bif _ then _ else _) = _
   rw [bif_decT (by omega), getI_at hi, bind_some']
   refine bo (a := ()) rfl ?_
   rw [w64_succ (by omega)]
   cases x.Parts[i].Col == c <;> rfl
  ·show (bif _ then _ else _) = _
   rw [bif_decF (by omega)]
 ·refine bo (a := !(x.Parts.any fun p => p.Col == c) && (!hasS x.Extra c && !hasS t.Primary c)) ?_ rfl
  cases x.Parts.any fun p => p.Col == c with
  | true => rfl
  | false =>
   refine bt rfl ?_
   refine bo (contains_eq x.Extra c h2) ?_
   cases hasS x.Extra c with
   | true => rfl
   | false =>
    refine bt rfl ?_
    exact bo (contains_eq t.Primary c h3) rfl
def tellS (t : ApiTable) (x : ApiIndex) (needs : List Int) : Bool := !(needs.any (tellB t x))
theorem tells_eq (t : ApiTable) (x : ApiIndex) (needs : List Int) (hn : needs.length ≤ 10000) (h1 : x.Parts.length < 4611686018427387904) (h2 : x.Extra.length < 4611686018427387904) (h3 : t.Primary.length < 4611686018427387904) : plan_tells t x needs = some (tellS t x needs) := by
 unfold plan_tells tellS
 refine bo (a := needs.any (tellB t x)) ?_ rfl
 unfold slices_ContainsFunc_int_int_3 slices_IndexFunc_int_int_3
 refine bo (lqX needs (tellB t x) (fun i hi => ?_) ?_) (by rw [idxI_any])
 ·show (bif _ then _ else _) = _
  rw [bif_decT (by omega), getI_at hi, bind_some']
  refine bo (tells1_eq _ x t h1 h2 h3) ?_
  rw [w64_succ (by omega)]
  cases tellB t x needs[i] <;> rfl
 ·show (bif _ then _ else _) = _
  rw [bif_decF (by omega)]
def costS (cov : Bool) (n : Int) : Int := if cov = true then 1 + n else 2 + 4 * n
def planX (t : ApiTable) (con : List PredNode) (needs : List Int) (i : Int) (x : ApiIndex) : PlanPlan :=
 PlanPlan.mk i (boundsS x.Parts con).2.2 (boundsS x.Parts con).1 (boundsS x.Parts con).2.1 (tellS t x needs)
  (costS (tellS t x needs) (rowsS (boundsS x.Parts con).1 (boundsS x.Parts con).2.1 (x.Unique && decide ((boundsS x.Parts con).1 = x.Parts.length))))
def idxS (t : ApiTable) (con : List PredNode) (needs : List Int) : Int → List ApiIndex → List PlanPlan
 | _, [] => []
 | i, x :: l => if x.Ready = true then planX t con needs i x :: idxS t con needs (i + 1) l else idxS t con needs (i + 1) l
theorem idxS_snoc (t : ApiTable) (con : List PredNode) (needs : List Int) (x : ApiIndex) : ∀ (l : List ApiIndex) (i : Int), idxS t con needs i (l ++ [x]) = idxS t con needs i l ++ (if x.Ready = true then [planX t con needs (i + l.length) x] else [])
 | [], i => by
  show (if x.Ready = true then _ else _) = _
  simp [idxS]
 | y :: l, i => by
  have ih := idxS_snoc t con needs x l (i + 1)
  have e : i + 1 + (l.length : Int) = i + ((y :: l).length : Int) := by simp; omega
  rw [e] at ih
  rw [List.cons_append, idxS, idxS]
  split
  ·rw [ih]; rfl
  ·rw [ih]
def fullP : PlanPlan := PlanPlan.mk (-1) (undS []) 0 false false 2000
def primP (t : ApiTable) (con : List PredNode) : PlanPlan :=
 PlanPlan.mk (-2) (boundsS (upS t.Primary) con).2.2 (boundsS (upS t.Primary) con).1 (boundsS (upS t.Primary) con).2.1 false
  (1 + 2 * rowsS (boundsS (upS t.Primary) con).1 (boundsS (upS t.Primary) con).2.1 (decide ((boundsS (upS t.Primary) con).1 = t.Primary.length)))
def headP (t : ApiTable) (con : List PredNode) : List PlanPlan :=
 if (boundsS (upS t.Primary) con).1 > 0 ∨ (boundsS (upS t.Primary) con).2.1 = true then [fullP, primP t con] else [fullP]
def plansS (t : ApiTable) (con : List PredNode) (needs : List Int) : List PlanPlan := headP t con ++ idxS t con needs 0 t.Indexes
theorem idxS_len (t : ApiTable) (con : List PredNode) (needs : List Int) : ∀ (l : List ApiIndex) (i : Int), (idxS t con needs i l).length ≤ l.length
 | [], i => by simp [idxS]
 | x :: l, i => by
  have := idxS_len t con needs l (i + 1)
  unfold idxS
  split
  ·simp; omega
  ·simp; omega
theorem headP_len (t : ApiTable) (con : List PredNode) : (headP t con).length ≤ 2 := by unfold headP; split <;> simp
theorem Plans_eq (t : ApiTable) (q : PlanQuery) (tr : PT) (ht : okTr tr) (hq : flat tr = q.Pred) (hl : q.Pred.length ≤ 200) (hv : ∀ n ∈ conS true tr, val n.Val = true) (h1 : t.Primary.length ≤ 100) (h2 : t.Indexes.length ≤ 1000)
  (h3 : ∀ x ∈ t.Indexes, x.Parts.length ≤ 100 ∧ x.Extra.length < 4611686018427387904) (h4 : q.Cols.length ≤ 1000) (h5 : q.Order.length ≤ 1000) : plan_Plans t q = some (plansS t (conS true tr) (needsS q)) := by
 unfold plan_Plans
 refine bo (Under_eq [] (by simp)) ?_
 refine lpA (w := upS t.Primary) (lq1 (fun i => (upS (t.Primary.take i), (i : Int))) t.Primary.length (fun i hi => ?_) ?_ rfl) ?_
 ·show (bif _ then _ else _) = _
  rw [bif_decT (by omega)]
  refine bo (getI_at hi) ?_
  refine gt (by unfold upS; rw [List.length_map, List.length_take, List.length_singleton, room_val]; omega) ?_
  rw [w64_succ (by omega), take_s _ i hi]
  unfold upS
  rw [List.map_append]; rfl
 ·show (bif _ then _ else _) = _
  rw [bif_decF (by omega), List.take_length]
 have hup : (upS t.Primary).length = t.Primary.length := by simp [upS]
 have hB := Bounds_eq (upS t.Primary) tr ht (by omega) (by rw [hq]; omega) hv
 have hn := bounds_num (upS t.Primary) (conS true tr)
 rw [hq] at hB
 have hneeds := needs_len q (by omega) h4 h5
 rcases hbs : boundsS (upS t.Primary) (conS true tr) with ⟨f, b, sp⟩
 rw [hbs] at hB hn
 refine (show Option.bind (pred_Bounds (upS t.Primary) q.Pred) _ = _ from ?_)
 rw [hB, bind_some']
 have r1 := rowsS_le f b (decide (f = t.Primary.length))
 refine bo (a := headP t (conS true tr)) ?_ ?_
 ·unfold headP primP
  rw [hbs]
  have hn : 0 ≤ f ∧ f ≤ (upS t.Primary).length := hn
  refine bo (a := decide (f > 0 ∨ b = true)) ?_ ?_
  ·by_cases q : f > 0
   ·rw [bif_decT q]; simp [q]
   ·rw [bif_decF q]; simp [q]
  ·show _ = some (if f > 0 ∨ b = true then _ else _)
   by_cases q : f > 0 ∨ b = true
   ·rw [decide_eq_true q, if_pos q]
    refine bt rfl ?_
    refine bo (rows_eq _ _ (by show 0 ≤ f ∧ f ≤ 1000; omega)) ?_
    have e : (f == ((upS t.Primary).length : Int)) = decide (f = t.Primary.length) := by rw [hup, Bool.beq_eq_decide_eq]
    rw [e]
    show (bif decide ((1 + 1) * 72 ≤ room) then _ else _) = _
    rw [bif_decT (by rw [room_val]; omega)]
    show some ([fullP] ++ [PlanPlan.mk (-2) sp f b false (w64 (1 + w64 (2 * rowsS f b (decide (f = t.Primary.length)))))]) = _
    rw [w64_id (n := 2 * rowsS f b (decide (f = t.Primary.length))) (by omega) (by omega), w64_id (by omega) (by omega)]
    rfl
   ·rw [decide_eq_false q, if_neg q]; rfl
 refine bo (Needs_eq q (by omega) h4 h5) ?_
 have hh := headP_len t (conS true tr)
 unfold plansS
 generalize headP t (conS true tr) = hd at hh
 refine lpA (w := hd ++ idxS t (conS true tr) (needsS q) 0 t.Indexes) (lq1 (fun i => (hd ++ idxS t (conS true tr) (needsS q) 0 (t.Indexes.take i), (i : Int))) t.Indexes.length (fun i hi => ?_) ?_ (by simp [idxS])) ?_
 ·show (bif _ then _ else _) = _
  rw [bif_decT (by omega)]
  have hx := h3 _ (List.getElem_mem hi)
  have hil := idxS_len t (conS true tr) (needsS q) (t.Indexes.take i) 0
  rw [List.length_take] at hil
  rw [take_s _ i hi, idxS_snoc, List.length_take, Nat.min_eq_left (by omega), ← List.append_assoc]
  generalize hout : hd ++ idxS t (conS true tr) (needsS q) 0 (t.Indexes.take i) = out
  have hol : out.length ≤ 2 + i := by rw [← hout, List.length_append]; omega
  refine bo (a := out ++ (if t.Indexes[i].Ready = true then [planX t (conS true tr) (needsS q) (0 + (i : Int)) t.Indexes[i]] else [])) ?_ (by rw [w64_succ (by omega)])
  refine bo (getI_at hi) ?_
  generalize t.Indexes[i] = x at hx
  cases hr : x.Ready with
  | false =>
   refine bt rfl ?_
   simp
  | true =>
   refine bf rfl ?_
   have hBx := Bounds_eq x.Parts tr ht (by omega) (by rw [hq]; omega) hv
   rw [hq] at hBx
   have hnx := bounds_num x.Parts (conS true tr)
   refine bo (tells_eq t x _ (by omega) (by omega) hx.2 (by omega)) ?_
   rcases hbx : boundsS x.Parts (conS true tr) with ⟨f, b, sp⟩
   rw [hbx] at hBx hnx
   refine (show Option.bind (pred_Bounds x.Parts q.Pred) _ = _ from ?_)
   rw [hBx, bind_some', if_pos rfl, Int.zero_add]
   unfold planX
   rw [hbx]
   generalize tellS t x (needsS q) = cov
   have hnx : 0 ≤ f ∧ f ≤ x.Parts.length := hnx
   have hr1 := rowsS_le f b (x.Unique && decide (f = x.Parts.length))
   refine bo (a := rowsS f b (x.Unique && decide (f = x.Parts.length))) ?_ ?_
   ·cases x.Unique with
    | true =>
     refine bt rfl ?_
     refine bo (rows_eq _ _ (by show 0 ≤ f ∧ f ≤ 1000; omega)) ?_
     rw [Bool.true_and, Bool.beq_eq_decide_eq]
    | false =>
     refine bf rfl ?_
     exact bo (rows_eq _ _ (by show 0 ≤ f ∧ f ≤ 1000; omega)) rfl
   ·generalize rowsS f b (x.Unique && decide (f = x.Parts.length)) = nr at hr1
    refine bo (a := PlanPlan.mk (i : Int) sp f b cov (costS cov nr)) ?_ ?_
    ·cases cov with
     | true =>
      refine bt rfl ?_
      rw [w64_id (by omega) (by omega)]; rfl
     | false =>
      refine bf rfl ?_
      rw [w64_id (n := 4 * nr) (by omega) (by omega), w64_id (by omega) (by omega)]; rfl
    ·exact gt (by rw [List.length_singleton, room_val]; omega) rfl
 ·show (bif _ then _ else _) = _
  rw [bif_decF (by omega), List.take_length]
 ·rfl
theorem outside_eq (t : ApiTable) (l : List Int) (h : l.length ≤ 1000) : ∃ b, slices_ContainsFunc_int_int_4 l t = some b := by
 unfold slices_ContainsFunc_int_int_4 slices_IndexFunc_int_int_4
 refine ⟨_, bo (lqX l (fun c => decide (c < 0 ∨ c ≥ t.Cols.length)) (fun i hi => ?_) ?_) rfl⟩
 ·show (bif _ then _ else _) = _
  rw [bif_decT (by omega), getI_at hi, bind_some']
  refine bo (a := decide (l[i] < 0 ∨ l[i] ≥ t.Cols.length)) ?_ ?_
  ·unfold plan_Check_1
   refine bo (a := decide (l[i] < 0 ∨ l[i] ≥ t.Cols.length)) ?_ rfl
   by_cases q : l[i] < 0
   ·rw [bif_decT q]; simp [q]
   ·rw [bif_decF q]; simp [q]
  ·rw [w64_succ (by omega)]
   by_cases q : l[i] < 0 ∨ l[i] ≥ t.Cols.length
   ·rw [decide_eq_true q]; rfl
   ·rw [decide_eq_false q]; rfl
 ·show (bif _ then _ else _) = _
  rw [bif_decF (by omega)]
theorem PCheck_ok (t : ApiTable) (q : PlanQuery) (hc : t.Cols.length < 4611686018427387904) (hp : ∀ n ∈ q.Pred, OkN n) (ho : q.Order.length * 16 ≤ 140737488351232) : ∃ e, plan_Check t q = some e ∧ (e = 0 → checkS t.Cols q.Pred = 0 ∧ q.Cols.length ≤ 24 ∧ q.Order.length ≤ 4) := by
  unfold plan_Check
  rw [Check_eq t.Cols q.Pred hc hp, bind_some']
  by_cases h0 : checkS t.Cols q.Pred = 0
  rotate_left
  · exact ⟨checkS t.Cols q.Pred, bt (by simpa using h0) rfl, fun h => absurd h h0⟩
  rw [h0, order_eq q ho]
  have hol : (colsOf q.Order).length = q.Order.length := by simp [colsOf]
  by_cases g : q.Cols.length > 24 ∨ q.Order.length > 4 ∨ q.Limit < -1
  · refine ⟨1, ?_, by simp⟩
    refine bf rfl ?_
    rw [bind_some']
    refine bo (a := true) ?_ rfl
    by_cases g1 : q.Cols.length > 24
    · rw [bif_decT (by omega)]
    rw [bif_decF (by omega)]
    by_cases g2 : q.Order.length > 4
    · rw [bif_decT (by omega)]
    rw [bif_decF (by omega), decide_eq_true (by omega)]
  have key : ∃ e, (Option.bind (α := Bool)
        (Option.bind (slices_ContainsFunc_int_int_4 q.Cols t) fun r55 =>
        bif r55 then
          some true
        else
          Option.bind (slices_ContainsFunc_int_int_4 (colsOf q.Order) t) fun r57 =>
          some r57)
        fun y52 =>
      bif y52 then
        some (1 : Int)
      else
        Option.bind (isortF (colsOf q.Order)) fun r59 =>
        Option.bind (icompactF r59 0 (colsOf q.Order).length) fun r61 =>
        bif (decide ((r61.length : Int) < (q.Order.length : Int))) then
          some (1 : Int)
        else
          some (0 : Int)) = some e := by
    obtain ⟨b1, e1⟩ := outside_eq t q.Cols (by omega)
    obtain ⟨b2, e2⟩ := outside_eq t (colsOf q.Order) (by omega)
    rw [e1, bind_some', e2]
    have hs : isortF (colsOf q.Order) = some ((colsOf q.Order).mergeSort fun x y => decide (x ≤ y)) := by unfold isortF; rw [if_pos (by omega)]
    have hk : icompactF ((colsOf q.Order).mergeSort fun x y => decide (x ≤ y)) 0 (colsOf q.Order).length = some (onceI (colsOf q.Order)) := by
      unfold icompactF onceI
      rw [if_pos ⟨rfl, by rw [List.length_mergeSort], by rw [List.length_mergeSort]; omega⟩]
    cases b1 with
    | true => exact ⟨1, rfl⟩
    | false =>
      cases b2 with
      | true => exact ⟨1, rfl⟩
      | false =>
        by_cases k : ((onceI (colsOf q.Order)).length : Int) < (q.Order.length : Int)
        · refine ⟨1, ?_⟩
          refine bo (a := false) rfl ?_
          refine bf rfl ?_
          refine bo hs ?_
          refine bo hk ?_
          rw [bif_decT k]
        · refine ⟨0, ?_⟩
          refine bo (a := false) rfl ?_
          refine bf rfl ?_
          refine bo hs ?_
          refine bo hk ?_
          rw [bif_decF k]
  obtain ⟨e, he⟩ := key
  refine ⟨e, ?_, fun _ => ⟨rfl, by omega, by omega⟩⟩
  refine bf rfl ?_
  rw [bind_some']
  refine bo (a := false) ?_ (bf rfl he)
  rw [bif_decF (by omega), bif_decF (by omega), decide_eq_false (by omega)]
theorem plansS_cons (t : ApiTable) (con : List PredNode) (needs : List Int) : ∃ rest, plansS t con needs = fullP :: rest ∧ ∀ p ∈ rest, p = primP t con ∨ ∃ (j : Nat) (h : j < t.Indexes.length), t.Indexes[j].Ready = true ∧ p = planX t con needs j t.Indexes[j] := by
 have key : ∀ (l : List ApiIndex) (i : Nat), t.Indexes.drop i = l → ∀ p ∈ idxS t con needs (i : Int) l, ∃ (j : Nat) (h : j < t.Indexes.length), t.Indexes[j].Ready = true ∧ p = planX t con needs j t.Indexes[j] := by
  intro l
  induction l with
  | nil => intro i _ p hp; cases hp
  | cons x l ih =>
   intro i hd p hp
   have hi : i < t.Indexes.length := by
    rcases Nat.lt_or_ge i t.Indexes.length with q | q
    ·exact q
    ·rw [List.drop_of_length_le q] at hd; cases hd
   rw [List.drop_eq_getElem_cons hi] at hd
   obtain ⟨e1, e2⟩ := List.cons.inj hd
   have ih' := ih (i + 1) e2
   unfold idxS at hp
   split at hp
   ·rename_i hr
    rcases List.mem_cons.1 hp with rfl | hp
    ·exact ⟨i, hi, by rw [e1]; exact hr, by rw [e1]⟩
    ·exact ih' p hp
   ·exact ih' p hp
 have hidx := key t.Indexes 0 (by simp)
 unfold plansS headP
 split
 ·exact ⟨primP t con :: idxS t con needs 0 t.Indexes, rfl, fun p hp => by
   rcases List.mem_cons.1 hp with rfl | hp
   ·exact .inl rfl
   ·exact .inr (hidx p hp)⟩
 ·exact ⟨idxS t con needs 0 t.Indexes, rfl, fun p hp => .inr (hidx p hp)⟩
theorem xs_small {t : ApiTable} (r : Right t) : ∀ x ∈ t.Indexes, x.Parts.length ≤ 100 ∧ x.Extra.length < 4611686018427387904 := fun x hx => by
 have rx := RightX.of (r.idx x hx)
 have h1 := rx.par
 have h2 := nodup_len rx.ext
 have h3 := r.len
 exact ⟨by omega, by omega⟩
theorem PlanSpans_aw (ha : law21_awake = some true) (t : ApiTable) (q : PlanQuery) (l : List ApiValue) (hT : OkT t) (hp : ∀ n ∈ q.Pred, OkN n) (ho : q.Order.length * 16 ≤ 140737488351232) (hl : OkVs l) : law21_PlanSpans t q l = some true := by
 unfold law21_PlanSpans
 refine bo ha ?_
 refine bf rfl ?_
 obtain ⟨e, he, hok⟩ := PCheck_ok t q hT.cols.1 hp ho
 by_cases g1 : chkS t = 0
 rotate_left
 ·refine bo (a := true) ?_ rfl
  refine bo (ref17_Check_eq t hT) ?_
  exact bt (by simpa using g1) rfl
 by_cases g2 : e = 0
 rotate_left
 ·refine bo (a := true) ?_ rfl
  refine bo (ref17_Check_eq t hT) ?_
  refine bf (by simpa using g1) ?_
  refine bo he ?_
  simpa using g2
 refine bo (a := false) ?_ ?_
 ·refine bo (ref17_Check_eq t hT) ?_
  refine bf (by simpa using g1) ?_
  refine bo he ?_
  simpa using g2
 refine bf rfl ?_
 subst g2
 obtain ⟨k1, k2, k3⟩ := hok rfl
 have r := Right.of g1
 obtain ⟨hpl, hf, tr, kt, hq⟩ := check_ok k1
 have hv : ∀ n ∈ conS true tr, val n.Val = true := con_val (by rw [hq]; exact hf)
 refine bo (Plans_eq t q tr kt hq hpl hv (by have := r.pri; omega) (by have := r.ixs; omega) (xs_small r) (by omega) (by omega)) ?_
 obtain ⟨rest, hcons, hrest⟩ := plansS_cons t (conS true tr) (needsS q)
 rw [hcons]
 refine bo (a := false) ?_ ?_
 ·refine bf (by simp <;> omega) ?_
  have g0 : getI (fullP :: rest) (0 : Int) = some fullP := getI_at (xs := fullP :: rest) (i := 0) (by simp)
  refine bo g0 ?_
  refine bf rfl ?_
  refine bo g0 ?_
  rfl
 refine bf rfl ?_
 by_cases hfit : fitsS t.Cols l = 0
 rotate_left
 ·refine bo (a := true) ?_ rfl
  refine bo (row_Fits_eq t.Cols l hT.cols hl) ?_
  exact bt (by simpa using hfit) rfl
 have lr := Fits_row hfit
 have nt : ∀ n ∈ flat tr, nodeR l n := fun n hn => nodeR_form (by rw [lr]; exact (hf n (by rw [← hq]; exact hn)).1)
 have hEv : pred_Eval q.Pred l = some (valT l tr) := by rw [← hq]; exact Eval_eq tr l kt (by rw [hq]; omega) nt
 refine bo (a := !valT l tr) ?_ ?_
 ·refine bo (row_Fits_eq t.Cols l hT.cols hl) ?_
  refine bf (by simpa using hfit) ?_
  exact bo hEv rfl
 cases hval : valT l tr with
 | false => rfl
 | true =>
  refine bf rfl ?_
  have fit := Fit.of hfit
  have ok := conOk_of kt (by rw [hq]; exact hf) hval
  have hil := headP_len t (conS true tr)
  have hil2 := idxS_len t (conS true tr) (needsS q) t.Indexes 0
  have hrl : rest.length ≤ 100 := by
   have := congrArg List.length hcons
   unfold plansS at this
   rw [List.length_append, List.length_cons] at this
   have := r.ixs
   omega
  refine lpE (w := .inl ()) (lq1 (fun i => ((i + 1 : Nat) : Int)) rest.length (fun i hi => ?_) ?_ rfl) rfl
  ·show (bif _ then _ else _) = _
   rw [bif_decT (by simp; omega)]
   refine bo (schema_Primary_eq t l hT.cols hl r) ?_
   rw [if_neg (by simpa using hfit)]
   have gi : getI (fullP :: rest) ((i + 1 : Nat) : Int) = some rest[i] := by
    rw [getI_at (by simp; omega)]; rfl
   have hm := hrest _ (List.getElem_mem hi)
   generalize rest[i] = p at gi hm
   rcases hm with rfl | ⟨j, hj, hr, rfl⟩
   ·refine beY (y := (keyS l (upS t.Primary), 0)) ?_ ?_
    ·refine bo gi ?_
     exact bf rfl rfl
    ·refine bo (a := false) ?_ ?_
     ·refine bf rfl ?_
      refine bo gi ?_
      have := in_bounds fit ok (upS t.Primary) []
      rw [List.append_nil] at this
      exact bo this rfl
     ·refine bf rfl ?_
      rw [w64_succ (by omega)]
   ·have gj : getI t.Indexes ((planX t (conS true tr) (needsS q) (j : Int) t.Indexes[j]).Index) = some t.Indexes[j] := getI_at hj
    refine beY (y := ((entS t t.Indexes[j] l).Key, 0)) ?_ ?_
    ·refine bo gi ?_
     refine bt (by show decide ((j : Int) ≥ 0) = true; rw [decide_eq_true (by omega)]) ?_
     refine bo (a := false) ?_ ?_
     ·refine bo gi ?_
      have : ¬ (planX t (conS true tr) (needsS q) (j : Int) t.Indexes[j]).Index ≥ (t.Indexes.length : Int) := by
       show ¬ (j : Int) ≥ _
       omega
      rw [bif_decF this]
      refine bo gi ?_
      refine bo gj ?_
      rw [hr]; rfl
     ·refine bf rfl ?_
      refine bo gi ?_
      refine bo gj ?_
      refine bo (schema_Entry_eq t t.Indexes[j] l hT.cols hl r (RightX.of (r.idx _ (List.getElem_mem hj)))) ?_
      rw [if_neg (by simpa using hfit)]
    ·refine bo (a := false) ?_ ?_
     ·refine bf rfl ?_
      refine bo gi ?_
      exact bo (in_bounds fit ok t.Indexes[j].Parts (keyS l (upS t.Primary))) rfl
     ·refine bf rfl ?_
      rw [w64_succ (by omega)]
  ·show (bif _ then _ else _) = _
   rw [bif_decF (by simp)]
omit [BaseTab] in
def CLt (c : Int → Int) (x y : Int) : Prop := c x < c y ∨ c x = c y ∧ x < y
instance (c : Int → Int) (x y : Int) : Decidable (CLt c x y) := inferInstanceAs (Decidable (_ ∨ _))
omit [BaseTab] in
theorem okQ21 {R : Nat} (hR : R ≤ 140737488355328) {q : PlanQuery} (h : okPlanQuery R q) : ∀ n ∈ q.Pred, OkN n := fun n hn => by
 obtain ⟨_, _, _, k4, _⟩ := h.1.2 n hn
 have k5 := k4.2.2.1
 show n.Val.S.length < 4611686018427387904
 omega
omit [BaseTab] in
theorem okVs21 {R k : Nat} (hR : R ≤ 140737488355328) (hk : 0 < k) {l : List ApiValue} (h : l.length * k ≤ R ∧ ∀ y ∈ l, okApiValue R y) : OkVs l := by
 have h1 : l.length * 1 ≤ l.length * k := Nat.mul_le_mul_left _ hk
 have h0 := h.1
 refine ⟨by omega, fun c hc => ?_⟩
 have := (h.2 c hc).2.2.1
 omega
theorem PlanSpans_true (t : ApiTable) (q : PlanQuery) (l : List ApiValue) (hT : OkT t) (hp : ∀ n ∈ q.Pred, OkN n) (ho : q.Order.length * 16 ≤ 140737488351232) (hl : OkVs l) : law21_PlanSpans t q l = some true := PlanSpans_aw law21_awake_some t q l hT hp ho hl
end Lv
