/- Part of the proof of a law. -/
import Derived.Test.YtddopjhkmkoicaaGreatDoorXAll
import Derived.Test.YtddopjhkmkoicaaGreatDoorGwPlain
import Derived.Lib.ValidLaws
import Derived.Test.YtddopjhkmkoicaaGreatDoorGwQ
import Derived.Test.YtddopjhkmkoicaaGreatDoorXOk
set_option linter.unusedVariables false
set_option linter.unusedSimpArgs false
set_option linter.unusedSectionVars false
set_option maxRecDepth 100000
namespace Lv
open Go Go.Proofs
variable [BaseTab]
def val (v : ApiValue) : Bool :=
 (v.Kind == 0 && (v.N == 0 && v.S == [])) || ((v.Kind == 1 || v.Kind == 2) && v.S == []) || (v.Kind == 3 && (decide (v.N < 2) && v.S == [])) ||
 (v.Kind == 4 && (v.N == 0 && decide (v.S.length ≤ 64))) || (v.Kind == 5 && (v.N == 0 && (decide (v.S.length ≤ 64) && Go.Lib.validD v.S)))
theorem value_Valid_eq (v : ApiValue) (h : v.S.length < 4611686018427387904) : value_Valid v = some (val v) := by
 have e1 : validF v.S = some (Go.Lib.validD v.S) := by unfold validF; rw [if_pos (by omega)]
 have e2 : ((v.S.length : Int) ≤ 64) = (v.S.length ≤ 64) := propext (by omega)
 have e3 : (v.N ≤ 1) = (v.N < 2) := propext (by rw [UInt64.le_iff_toNat_le, UInt64.lt_iff_toNat_lt]; show _ ≤ 1 ↔ _ < 2; omega)
 obtain ⟨K, N, S⟩ := v
 unfold value_Valid val
 simp only [e1, e2, e3, eqApiValue, Bool.and_true] at *
 by_cases k0 : K = 0
 ·subst k0; simp
 by_cases k1 : K = 1
 ·subst k1; simp
 by_cases k2 : K = 2
 ·subst k2; simp
 by_cases k3 : K = 3
 ·subst k3; by_cases hN : N < 2 <;> simp [hN]
 by_cases k4 : K = 4
 ·subst k4; cases hN : (N == 0) <;> simp [hN]
 by_cases k5 : K = 5
 ·subst k5; cases hN : (N == 0) <;> by_cases hS : S.length ≤ 64 <;> simp [hN, hS]
 simp [beq_eq_false_iff_ne.2 k0, beq_eq_false_iff_ne.2 k1, beq_eq_false_iff_ne.2 k2, beq_eq_false_iff_ne.2 k3, beq_eq_false_iff_ne.2 k4, beq_eq_false_iff_ne.2 k5]
def utfB (s : List UInt8) (i n : Int) : Int × Int → Option ((Int × Int) ⊕ (Int ⊕ Bool)) := fun (y1265, y1266) =>
                      bif (decide (y1266 < n)) then
                        Option.bind (getI s (w64 (i + y1266))) fun v1279 =>
                        Option.bind (α := Bool)
                          (bif (decide ((v1279.toNat : Int) < (128 : Int))) then
                            some true
                          else
                            some (decide ((v1279.toNat : Int) ≥ (192 : Int))))
                          fun y1281 =>
                        bif y1281 then
                          some (Sum.inr (Sum.inr false))
                        else
                          some (Sum.inl ((w64 ((w64 ((w64 (y1265 * (64 : Int))) + (v1279.toNat : Int))) - (128 : Int))), (w64 (y1266 + (1 : Int)))))
                      else
                        some (Sum.inr (Sum.inl y1265))
theorem utf_more (s : List UInt8) (i : Nat) (n k c : Int) (b : UInt8) (hk : 0 ≤ k) (hn : k < n) (hn4 : n ≤ 4) (hi : i + k.toNat < s.length) (hs : s.length < 4611686018427387904) (hc : 0 ≤ c ∧ c < 4294967296) (hb : s.getD (i + k.toNat) 0 = b) :
  loop (utfB s i n) (c, k) = if b.toNat / 64 = 2 then loop (utfB s i n) (c * 64 + (b.toNat : Int) - 128, k + 1) else some (.inr false) := by
 have hg : getI s (w64 ((i : Int) + k)) = some b := by
  rw [w64_id (by omega) (by omega)]
  unfold getI
  rw [if_pos (by omega), show ((i : Int) + k).toNat = i + k.toNat by omega, List.getElem?_eq_getElem hi]
  rw [List.getD_eq_getElem?_getD, List.getElem?_eq_getElem hi] at hb
  exact congrArg some hb
 have hlt := b.toNat_lt
 by_cases h : b.toNat / 64 = 2
 ·rw [if_pos h]
  refine loop_step ?_
  show (bif (decide (k < n)) then _ else _) = _
  rw [decide_eq_true hn, cond_true, hg, bind_some', bif_decF (show ¬ ((b.toNat : Int) < 128) by omega), bind_some', bif_decF (show ¬ ((b.toNat : Int) ≥ 192) by omega)]
  rw [w64_id (n := c * 64) (by omega) (by omega), w64_id (n := c * 64 + _) (by omega) (by omega), w64_id (n := c * 64 + _ - _) (by omega) (by omega), w64_id (n := k + 1) (by omega) (by omega)]
 ·rw [if_neg h]
  refine loop_end ?_
  show (bif (decide (k < n)) then _ else _) = _
  rw [decide_eq_true hn, cond_true, hg, bind_some']
  by_cases h2 : b.toNat < 128
  ·rw [bif_decT (show ((b.toNat : Int) < 128) by omega), bind_some', cond_true]
  ·rw [bif_decF (show ¬ ((b.toNat : Int) < 128) by omega), bind_some', bif_decT (show ((b.toNat : Int) ≥ 192) by omega)]
theorem utf_end (s : List UInt8) (i : Nat) (n c : Int) : loop (utfB s i n) (c, n) = some (.inl c) := by
 refine loop_end ?_
 show (bif (decide (n < n)) then _ else _) = _
 rw [bif_decF (show ¬ (n < n) by omega)]
def utfN (l : List UInt8) : Nat :=
 if (Go.Lib.decodeN l.length (l.getD 0 0).toNat (l.getD 1 0).toNat (l.getD 2 0).toNat (l.getD 3 0).toNat).1 = 65533 ∧ (Go.Lib.decodeN l.length (l.getD 0 0).toNat (l.getD 1 0).toNat (l.getD 2 0).toNat (l.getD 3 0).toNat).2 = 1 then 0
 else (Go.Lib.decodeN l.length (l.getD 0 0).toNat (l.getD 1 0).toNat (l.getD 2 0).toNat (l.getD 3 0).toNat).2
theorem validD_utfN (l : List UInt8) (hne : l ≠ []) : Go.Lib.validD l = if utfN l = 0 then false else Go.Lib.validD (l.drop (utfN l)) := by
 have hw := Go.Lib.decodeL_width l
 have hl : 0 < l.length := List.length_pos_iff.2 hne
 rw [Go.Lib.validD_step l hne, Go.Lib.decodeL_N]
 rw [Go.Lib.decodeL_N] at hw
 unfold utfN
 split
 ·simp
 ·rw [if_neg (by omega)]
theorem utfN_1 (l : List UInt8) (h : (l.getD 0 0).toNat < 128) : utfN l = 1 := by
 unfold utfN Go.Lib.decodeN
 rw [if_pos h]
 simp only
 rw [if_neg (by omega)]
theorem utfN_bad (l : List UInt8) (h : (128 ≤ (l.getD 0 0).toNat ∧ (l.getD 0 0).toNat < 194) ∨ 245 ≤ (l.getD 0 0).toNat) : utfN l = 0 := by
 unfold utfN
 have := (l.getD 0 0).toNat_lt
 rw [Go.Lib.decodeN_bad _ _ _ _ _ (by omega)]
 rfl
theorem utfN_2 (l : List UInt8) (h : 194 ≤ (l.getD 0 0).toNat ∧ (l.getD 0 0).toNat < 224) : utfN l = if 1 < l.length ∧ (l.getD 1 0).toNat / 64 = 2 then 2 else 0 := by
 unfold utfN Go.Lib.decodeN
 repeat' split
 all_goals first | rfl | (exfalso; omega) | (simp only at *; omega)
theorem utfN_3 (l : List UInt8) (h : 224 ≤ (l.getD 0 0).toNat ∧ (l.getD 0 0).toNat < 240) : utfN l = if (2 < l.length ∧ (l.getD 1 0).toNat / 64 = 2 ∧ (l.getD 2 0).toNat / 64 = 2) ∧ 2048 ≤ (l.getD 0 0).toNat % 16 * 4096 + (l.getD 1 0).toNat % 64 * 64 + (l.getD 2 0).toNat % 64 ∧ ((l.getD 0 0).toNat % 16 * 4096 + (l.getD 1 0).toNat % 64 * 64 + (l.getD 2 0).toNat % 64 < 55296 ∨ 57344 ≤ (l.getD 0 0).toNat % 16 * 4096 + (l.getD 1 0).toNat % 64 * 64 + (l.getD 2 0).toNat % 64) then 3 else 0 := by
 unfold utfN Go.Lib.decodeN
 repeat' split
 all_goals first | rfl | (exfalso; omega) | (simp only at *; omega)
theorem utfN_4 (l : List UInt8) (h : 240 ≤ (l.getD 0 0).toNat ∧ (l.getD 0 0).toNat < 245) : utfN l = if (3 < l.length ∧ (l.getD 1 0).toNat / 64 = 2 ∧ (l.getD 2 0).toNat / 64 = 2 ∧ (l.getD 3 0).toNat / 64 = 2) ∧ 65536 ≤ (l.getD 0 0).toNat % 8 * 262144 + (l.getD 1 0).toNat % 64 * 4096 + (l.getD 2 0).toNat % 64 * 64 + (l.getD 3 0).toNat % 64 ∧ (l.getD 0 0).toNat % 8 * 262144 + (l.getD 1 0).toNat % 64 * 4096 + (l.getD 2 0).toNat % 64 * 64 + (l.getD 3 0).toNat % 64 ≤ 1114111 then 4 else 0 := by
 unfold utfN Go.Lib.decodeN
 repeat' split
 all_goals first | rfl | (exfalso; omega) | (simp only at *; omega)
theorem decI {p q : Prop} [Decidable p] [Decidable q] (h : p ↔ q) : decide p = decide q := decide_eq_decide.2 h
noncomputable def utfT (p0 : List UInt8) (y1079 y1207 y1208 y1209 : Int) : Option (Int ⊕ (Unit ⊕ Bool)) :=
              bif (decide ((w64 (y1079 + y1207)) > (p0.length : Int))) then
                some (Sum.inr (Sum.inr false))
              else
                bindE (Y := Int) (E := Bool)
                  (Option.bind (α := Int ⊕ Bool) (loop (utfB p0 y1079 y1207) (y1209, (1 : Int)))
                    (Sum.elim (fun e => some (Sum.inl e)) (fun e => some (Sum.inr e))))
                  (fun y1256 =>
                    Option.bind (α := Bool)
                      (bif (decide (y1256 < y1208)) then
                        some true
                      else
                        bif (decide (y1256 > (1114111 : Int))) then
                          some true
                        else
                          bif (decide (y1256 ≥ (55296 : Int))) then
                            some (decide (y1256 < (57344 : Int)))
                          else
                            some false)
                      fun y1289 =>
                    bif y1289 then
                      some (Sum.inr (Sum.inr false))
                    else
                      some (Sum.inl (w64 (y1079 + y1207))))
                  (fun e => some (Sum.inr (Sum.inr e)))
theorem utfT_all {s : List UInt8} {i n : Nat} {m c c' : Int} (hn : n ≤ 4) (hs : s.length < 4611686018427387904) (hi : i + n ≤ s.length) (h : loop (utfB s i n) (c, 1) = some (.inl c')) :
  utfT s i n m c = some (if c' < m ∨ c' > 1114111 ∨ (55296 ≤ c' ∧ c' < 57344) then .inr (.inr false) else .inl ((i + n : Nat) : Int)) := by
 unfold utfT
 rw [w64_id (n := (i : Int) + n) (by omega) (by omega), bif_decF (show ¬ ((i : Int) + n > (s.length : Int)) by omega), h, bind_some', Sum.elim_inl, bindE_l]
 by_cases h1 : c' < m
 ·rw [bif_decT h1, bind_some', cond_true, if_pos (.inl h1)]
 rw [bif_decF h1]
 by_cases h2 : c' > 1114111
 ·rw [bif_decT h2, bind_some', cond_true, if_pos (.inr (.inl h2))]
 rw [bif_decF h2]
 by_cases h3 : c' ≥ 55296
 ·rw [bif_decT h3, bind_some']
  by_cases h4 : c' < 57344
  ·rw [bif_decT h4, if_pos (.inr (.inr ⟨h3, h4⟩))]
  ·rw [bif_decF h4, if_neg (by omega)]; rfl
 ·rw [bif_decF h3, bind_some', cond_false, if_neg (by omega)]; rfl
theorem utfT_no {s : List UInt8} {i n : Nat} {m c : Int} (hn : n ≤ 4) (hs : s.length < 4611686018427387904) (hi : i + n ≤ s.length) (h : loop (utfB s i n) (c, 1) = some (.inr false)) :
  utfT s i n m c = some (.inr (.inr false)) := by
 unfold utfT
 rw [w64_id (n := (i : Int) + n) (by omega) (by omega), bif_decF (show ¬ ((i : Int) + n > (s.length : Int)) by omega), h, bind_some', Sum.elim_inr, bindE_r]
theorem utfT_short {s : List UInt8} {i n : Nat} {m c : Int} (hn : n ≤ 4) (hs : s.length < 4611686018427387904) (hi : i ≤ s.length) (hi : ¬ i + n ≤ s.length) : utfT s i n m c = some (.inr (.inr false)) := by
 unfold utfT
 rw [w64_id (n := (i : Int) + n) (by omega) (by omega), bif_decT (show ((i : Int) + n > (s.length : Int)) by omega)]
theorem ref06_utf8_eq (s : List UInt8) (hs : s.length < 4611686018427387904) : ref06_utf8 s = some (Go.Lib.validD s) := by
 unfold ref06_utf8
 refine Eq.trans (congrArg (fun x => bindE (Y := Unit) (E := Bool) (Option.bind (α := Unit ⊕ Bool) x (Sum.elim (fun e => some (Sum.inl e)) (fun e => some (Sum.inr e)))) (fun _ => some true) (fun e => some e))
  (loop_by (fun y : Int => ∃ i : Nat, y = i ∧ i ≤ s.length) (fun y => s.length - y.toNat) (fun y => if Go.Lib.validD (s.drop y.toNat) = true then .inl () else .inr false) ?_ 0 ⟨0, rfl, by omega⟩)) ?_
 ·rintro y ⟨i, rfl, hi⟩
  rcases Nat.lt_or_ge i s.length with hlt | hge
  rotate_left
  ·right
   have : i = s.length := by omega
   subst this
   simp only [ltI, Nat.lt_irrefl, decide_false, cond_false, Int.toNat_natCast, List.drop_length, Go.Lib.validD_nil, if_true]
  have hne : s.drop i ≠ [] := by intro e; have := congrArg List.length e; simp at this; omega
  have hv := validD_utfN (s.drop i) hne
  have hlen : (s.drop i).length = s.length - i := by simp
  have hd : ∀ k, (s.drop i).getD k 0 = s.getD (i + k) 0 := fun k => Go.Lib.getD_dropU s i k
  have hg : getI s (i : Int) = some (s.getD i 0) := by
   rw [getI_at hlt, List.getD_eq_getElem?_getD, List.getElem?_eq_getElem hlt]; rfl
  have hb := (s.getD i 0).toNat_lt
  -- what a round must show
  suffices hB : ∀ B : Option (Int ⊕ (Unit ⊕ Bool)), B = some (if utfN (s.drop i) = 0 then .inr (.inr false) else .inl ((i + utfN (s.drop i) : Nat) : Int)) → utfN (s.drop i) ≤ s.length - i →
    (∃ y', B = some (.inl y') ∧ (∃ j : Nat, y' = j ∧ j ≤ s.length) ∧ s.length - y'.toNat < s.length - ((i : Int)).toNat ∧ (if Go.Lib.validD (s.drop y'.toNat) = true then Sum.inl () else Sum.inr false) = (if Go.Lib.validD (s.drop ((i : Int)).toNat) = true then Sum.inl () else Sum.inr false)) ∨ B = some (.inr (if Go.Lib.validD (s.drop ((i : Int)).toNat) = true then .inl () else .inr false)) by
   have hle : utfN (s.drop i) ≤ s.length - i := by
    rcases Nat.lt_or_ge (s.getD i 0).toNat 128 with c1 | c1
    ·rw [utfN_1 _ (by rw [hd]; exact c1)]; omega
    rcases Nat.lt_or_ge (s.getD i 0).toNat 194 with c2 | c2
    ·rw [utfN_bad _ (by rw [hd, Nat.add_zero]; omega)]; omega
    rcases Nat.lt_or_ge (s.getD i 0).toNat 224 with c3 | c3
    ·rw [utfN_2 _ (by rw [hd, Nat.add_zero]; omega)]; split <;> omega
    rcases Nat.lt_or_ge (s.getD i 0).toNat 240 with c4 | c4
    ·rw [utfN_3 _ (by rw [hd, Nat.add_zero]; omega)]; split <;> omega
    rcases Nat.lt_or_ge (s.getD i 0).toNat 245 with c5 | c5
    ·rw [utfN_4 _ (by rw [hd, Nat.add_zero]; omega)]; split <;> omega
    ·rw [utfN_bad _ (by rw [hd, Nat.add_zero]; omega)]; omega
   refine hB _ ?_ hle
   rw [ltI, decide_eq_true hlt, cond_true, hg, bind_some']
   have d0 := hd 0
   rw [Nat.add_zero] at d0
   have d1 := hd 1
   have d2 := hd 2
   have d3 := hd 3
   have b1 := (s.getD (i + 1) 0).toNat_lt
   have b2 := (s.getD (i + 2) 0).toNat_lt
   have b3 := (s.getD (i + 3) 0).toNat_lt
   rcases Nat.lt_or_ge (s.getD i 0).toNat 128 with c1 | c1
   ·have hu := utfN_1 (s.drop i) (by rw [d0]; exact c1)
    rw [hu, bif_decT (show ((s.getD i 0).toNat : Int) < 128 by omega), bindE_l]
    refine (utfT_all (n := 1) (by omega) hs (by omega) (utf_end s i 1 _)).trans ?_
    rw [if_neg (by omega), if_neg (by omega)]
   rw [bif_decF (show ¬ (((s.getD i 0).toNat : Int) < 128) by omega)]
   rcases Nat.lt_or_ge (s.getD i 0).toNat 194 with c2 | c2
   ·have hu := utfN_bad (s.drop i) (by rw [d0]; omega)
    rw [hu, bif_decF (show ¬ (((s.getD i 0).toNat : Int) ≥ 194) by omega), bind_some', cond_false, bif_decF (show ¬ (((s.getD i 0).toNat : Int) ≥ 224) by omega), bind_some', cond_false, bif_decF (show ¬ (((s.getD i 0).toNat : Int) ≥ 240) by omega), bind_some', cond_false]
    rfl
   rw [bif_decT (show (((s.getD i 0).toNat : Int) ≥ 194) by omega), bind_some']
   rcases Nat.lt_or_ge (s.getD i 0).toNat 224 with c3 | c3
   ·have hu := utfN_2 (s.drop i) (by rw [d0]; omega)
    rw [d1, hlen] at hu
    rw [bif_decT (show (((s.getD i 0).toNat : Int) < 224) by omega), bindE_l]
    show utfT s i (2 : Nat) 128 _ = _
    by_cases hn : i + 2 ≤ s.length
    ·rw [w64_id (n := ((s.getD i 0).toNat : Int) - 192) (by omega) (by omega)]
     have q := utf_more s i 2 1 (((s.getD i 0).toNat : Int) - 192) (s.getD (i + 1) 0) (by omega) (by omega) (by omega) (by omega) hs (by omega) rfl
     by_cases t1 : (s.getD (i + 1) 0).toNat / 64 = 2
     ·rw [if_pos t1] at q
      refine (utfT_all (n := 2) (by omega) hs (by omega) (q.trans (utf_end s i 2 _))).trans ?_
      rw [hu, if_pos (show 1 < s.length - i ∧ (s.getD (i + 1) 0).toNat / 64 = 2 by omega)]
      split
      ·exfalso; omega
      ·rfl
     ·rw [if_neg t1] at q
      refine (utfT_no (n := 2) (by omega) hs (by omega) q).trans ?_
      rw [show utfN (s.drop i) = 0 by rw [hu]; exact if_neg (by omega)]
      rfl
    ·rw [show utfN (s.drop i) = 0 by rw [hu]; exact if_neg (by omega)]
     exact utfT_short (by omega) hs hi hn
   rw [bif_decF (show ¬ (((s.getD i 0).toNat : Int) < 224) by omega), bif_decT (show (((s.getD i 0).toNat : Int) ≥ 224) by omega), bind_some']
   rcases Nat.lt_or_ge (s.getD i 0).toNat 240 with c4 | c4
   ·have hu := utfN_3 (s.drop i) (by rw [d0]; omega)
    rw [d0, d1, d2, hlen] at hu
    rw [bif_decT (show (((s.getD i 0).toNat : Int) < 240) by omega), bindE_l]
    show utfT s i (3 : Nat) 2048 _ = _
    by_cases hn : i + 3 ≤ s.length
    ·rw [w64_id (n := ((s.getD i 0).toNat : Int) - 224) (by omega) (by omega)]
     have q := utf_more s i 3 1 (((s.getD i 0).toNat : Int) - 224) (s.getD (i + 1) 0) (by omega) (by omega) (by omega) (by omega) hs (by omega) rfl
     by_cases t1 : (s.getD (i + 1) 0).toNat / 64 = 2
     ·rw [if_pos t1] at q
      have q2 := utf_more s i 3 2 ((((s.getD i 0).toNat : Int) - 224) * 64 + ((s.getD (i + 1) 0).toNat : Int) - 128) (s.getD (i + 2) 0) (by omega) (by omega) (by omega) (by omega) hs (by omega) rfl
      by_cases t2 : (s.getD (i + 2) 0).toNat / 64 = 2
      ·rw [if_pos t2] at q2
       refine (utfT_all (n := 3) (by omega) hs (by omega) (q.trans (q2.trans (utf_end s i 3 _)))).trans ?_
       split
       ·rw [show utfN (s.drop i) = 0 by rw [hu]; exact if_neg (by omega)]
        rfl
       ·rw [show utfN (s.drop i) = 3 by rw [hu]; exact if_pos (by omega)]
        rfl
      ·rw [if_neg t2] at q2
       refine (utfT_no (n := 3) (by omega) hs (by omega) (q.trans q2)).trans ?_
       rw [show utfN (s.drop i) = 0 by rw [hu]; exact if_neg (by omega)]
       rfl
     ·rw [if_neg t1] at q
      refine (utfT_no (n := 3) (by omega) hs (by omega) q).trans ?_
      rw [show utfN (s.drop i) = 0 by rw [hu]; exact if_neg (by omega)]
      rfl
    ·rw [show utfN (s.drop i) = 0 by rw [hu]; exact if_neg (by omega)]
     exact utfT_short (by omega) hs hi hn
   rw [bif_decF (show ¬ (((s.getD i 0).toNat : Int) < 240) by omega), bif_decT (show (((s.getD i 0).toNat : Int) ≥ 240) by omega), bind_some']
   rcases Nat.lt_or_ge (s.getD i 0).toNat 245 with c5 | c5
   ·have hu := utfN_4 (s.drop i) (by rw [d0]; omega)
    rw [d0, d1, d2, d3, hlen] at hu
    rw [bif_decT (show (((s.getD i 0).toNat : Int) < 245) by omega), bindE_l]
    show utfT s i (4 : Nat) 65536 _ = _
    by_cases hn : i + 4 ≤ s.length
    ·rw [w64_id (n := ((s.getD i 0).toNat : Int) - 240) (by omega) (by omega)]
     have q := utf_more s i 4 1 (((s.getD i 0).toNat : Int) - 240) (s.getD (i + 1) 0) (by omega) (by omega) (by omega) (by omega) hs (by omega) rfl
     by_cases t1 : (s.getD (i + 1) 0).toNat / 64 = 2
     ·rw [if_pos t1] at q
      have q2 := utf_more s i 4 2 ((((s.getD i 0).toNat : Int) - 240) * 64 + ((s.getD (i + 1) 0).toNat : Int) - 128) (s.getD (i + 2) 0) (by omega) (by omega) (by omega) (by omega) hs (by omega) rfl
      by_cases t2 : (s.getD (i + 2) 0).toNat / 64 = 2
      ·rw [if_pos t2] at q2
       have q3 := utf_more s i 4 3 (((((s.getD i 0).toNat : Int) - 240) * 64 + ((s.getD (i + 1) 0).toNat : Int) - 128) * 64 + ((s.getD (i + 2) 0).toNat : Int) - 128) (s.getD (i + 3) 0) (by omega) (by omega) (by omega) (by omega) hs (by omega) rfl
       by_cases t3 : (s.getD (i + 3) 0).toNat / 64 = 2
       ·rw [if_pos t3] at q3
        refine (utfT_all (n := 4) (by omega) hs (by omega) (q.trans (q2.trans (q3.trans (utf_end s i 4 _))))).trans ?_
        split
        ·rw [show utfN (s.drop i) = 0 by rw [hu]; exact if_neg (by omega)]
         rfl
        ·rw [show utfN (s.drop i) = 4 by rw [hu]; exact if_pos (by omega)]
         rfl
       ·rw [if_neg t3] at q3
        refine (utfT_no (n := 4) (by omega) hs (by omega) (q.trans (q2.trans q3))).trans ?_
        rw [show utfN (s.drop i) = 0 by rw [hu]; exact if_neg (by omega)]
        rfl
      ·rw [if_neg t2] at q2
       refine (utfT_no (n := 4) (by omega) hs (by omega) (q.trans q2)).trans ?_
       rw [show utfN (s.drop i) = 0 by rw [hu]; exact if_neg (by omega)]
       rfl
     ·rw [if_neg t1] at q
      refine (utfT_no (n := 4) (by omega) hs (by omega) q).trans ?_
      rw [show utfN (s.drop i) = 0 by rw [hu]; exact if_neg (by omega)]
      rfl
    ·rw [show utfN (s.drop i) = 0 by rw [hu]; exact if_neg (by omega)]
     exact utfT_short (by omega) hs hi hn
   ·have hu := utfN_bad (s.drop i) (by rw [d0]; omega)
    rw [hu, bif_decF (show ¬ (((s.getD i 0).toNat : Int) < 245) by omega)]
    rfl
  intro B hB hle
  rw [Int.toNat_natCast, hv]
  by_cases h0 : utfN (s.drop i) = 0
  ·right; rw [hB, if_pos h0, if_pos h0]; rfl
  ·left
   rw [if_neg h0] at hB
   refine ⟨_, hB, ⟨_, rfl, by omega⟩, by rw [Int.toNat_natCast]; omega, ?_⟩
   rw [Int.toNat_natCast, if_neg h0, List.drop_drop]
 ·simp only [Int.toNat_zero, List.drop_zero]
  by_cases h : Go.Lib.validD s = true
  ·rw [h]; rfl
  ·rw [if_neg h, Bool.eq_false_iff.2 h]; rfl
theorem ref06_Valid_eq (v : ApiValue) (h : v.S.length < 4611686018427387904) : ref06_Valid v = some (val v) := by
 have e1 := ref06_utf8_eq v.S h
 have e2 : ((v.S.length : Int) ≤ 64) = (v.S.length ≤ 64) := propext (by omega)
 obtain ⟨K, N, S⟩ := v
 unfold ref06_Valid val
 simp only [e1, e2, Bool.and_true] at *
 by_cases k0 : K = 0
 ·subst k0; cases hN : (N == 0) <;> simp [hN]
 by_cases k1 : K = 1
 ·subst k1; simp
 by_cases k2 : K = 2
 ·subst k2; simp
 by_cases k3 : K = 3
 ·subst k3; by_cases hN : N < 2 <;> simp [hN]
 by_cases k4 : K = 4
 ·subst k4; cases hN : (N == 0) <;> simp [hN]
 by_cases k5 : K = 5
 ·subst k5; cases hN : (N == 0) <;> by_cases hS : S.length ≤ 64 <;> simp [hN, hS, e1]
 simp [beq_eq_false_iff_ne.2 k0, beq_eq_false_iff_ne.2 k1, beq_eq_false_iff_ne.2 k2, beq_eq_false_iff_ne.2 k3, beq_eq_false_iff_ne.2 k4, beq_eq_false_iff_ne.2 k5]
def bytesN (n : UInt64) : Nat → List UInt8
 | 0 => []
 | k + 1 => UInt8.ofNat (n.toNat / 2 ^ (8 * k)) :: bytesN n k
theorem bytesN_len (n : UInt64) : ∀ k, (bytesN n k).length = k
 | 0 => rfl
 | k + 1 => by simp [bytesN, bytesN_len n k]
theorem shr64_low (n : UInt64) (m : Nat) : (shr64 n m).toUInt8 = UInt8.ofNat (n.toNat / 2 ^ m) := by
 unfold shr64
 rw [← UInt8.toNat_inj]
 have h : n.toNat / 2 ^ m < 18446744073709551616 := Nat.lt_of_le_of_lt (Nat.div_le_self _ _) n.toNat_lt
 simp [UInt64.toNat_ofNat, Nat.mod_eq_of_lt h]
theorem low8 (n : UInt64) : n.toUInt8 = UInt8.ofNat (n.toNat / 2 ^ (8 * 0)) := by
 rw [← UInt8.toNat_inj]; simp
theorem Out_Num_eq (n : UInt64) (k : Nat) (acc : List UInt8) (hk : k ≤ 8) (hr : acc.length + 8 ≤ 70368744177664) : ref01_Out_Num_1 n k acc = some (acc ++ bytesN n k) := by
 unfold ref01_Out_Num_1
 rw [w64_id (n := (k : Int) - 1) (by omega) (by omega)]
 suffices h : ∀ (k : Nat) (acc : List UInt8), k ≤ 8 → acc.length + k ≤ 70368744177664 → ∀ B : Int × List UInt8 → Option ((Int × List UInt8) ⊕ List UInt8), B = (fun (y21, y22) =>
   bif (decide (y21 ≥ (0 : Int))) then
    bif decide (0 ≤ (w64 ((8 : Int) * y21))) then
    bif decide ((y22.length + [((shr64 n ((w64 ((8 : Int) * y21)).toNat)).toUInt8)].length) * 1 ≤ room) then
    some (Sum.inl ((w64 (y21 - (1 : Int))), (y22 ++ [((shr64 n ((w64 ((8 : Int) * y21)).toNat)).toUInt8)])))
    else none
    else none
   else
    some (Sum.inr y22)) → loop B ((k : Int) - 1, acc) = some (acc ++ bytesN n k) by
  rw [show (loop _ ((k : Int) - 1, acc)) = _ from h k acc hk (by omega) _ rfl]
  rfl
 intro k
 induction k with
 | zero =>
  intro acc _ _ B hB
  rw [bytesN, List.append_nil]
  refine loop_end ?_
  rw [hB]
  rfl
 | succ k ih =>
  intro acc hk hr B hB
  have e : w64 ((8 : Int) * (((k + 1 : Nat) : Int) - 1)) = ((8 * k : Nat) : Int) := by rw [w64_id (by omega) (by omega)]; omega
  have e2 : w64 ((((k + 1 : Nat) : Int) - 1) - 1) = (k : Int) - 1 := by rw [w64_id (by omega) (by omega)]; omega
  have st : B (((k + 1 : Nat) : Int) - 1, acc) = some (Sum.inl ((k : Int) - 1, acc ++ [UInt8.ofNat (n.toNat / 2 ^ (8 * k))])) := by
   rw [hB]
   show (bif _ then _ else _) = _
   rw [e, e2, bif_decT (by omega), bif_decT (by omega), Int.toNat_natCast, shr64_low, bif_decT (by rw [room_val]; simp; omega)]
  rw [loop_step st, ih (acc ++ [_]) (by omega) (by simp; omega) B hB, bytesN, List.append_assoc]
  rfl
theorem Out_Num_nil (n : UInt64) (k : Int) : ref01_Out_Num n k = ref01_Out_Num_1 n k [] := rfl
def turn (d : Bool) (b : List UInt8) : List UInt8 := if d then b.map (fun x => ~~~ x) else b
theorem turn_len (d : Bool) (b : List UInt8) : (turn d b).length = b.length := by cases d <;> simp [turn]
theorem key_turned_eq (b : List UInt8) (h : b.length < 4611686018427387904) : key_turned b = some (b.map (fun x => ~~~ x)) := by
  unfold key_turned
  have q := loop_seq (B := (fun (y57, y58) =>
        bif (decide (y58 < (b.length : Int))) then
          Option.bind (getI y57 y58) fun v67 =>
          Option.bind (getI y57 y58) fun v68 =>
          some (Sum.inl ((List.set y57 y58.toNat (~~~ v67)), (w64 (y58 + (1 : Int)))))
        else
          some (Sum.inr y57))) (fun i => (mapped (fun x => ~~~ x) b i, (i : Int))) b.length (w := b.map (fun x => ~~~ x)) ?_ ?_
  · rw [mapped_zero] at q
    rw [show (loop _ (b, (0 : Int))) = _ from q]
    rfl
  · intro i hi
    show (bif _ then _ else _) = _
    rw [bif_decT (by omega), getI_nat, mapped_get _ _ hi, bind_some', bind_some', w64_succ (by omega), Int.toNat_natCast]
    exact congrArg (fun x => some (Sum.inl (x, _))) (mapped_set _ _ hi)
  · show (bif _ then _ else _) = _
    rw [bif_decF (by omega), mapped_all]
def esc : List UInt8 → List UInt8
 | [] => []
 | x :: r => if x = 0 then 0 :: 255 :: esc r else x :: esc r
theorem esc_len : ∀ s, (esc s).length ≤ 2 * s.length
 | [] => by simp [esc]
 | x :: r => by have := esc_len r; unfold esc; split <;> simp <;> omega
open Go.Lib in
theorem index0_cons (b : UInt8) (l : List UInt8) : index (b :: l) [0] = if b = 0 then 0 else if index l [0] = -1 then -1 else index l [0] + 1 := by
 conv => lhs; unfold index
 by_cases hb : b = 0
 ·subst hb; simp [List.isPrefixOf]
 ·rw [if_neg hb]
  rw [if_neg (by simp [List.isPrefixOf]; exact fun h => hb h.symm)]
  by_cases h : index l [0] = -1
  ·simp [h]
  ·rw [if_neg h, if_neg (by simpa using h)]
open Go.Lib in
theorem replK0_cons (b : UInt8) (l new : List UInt8) (hb : b ≠ 0) : ∀ k, replaceK [0] new k (b :: l) = b :: replaceK [0] new k l
 | 0 => rfl
 | k + 1 => by
  have h := index0_cons b l
  rw [if_neg hb] at h
  unfold replaceK
  by_cases hm : index l [0] = -1
  ·rw [if_pos hm] at h
   rw [h, hm]; rfl
  ·have hge := index_ge l [0]
   rw [if_neg hm] at h
   rw [if_neg (by rw [h]; intro e; have := beq_iff_eq.1 e; omega), if_neg (by intro e; exact hm (beq_iff_eq.1 e)), h]
   have e1 : (index l [0] + 1).toNat = (index l [0]).toNat + 1 := by omega
   rw [e1, List.take_succ_cons, Nat.add_right_comm, List.drop_succ_cons]
   simp
open Go.Lib in
theorem count0_cons (b : UInt8) (l : List UInt8) : count (b :: l) [0] = if b = 0 then 1 + count l [0] else count l [0] := by
 have h := index0_cons b l
 by_cases hb : b = 0
 ·rw [if_pos hb] at h ⊢
  exact count_hit (i := 0) (by simp) h
 ·rw [if_neg hb] at h ⊢
  by_cases hm : index l [0] = -1
  ·rw [if_pos hm] at h
   rw [count_miss h, count_miss hm]
  ·have hge := index_ge l [0]
   rw [if_neg hm] at h
   have e1 : index (b :: l) [0] = ((index l [0]).toNat + 1 : Nat) := by omega
   have e2 : index l [0] = ((index l [0]).toNat : Nat) := by omega
   rw [count_hit (by simp) e1, count_hit (s := l) (by simp) e2]
   rfl
open Go.Lib in
theorem replace_esc (s : List UInt8) : replaceAll s [0] [0, 255] = esc s := by
 have e : replaceNum s [0] (-1) = count s [0] := by unfold replaceNum; rw [if_pos (.inl (by omega))]
 unfold replaceAll replace
 rw [if_neg (by decide), e]
 induction s with
 | nil => rfl
 | cons b l ih =>
  rw [count0_cons]
  unfold esc
  by_cases hb : b = 0
  ·have h := index0_cons b l
   rw [if_pos hb] at h
   rw [if_pos hb, if_pos hb, Nat.add_comm, replaceK_hit _ _ _ _ 0 h]
   have e : replaceNum l [0] (-1) = count l [0] := by unfold replaceNum; rw [if_pos (.inl (by omega))]
   simp only [List.take_zero, List.nil_append, List.length_singleton, Nat.zero_add, List.drop_succ_cons, List.drop_zero]
   rw [ih e]; rfl
  ·rw [if_neg hb, if_neg hb, replK0_cons _ _ _ hb, ih (by unfold replaceNum; rw [if_pos (.inl (by omega))])]
theorem replF_esc (s : List UInt8) (h : s.length ≤ 1048576) : replF s ([0] : List UInt8) ([0, 255] : List UInt8) = some (esc s) := by
 unfold replF
 have := Go.Lib.count_le s [0]
 rw [if_pos ⟨by omega, by simp, (by show s.length + Go.Lib.count s [0] * 2 ≤ _; omega)⟩, replace_esc]
def body (v : ApiValue) : List UInt8 :=
 if v.Kind = 1 then bytesN (v.N ^^^ 9223372036854775808) 8 else if v.Kind = 2 then bytesN v.N 8 else if v.Kind = 3 then bytesN v.N 1
 else if v.Kind = 4 ∨ v.Kind = 5 then esc v.S ++ [0, 0] else []
def enc (v : ApiValue) : List UInt8 := (if v.Kind = 0 then 0 else 1) :: body v
theorem body_len (v : ApiValue) : (body v).length ≤ 2 * v.S.length + 8 := by
 unfold body
 have := esc_len v.S
 repeat' split
 all_goals simp [bytesN_len] <;> omega
theorem out_put1 (a b : List UInt8) (h : b.length + a.length ≤ 70368744177664) : pack_Out_put_1 a b = some () := by
 unfold pack_Out_put_1; rw [bif_decT (by rw [room_val]; omega)]
theorem u16_hi (n : UInt64) (m : Nat) (x : UInt16) (h : x.toNat = n.toNat / 2 ^ m % 65536) : (shr16 x 8).toUInt8 = UInt8.ofNat (n.toNat / 2 ^ (m + 8)) := by
 unfold shr16
 rw [← UInt8.toNat_inj]
 have hx := x.toNat_lt
 have e : n.toNat / 2 ^ (m + 8) = n.toNat / 2 ^ m / 256 := by rw [Nat.pow_add, Nat.div_div_eq_div_mul]
 simp [UInt16.toNat_ofNat, e]
 omega
theorem u16_lo (n : UInt64) (m : Nat) (x : UInt16) (h : x.toNat = n.toNat / 2 ^ m % 65536) : x.toUInt8 = UInt8.ofNat (n.toNat / 2 ^ m) := by
 rw [← UInt8.toNat_inj]
 simp [h]
 try omega
theorem sh32 (n : UInt64) : (shr64 n 32).toUInt32.toNat = n.toNat / 2 ^ 32 := by
 unfold shr64
 have := n.toNat_lt
 simp [UInt64.toNat_ofNat]
 omega
theorem bytes8_eq (n : UInt64) (acc : List UInt8) : (((acc ++ [((shr16 ((shr32 ((shr64 n 32).toUInt32) 16).toUInt16) 8).toUInt8), (((shr32 ((shr64 n 32).toUInt32) 16).toUInt16).toUInt8)]) ++ [((shr16 (((shr64 n 32).toUInt32).toUInt16) 8).toUInt8), ((((shr64 n 32).toUInt32).toUInt16).toUInt8)]) ++ [((shr16 ((shr32 (n.toUInt32) 16).toUInt16) 8).toUInt8), (((shr32 (n.toUInt32) 16).toUInt16).toUInt8)]) ++ [((shr16 ((n.toUInt32).toUInt16) 8).toUInt8), (((n.toUInt32).toUInt16).toUInt8)] = acc ++ bytesN n 8 := by
 have hn := n.toNat_lt
 have h1 : ((shr32 ((shr64 n 32).toUInt32) 16).toUInt16).toNat = n.toNat / 2 ^ 48 % 65536 := by
  unfold shr32
  have := sh32 n
  simp [UInt32.toNat_ofNat] at *
  omega
 have h2 : (((shr64 n 32).toUInt32).toUInt16).toNat = n.toNat / 2 ^ 32 % 65536 := by
  have := sh32 n
  simp at *
  omega
 have h3 : ((shr32 (n.toUInt32) 16).toUInt16).toNat = n.toNat / 2 ^ 16 % 65536 := by
  unfold shr32
  simp [UInt32.toNat_ofNat]
  omega
 have h4 : ((n.toUInt32).toUInt16).toNat = n.toNat / 2 ^ 0 % 65536 := by
  simp
 rw [u16_hi n 48 _ h1, u16_lo n 48 _ h1, u16_hi n 32 _ h2, u16_lo n 32 _ h2, u16_hi n 16 _ h3, u16_lo n 16 _ h3, u16_hi n 0 _ h4, u16_lo n 0 _ h4]
 simp [bytesN]
theorem Out_U16_eq (x : UInt16) (b : List UInt8) (h : b.length + 2 ≤ 70368744177664) : pack_Out_U16 x b = some () := by
 unfold pack_Out_U16; rw [out_put1 _ _ (by simpa using h)]; rfl
theorem Out_U32_eq (x : UInt32) (b : List UInt8) (h : b.length + 4 ≤ 70368744177664) : pack_Out_U32 x b = some () := by
 unfold pack_Out_U32; rw [Out_U16_eq _ _ (by omega), bind_some', Out_U16_eq _ _ (by simp; omega)]; rfl
theorem Out_U64_eq (x : UInt64) (b : List UInt8) (h : b.length + 8 ≤ 70368744177664) : pack_Out_U64 x b = some () := by
 unfold pack_Out_U64; rw [Out_U32_eq _ _ (by omega), bind_some', Out_U32_eq _ _ (by simp; omega)]; rfl
theorem key_one_eq (v : ApiValue) (d : Bool) (h : v.S.length ≤ 1048576) : key_one v d = some (turn d (enc v)) := by
 have hf : pack_Out_Flag (v.Kind != (0 : Int)) = some [if v.Kind = 0 then 0 else 1] := by
  unfold pack_Out_Flag
  by_cases k : v.Kind = 0
  ·rw [k]; rfl
  ·rw [if_neg k, show (v.Kind != 0) = true by simpa using k]; rfl
 have hb := body_len v
 obtain ⟨K, N, S⟩ := v
 simp only at h hf hb
 unfold key_one
 simp only
 rw [hf, bind_some']
 -- the middle
 have key : ∀ (m : Option (List UInt8)) (q : List UInt8), m = some q → (if K = 4 ∨ K = 5 then q ++ (esc S ++ [0, 0]) else q) = enc ⟨K, N, S⟩ → q.length ≤ 100 →
   (Option.bind (α := (List UInt8)) m
  fun y50 =>
 Option.bind (pack_Out_Bytes y50) fun _ =>
 Option.bind (α := (List UInt8))
  (Option.bind (α := Bool)
   (bif (K == (4 : Int)) then
    some true
   else
    some (K == (5 : Int)))
   fun y71 =>
  bif y71 then
   Option.bind (replF S ([0] : List UInt8) ([0, 255] : List UInt8)) fun r75 =>
   bif decide ((y50.length + r75.length) * 1 ≤ room) then
   bif decide (((y50 ++ r75).length + [(0 : UInt8), (0 : UInt8)].length) * 1 ≤ room) then
   some ((y50 ++ r75) ++ [(0 : UInt8), (0 : UInt8)])
   else none
   else none
  else
   some y50)
  fun y68 =>
 bif d then
  Option.bind (key_turned y68) fun r80 =>
  some r80
 else
  some y68) = some (turn d (enc ⟨K, N, S⟩)) := by
  intro m q hm he hq
  subst hm
  have hl := esc_len S
  rw [bind_some', show pack_Out_Bytes q = some () by unfold pack_Out_Bytes; rw [bif_decT (by rw [room_val]; omega)], bind_some', replF_esc S h]
  have hlen : (enc ⟨K, N, S⟩).length ≤ 4194304 := by unfold enc; simp; omega
  have ht : (bif d then Option.bind (key_turned (enc ⟨K, N, S⟩)) fun r80 => some r80 else some (enc ⟨K, N, S⟩)) = some (turn d (enc ⟨K, N, S⟩)) := by
   cases d with
   | false => rfl
   | true => rw [cond_true, key_turned_eq _ (by omega)]; rfl
  by_cases k4 : K = 4
  ·rw [if_pos (.inl k4)] at he
   rw [k4] at he ht ⊢
   simp only [BEq.rfl, cond_true, bind_some']
   rw [bif_decT (by rw [room_val]; omega), bif_decT (by rw [room_val]; simp; omega), bind_some', List.append_assoc, he]
   exact ht
  by_cases k5 : K = 5
  ·rw [if_pos (.inr k5)] at he
   rw [k5] at he ht ⊢
   simp only [show ((5 : Int) == 4) = false from rfl, cond_false, BEq.rfl, cond_true, bind_some']
   rw [bif_decT (by rw [room_val]; omega), bif_decT (by rw [room_val]; simp; omega), bind_some', List.append_assoc, he]
   exact ht
  rw [if_neg (by omega)] at he
  subst he
  rw [beq_eq_false_iff_ne.2 k4, beq_eq_false_iff_ne.2 k5, cond_false, bind_some', cond_false, bind_some']
  exact ht
 by_cases k1 : K = 1
 ·subst k1
  refine key _ ([1] ++ bytesN (N ^^^ 9223372036854775808) 8) ?_ ?_ ?_
  rotate_left
  ·rfl
  ·simp [bytesN_len]
  ·simp only [BEq.rfl, cond_true]
   rw [Out_U64_eq _ _ (by simp), bind_some', bytes8_eq]
   rfl
 by_cases k2 : K = 2
 ·subst k2
  refine key _ ([1] ++ bytesN N 8) ?_ ?_ ?_
  rotate_left
  ·rfl
  ·simp [bytesN_len]
  ·simp only [show ((2 : Int) == 1) = false from rfl, cond_false, BEq.rfl, cond_true]
   rw [Out_U64_eq _ _ (by simp), bind_some', bytes8_eq]
   rfl
 by_cases k3 : K = 3
 ·subst k3
  refine key _ ([1] ++ bytesN N 1) ?_ ?_ ?_
  rotate_left
  ·rfl
  ·simp [bytesN_len]
  ·simp only [show ((3 : Int) == 1) = false from rfl, show ((3 : Int) == 2) = false from rfl, cond_false, BEq.rfl, cond_true]
   rw [show pack_Out_U8 (N.toUInt8) [if (3 : Int) = 0 then 0 else 1] = some () from by unfold pack_Out_U8; rw [out_put1 _ _ (by simp)]; rfl, bind_some', low8]
   rfl
 refine key _ ([if K = 0 then 0 else 1]) ?_ ?_ ?_
 rotate_left
 ·unfold enc body
  simp only [k1, k2, k3, if_false]
  split <;> rfl
 ·simp
 ·rw [beq_eq_false_iff_ne.2 k1, beq_eq_false_iff_ne.2 k2, beq_eq_false_iff_ne.2 k3]; rfl
structure Sm (l : List ApiValue) : Prop where
 len : l.length ≤ 1048576
 txt : ∀ v ∈ l, v.S.length ≤ 1048576
theorem Sm.get {l : List ApiValue} (h : Sm l) {i : Nat} (hi : i < l.length) : (l[i]'hi).S.length ≤ 1048576 := h.txt _ (List.getElem_mem hi)
def bad (v : ApiValue) : Bool := !val v
def encL : List ApiValue → List Bool → List UInt8
 | v :: l, d :: ds => turn d (enc v) ++ encL l ds
 | _, _ => []
def encS (l : List ApiValue) (ds : List Bool) : List UInt8 × Int :=
 if l.length = ds.length then
  if l.any bad = true then ([], 8) else if (encL l ds).length > 256 then ([], 7) else (encL l ds, 0)
 else ([], 1)
theorem encL_take : ∀ (l : List ApiValue) (ds : List Bool) (i : Nat) (h : i < l.length) (h2 : i < ds.length), encL (l.take (i + 1)) (ds.take (i + 1)) = encL (l.take i) (ds.take i) ++ turn ds[i] (enc l[i])
 | v :: l, d :: ds, 0, h, h2 => by simp [encL]
 | v :: l, d :: ds, i + 1, h, h2 => by
  simp only [List.take_succ_cons, encL, List.getElem_cons_succ]
  rw [encL_take l ds i (by simpa using h) (by simpa using h2), List.append_assoc]
theorem val_short {v : ApiValue} (h : val v = true) : v.S.length ≤ 64 := by
 unfold val at h
 simp only [Bool.or_eq_true, Bool.and_eq_true, beq_iff_eq, decide_eq_true_eq] at h
 rcases h with (((⟨_, _, h⟩ | ⟨_, h⟩) | ⟨_, _, h⟩) | ⟨_, _, h⟩) | ⟨_, _, h, _⟩
 ·rw [h]; simp
 ·rw [h]; simp
 ·rw [h]; simp
 ·exact h
 ·exact h
theorem enc_short {v : ApiValue} (h : val v = true) : (enc v).length ≤ 137 := by
 have := body_len v
 have := val_short h
 unfold enc
 simp; omega
theorem encL_short : ∀ (l : List ApiValue) (ds : List Bool), l.any bad = false → (encL l ds).length ≤ 137 * l.length
 | [], ds, _ => by simp [encL]
 | v :: l, [], _ => by simp [encL]
 | v :: l, d :: ds, h => by
  rw [List.any_cons, Bool.or_eq_false_iff] at h
  have := enc_short (v := v) (by have := h.1; unfold bad at this; simpa using this)
  have := encL_short l ds h.2
  simp [encL, turn_len]
  omega
theorem any_take {α : Type} (p : α → Bool) (l : List α) (i : Nat) (h : l.any p = false) : (l.take i).any p = false := by
 rw [List.any_eq_false] at h ⊢
 exact fun x hx => h x (List.mem_of_mem_take hx)
theorem Encode_1_eq (v : ApiValue) (h : v.S.length ≤ 1048576) : key_Encode_1 v = some (bad v) := by
 unfold key_Encode_1; rw [value_Valid_eq v (by omega)]; rfl
theorem anyBad_eq (l : List ApiValue) (h : Sm l) : slices_ContainsFunc_api_Value_api_Value l = some (l.any bad) := by
  unfold slices_ContainsFunc_api_Value_api_Value slices_IndexFunc_api_Value_api_Value
  have hl := h.len
  have q := loop_search (B := (fun y69 =>
        bif (decide (y69 < (l.length : Int))) then
          Option.bind (getI l y69) fun v79 =>
          Option.bind (key_Encode_1 v79) fun r80 =>
          bif r80 then
            some (Sum.inr (Sum.inr y69))
          else
            some (Sum.inl (w64 (y69 + (1 : Int))))
        else
          some (Sum.inr (Sum.inl ())))) l bad (fun i => .inr (i : Int)) (.inl ()) (fun i hi => by
      show (bif _ then _ else _) = _
      rw [bif_decT (by omega), getI_at hi, bind_some', Encode_1_eq _ (h.get hi), bind_some']
      cases bad l[i]
      · rw [cond_false, w64_succ (by omega)]; rfl
      · rfl) (by
      show (bif _ then _ else _) = _
      rw [bif_decF (by omega)])
  rcases q with ⟨q1, i, _, _, q2⟩ | ⟨q1, q2⟩
  · rw [show (loop _ (0 : Int)) = _ from q2, q1]
    show some (decide ((i : Int) ≥ 0)) = _
    rw [decide_eq_true (by omega)]
  · rw [show (loop _ (0 : Int)) = _ from q2, q1]
    rfl
theorem key_Encode_eq (l : List ApiValue) (ds : List Bool) (h : Sm l) : key_Encode l ds = some (encS l ds) := by
  unfold key_Encode encS
  have hl := h.len
  by_cases he : l.length = ds.length
  rotate_left
  · rw [if_neg he, show ((l.length : Int) != (ds.length : Int)) = true by simp; omega]; rfl
  rw [if_pos he, show ((l.length : Int) != (ds.length : Int)) = false by simp; omega, cond_false, anyBad_eq l h, bind_some']
  cases hb : l.any bad with
  | true => rfl
  | false =>
    rw [cond_false, if_neg (by simp)]
    have hs := encL_short l ds hb
    have q := loop_seq (B := (fun (y97, y98) =>
            bif (decide (y98 < (l.length : Int))) then
              Option.bind (getI l y98) fun v110 =>
              Option.bind (getI ds y98) fun v111 =>
              Option.bind (key_one v110 v111) fun r112 =>
              bif decide ((y97.length + r112.length) * 1 ≤ room) then
              some (Sum.inl ((y97 ++ r112), (w64 (y98 + (1 : Int)))))
              else none
            else
              some (Sum.inr y97))) (fun i => (encL (l.take i) (ds.take i), (i : Int))) l.length (w := encL l ds) ?_ ?_
    · rw [show (loop _ (([] : List UInt8), (0 : Int))) = _ from q, bind_some', bind_some']
      by_cases hlen : (encL l ds).length > 256
      · rw [if_pos hlen, bif_decT (by omega)]
      · rw [if_neg hlen, bif_decF (by omega)]
    · intro i hi
      have h1 := encL_short (l.take i) (ds.take i) (any_take _ _ _ hb)
      have h2 := enc_short (v := l[i]) (by rw [List.any_eq_false] at hb; have := hb _ (List.getElem_mem hi); unfold bad at this; simpa using this)
      rw [List.length_take, Nat.min_eq_left (Nat.le_of_lt hi)] at h1
      show (bif _ then _ else _) = _
      rw [bif_decT (by omega), getI_at hi, bind_some', getI_at (by omega), bind_some', key_one_eq _ _ (h.get hi), bind_some', bif_decT (by rw [room_val, turn_len]; omega), w64_succ (by omega), encL_take l ds i hi (by omega)]
    · show (bif _ then _ else _) = _
      rw [bif_decF (by omega), List.take_length, he, List.take_length]
end Lv
namespace Lv
open Go Go.Proofs
def afterL : List UInt8 → Option (List UInt8)
 | [] => none
 | x :: r => match afterL r with
  | some r' => some (x :: r')
  | none => if x = 255 then none else some [x + 1]
theorem afterL_full : ∀ {q : List UInt8}, (∀ x, x ∈ q → x = 255) → afterL q = none
 | [], _ => rfl
 | x :: q, h => by
  have hq : afterL q = none := afterL_full fun y hy => h y (List.mem_cons_of_mem _ hy)
  have hx : x = 255 := h x (List.mem_cons_self ..)
  simp only [afterL, hq, hx, if_true]
theorem afterL_append : ∀ (p : List UInt8) {q : List UInt8}, (∀ x, x ∈ q → x = 255) → afterL (p ++ q) = afterL p
 | [], q, h => by rw [List.nil_append, afterL_full h]; rfl
 | x :: p, q, h => by simp only [List.cons_append, afterL, afterL_append p h]
theorem afterL_last : ∀ (p : List UInt8) {x : UInt8}, x ≠ 255 → afterL (p ++ [x]) = some (p ++ [x + 1])
 | [], x, h => by simp [afterL, h]
 | y :: p, x, h => by simp only [List.cons_append, afterL, afterL_last p h]
variable [BaseTab]
theorem After_eq (s : List UInt8) (hs : s.length < 4611686018427387904) : key_After s = some (match afterL s with | some a => (a, true) | none => ([], false)) := by
 unfold key_After
 suffices hk : ∀ B : Nat → Option (Nat ⊕ Nat), (∀ y, y ≤ s.length → B y = some (if 0 < y ∧ s[y - 1]? = some 255 then .inl (y - 1) else .inr y)) → ∀ y, y ≤ s.length → ∃ n, n ≤ y ∧ loop B y = some n ∧ (∀ i, n ≤ i → i < y → s[i]? = some 255) ∧ (n = 0 ∨ s[n - 1]? ≠ some 255) by
  refine Exists.elim (hk (fun y106 =>
    Option.bind (α := Bool)
     (bif (decide ((y106 : Int) > (0 : Int))) then
      Option.bind (getS s 0 y106 (w64 ((y106 : Int) - (1 : Int)))) fun v123 =>
      some (v123 == (255 : UInt8))
     else
      some false)
     fun y120 =>
    bif y120 then
     bif decide (0 ≤ (w64 ((y106 : Int) - (1 : Int))) ∧ (w64 ((y106 : Int) - (1 : Int))) ≤ (y106 : Int)) then
     some (Sum.inl ((w64 ((y106 : Int) - (1 : Int))).toNat))
     else none
    else
     some (Sum.inr y106)) ?_ s.length (Nat.le_refl _)) ?_
  ·intro y hy
   show Option.bind (bif _ then _ else _) _ = _
   by_cases h0 : 0 < y
   rotate_left
   ·rw [bif_decF (by omega), bind_some', cond_false, if_neg (fun h => h0 h.1)]
   rw [bif_decT (by omega), w64_id (n := (y : Int) - 1) (by omega) (by omega)]
   have hg : getS s 0 y ((y : Int) - 1) = s[y - 1]? := by
    unfold getS
    rw [if_pos (by omega), Nat.zero_add, show ((y : Int) - 1).toNat = y - 1 by omega]
   rw [hg, List.getElem?_eq_getElem (by omega), bind_some', bind_some']
   by_cases h1 : s[y - 1]'(by omega) = 255
   ·rw [h1, BEq.rfl, cond_true, bif_decT (by omega), if_pos ⟨h0, rfl⟩, show ((y : Int) - 1).toNat = y - 1 by omega]
   ·rw [beq_eq_false_iff_ne.2 h1, cond_false, if_neg (fun h => h1 (Option.some.inj h.2))]
  ·rintro n ⟨h1, h2, h3, h4⟩
   rw [h2, bind_some', bind_some']
   have hsplit : s = s.take n ++ s.drop n := (List.take_append_drop _ _).symm
   have hfull : ∀ x, x ∈ s.drop n → x = 255 := by
    intro x hx
    obtain ⟨i, hi⟩ := List.getElem?_of_mem hx
    rw [List.getElem?_drop] at hi
    have hlt := ltGet hi
    rw [h3 (n + i) (by omega) (by omega)] at hi
    exact (Option.some.inj hi).symm
   have e1 : afterL s = afterL (s.take n) := by
    conv => lhs; rw [hsplit]
    exact afterL_append _ hfull
   rw [e1]
   by_cases h0 : n = 0
   ·subst h0; rfl
   obtain ⟨m, rfl⟩ : ∃ m, n = m + 1 := ⟨n - 1, by omega⟩
   have hm : m < s.length := by omega
   have hx : s[m] ≠ 255 := by
    rcases h4 with h4 | h4
    ·omega
    ·intro e; apply h4; rw [show m + 1 - 1 = m by omega, List.getElem?_eq_getElem hm, e]
   have hg : getS s 0 (m + 1) (m : Int) = some s[m] := by
    unfold getS
    rw [if_pos (by omega), Nat.zero_add, Int.toNat_natCast, List.getElem?_eq_getElem hm]
   rw [beq_eq_false_iff_ne.2 (show ¬ ((m + 1 : Nat) : Int) = 0 by omega), cond_false, w64_id (n := ((m + 1 : Nat) : Int) - 1) (by omega) (by omega), show ((m + 1 : Nat) : Int) - 1 = (m : Int) by omega, hg, bind_some', bind_some', Int.toNat_natCast, bif_decT (by simp; omega)]
   rw [List.take_succ_eq_append_getElem hm, afterL_last _ hx]
   simp only
   congr 2
   rw [List.drop_zero, List.take_set, List.take_succ_eq_append_getElem hm, List.set_append_right _ _ (by simp; omega)]
   have : m - (s.take m).length = 0 := by simp; omega
   rw [this, List.set_cons_zero]
 intro B hB y
 induction y with
 | zero => intro _; exact ⟨0, by omega, loop_end (by rw [hB 0 (by omega), if_neg (by omega)]), fun i _ _ => by omega, .inl rfl⟩
 | succ y ih =>
  intro hy
  have hb := hB (y + 1) hy
  by_cases h : s[y]? = some 255
  ·rw [if_pos ⟨by omega, by simpa using h⟩] at hb
   obtain ⟨n, h1, h2, h3, h4⟩ := ih (by omega)
   refine ⟨n, by omega, (loop_step hb).trans h2, fun i k1 k2 => ?_, h4⟩
   by_cases e : i = y
   ·rw [e]; exact h
   ·exact h3 i k1 (by omega)
  ·rw [if_neg (fun k => h (by simpa using k.2))] at hb
   exact ⟨y + 1, by omega, loop_end hb, fun i _ _ => by omega, .inr (by simpa using h)⟩
end Lv
namespace Lv
open Go Go.Proofs
variable [BaseTab]
def letter (c : UInt8) : Bool := decide (97 ≤ c) && decide (c ≤ 122)
def nchar (c : UInt8) : Bool := letter c || c == 95 || (decide (48 ≤ c) && decide (c ≤ 57))
def nameS : List UInt8 → Bool
 | [] => false
 | c :: r => decide (r.length < 16) && (letter c && r.all nchar)
theorem nall (l : List UInt8) : (l.any fun c => !nchar c) = !l.all nchar := by induction l <;> simp_all [List.any_cons, List.all_cons]
theorem value_Name_eq (s : List UInt8) (hs : s.length < 4611686018427387904) : value_Name s = some (nameS s) := by
 unfold value_Name
 cases s with
 | nil => rfl
 | cons c r =>
  have hlen : (c :: r).length = r.length + 1 := rfl
  refine bo (a := decide (r.length ≥ 16)) ?_ ?_
  ·rw [show ((c :: r) == ([] : List UInt8)) = false from rfl, cond_false, hlen]; congr 1; exact decI (by omega)
  by_cases h16 : r.length ≥ 16
  ·rw [bif_decT h16]; simp only [nameS]; rw [decide_eq_false (by omega)]; rfl
  rw [bif_decF h16]
  have e1 : nameS (c :: r) = (letter c && r.all nchar) := by simp only [nameS]; rw [decide_eq_true (by omega)]; rfl
  rw [e1]
  refine lpE (w := if (letter c && r.all nchar) = true then .inl () else .inr false) (nmB fun B hB => ?_) ?_
  rotate_left
  ·cases (letter c && r.all nchar) <;> rfl
  have step : ∀ (i : Nat) (x : UInt8), i < (c :: r).length → (c :: r)[i]? = some x → B (i : Int) = some (if (if i = 0 then !letter x else !nchar x) = true then .inr (.inr false) else .inl ((i + 1 : Nat) : Int)) := by
   intro i x hi hx
   rw [hB]
   show (bif _ then _ else _) = _
   rw [bif_decT (by omega), getI_nat, hx, bind_some', show ((i : Int) == 0) = decide (i = 0) by rw [Bool.eq_iff_iff]; simp, w64_succ (by omega)]
   generalize ((i + 1 : Nat) : Int) = k
   by_cases h0 : i = 0
   ·simp only [h0, decide_true, if_true]
    clear hx
    refine bo (a := letter x) ?_ ?_
    ·revert x; exact u8F (by decide +kernel)
    ·cases letter x <;> rfl
   ·simp only [h0, decide_false, if_false]
    clear hx
    refine bo (a := letter x) ?_ (bo (a := !nchar x) ?_ ?_)
    ·revert x; exact u8F (by decide +kernel)
    ·revert x; exact u8F (by decide +kernel)
    ·cases nchar x <;> rfl
  have s0 := step 0 c (by omega) rfl
  rw [show (0 : Int) = ((0 : Nat) : Int) from rfl]
  cases hc : letter c with
  | false => rw [hc] at s0; exact loop_end s0
  | true =>
   rw [hc] at s0
   rw [loop_step (y' := ((0 + 1 : Nat) : Int)) s0]
   refine (lq3 r (fun c => !nchar c) (.inr false) (.inl ()) (fun i => ((i + 1 : Nat) : Int)) (fun i hi => ?_) ?_ rfl).trans ?_
   ·rw [step (i + 1) r[i] (by omega) (by simp [hi])]
    simp
   ·rw [hB]
    show (bif _ then _ else _) = _
    rw [bif_decF (by omega)]
   ·rw [nall]; cases r.all nchar <;> rfl
theorem ref06_Name_eq (s : List UInt8) (hs : s.length < 4611686018427387904) : ref06_Name s = some (nameS s) := by
 unfold ref06_Name
 cases s with
 | nil => rfl
 | cons c r =>
  have hlen : (c :: r).length = r.length + 1 := rfl
  have e1 : nameS (c :: r) = (decide (r.length < 16) && (letter c && r.all nchar)) := rfl
  rw [e1]
  refine bo (a := !(decide (r.length < 16) && letter c)) ?_ ?_
  ·rw [bif_decF (by omega), show getI (c :: r) 0 = some c from rfl]
   by_cases h16 : r.length < 16
   ·rw [bif_decF (by omega), decide_eq_true h16]
    simp only [bind_some', Bool.true_and]
    clear e1 hlen hs
    revert c; exact u8F (by decide +kernel)
   ·rw [bif_decT (by omega), decide_eq_false h16]; rfl
  by_cases h16 : r.length < 16
  rotate_left
  ·rw [decide_eq_false h16]; rfl
  rw [decide_eq_true h16, Bool.true_and, Bool.true_and]
  cases hc : letter c with
  | false => rfl
  | true =>
   rw [Bool.not_true, cond_false, Bool.true_and]
   refine lpE (w := if r.all nchar = true then .inl () else .inr false) (nmB fun B hB => ?_) ?_
   rotate_left
   ·cases r.all nchar <;> rfl
   refine (lq3 r (fun c => !nchar c) (.inr false) (.inl ()) (fun i => ((i + 1 : Nat) : Int)) (fun i hi => ?_) ?_ rfl).trans ?_
   ·rw [hB]
    show (bif _ then _ else _) = _
    rw [bif_decT (by omega), getI_nat, show (c :: r)[i + 1]? = some r[i] by simp [hi], w64_succ (by omega)]
    generalize ((i + 1 + 1 : Nat) : Int) = k
    generalize r[i] = x
    simp only [bind_some']
    refine bo (a := !nchar x) ?_ ?_
    ·revert x; exact u8F (by decide +kernel)
    ·cases nchar x <;> rfl
   ·rw [hB]
    show (bif _ then _ else _) = _
    rw [bif_decF (by omega)]
   ·rw [nall]; cases r.all nchar <;> rfl
def fitS (c : ApiColumn) (v : ApiValue) : Int :=
 if val v = false then 8 else if v.Kind = 0 then (if c.Nulls = true then 0 else 8) else if v.Kind ≠ c.Kind then 8 else if (v.Kind = 4 ∨ v.Kind = 5) ∧ (v.S.length : Int) > c.Max then 7 else 0
theorem long_eq (k : Int) : value_long k = some (decide (k = 4 ∨ k = 5)) := by
 unfold value_long
 by_cases h : k = 4
 ·subst h; rfl
 ·rw [show (k == 4) = false by simpa using h]
  simp only [cond_false, bind_some', h, false_or]
  congr 1
theorem value_Fits_eq (c : ApiColumn) (v : ApiValue) (h : v.S.length < 4611686018427387904) : value_Fits c v = some (fitS c v) := by
 unfold value_Fits fitS
 rw [value_Valid_eq v h, bind_some']
 cases hv : val v with
 | false => rfl
 | true =>
  simp only [Bool.not_true, cond_false, Bool.true_eq_false, if_false]
  by_cases h0 : v.Kind = 0
  ·rw [show (v.Kind == 0) = true by simpa using h0, if_pos h0]
   cases c.Nulls <;> rfl
  rw [show (v.Kind == 0) = false by simpa using h0, if_neg h0, cond_false]
  by_cases hk : v.Kind = c.Kind
  rotate_left
  ·rw [show (v.Kind != c.Kind) = true by simpa using hk, if_pos hk]; rfl
  rw [show (v.Kind != c.Kind) = false by simpa using hk, if_neg (by simpa using hk), cond_false, long_eq, bind_some']
  by_cases hl : v.Kind = 4 ∨ v.Kind = 5
  ·rw [bif_decT hl, bind_some']
   by_cases hm : (v.S.length : Int) > c.Max
   ·rw [if_pos ⟨hl, hm⟩, bif_decT hm]
   ·rw [if_neg (fun h => hm h.2), bif_decF hm]
  ·rw [bif_decF hl, bind_some', if_neg (fun h => hl h.1)]; rfl
theorem ref06_Fits_eq (c : ApiColumn) (v : ApiValue) (h : v.S.length < 4611686018427387904) : ref06_Fits c v = some (fitS c v) := by
 unfold ref06_Fits fitS
 rw [ref06_Valid_eq v h, bind_some']
 cases hv : val v with
 | false => rfl
 | true =>
  simp only [Bool.not_true, cond_false, Bool.true_eq_false, if_false]
  by_cases h0 : v.Kind = 0
  ·rw [show (v.Kind == 0) = true by simpa using h0, if_pos h0, show (v.Kind != 0) = false by simpa using h0, h0]
   cases c.Nulls <;> rfl
  rw [show (v.Kind == 0) = false by simpa using h0, if_neg h0, show (v.Kind != 0) = true by simpa using h0]
  simp only [cond_false, cond_true, bind_some']
  by_cases hk : v.Kind = c.Kind
  rotate_left
  ·rw [show (v.Kind != c.Kind) = true by simpa using hk, if_pos hk]; rfl
  rw [show (v.Kind != c.Kind) = false by simpa using hk, if_neg (by simpa using hk), cond_false]
  refine bo (a := decide ((v.Kind = 4 ∨ v.Kind = 5) ∧ (v.S.length : Int) > c.Max)) ?_ ?_
  ·by_cases h4 : v.Kind = 4
   ·rw [show (v.Kind == 4) = true by simpa using h4]; simp [h4]
   ·rw [show (v.Kind == 4) = false by simpa using h4]
    by_cases h5 : v.Kind = 5
    ·rw [show (v.Kind == 5) = true by simpa using h5]; simp [h5]
    ·rw [show (v.Kind == 5) = false by simpa using h5]; simp [h4, h5]
  ·by_cases q : (v.Kind = 4 ∨ v.Kind = 5) ∧ (v.S.length : Int) > c.Max
   ·rw [bif_decT q, if_pos q]
   ·rw [bif_decF q, if_neg q]
def colS (c : ApiColumn) : Int :=
 if nameS c.Name = false then 1 else if c.Kind < 1 ∨ c.Kind > 5 then 8 else if (if c.Kind = 4 ∨ c.Kind = 5 then c.Max < 1 ∨ c.Max > 64 else c.Max ≠ 0) then 7 else fitS c c.Default
theorem value_Column_eq (c : ApiColumn) (h : c.Name.length < 4611686018427387904) (h2 : c.Default.S.length < 4611686018427387904) : value_Column c = some (colS c) := by
 unfold value_Column colS
 rw [value_Name_eq _ h, bind_some']
 cases nameS c.Name with
 | false => rfl
 | true =>
  simp only [Bool.not_true, cond_false, Bool.true_eq_false, if_false]
  refine bo (a := decide (c.Kind < 1 ∨ c.Kind > 5)) ?_ ?_
  ·by_cases k1 : c.Kind < 1
   ·rw [bif_decT k1, decide_eq_true (Or.inl k1)]
   ·rw [bif_decF k1]; congr 1; exact decI (by omega)
  by_cases hk : c.Kind < 1 ∨ c.Kind > 5
  ·rw [bif_decT hk, if_pos hk]
  rw [bif_decF hk, if_neg hk]
  simp only [long_eq, bind_some']
  refine bo (a := decide (if c.Kind = 4 ∨ c.Kind = 5 then c.Max < 1 ∨ c.Max > 64 else c.Max ≠ 0)) ?_ ?_
  ·by_cases hl : c.Kind = 4 ∨ c.Kind = 5
   ·simp only [hl, decide_true, cond_true, if_true, Bool.not_true, cond_false]
    by_cases m1 : c.Max < 1
    ·rw [bif_decT m1]; simp [m1]
    ·rw [bif_decF m1]
     by_cases m2 : c.Max > 64
     ·rw [bif_decT m2]; simp [m2]
     ·rw [bif_decF m2]; simp [m1, m2]
   ·simp only [hl, decide_false, cond_false, if_false, Bool.not_false, cond_true]
    congr 1
    by_cases m : c.Max = 0
    ·simp [m]
    ·simp [m]
  by_cases q : (if c.Kind = 4 ∨ c.Kind = 5 then c.Max < 1 ∨ c.Max > 64 else c.Max ≠ 0)
  ·rw [bif_decT q, if_pos q]
  ·rw [bif_decF q, if_neg q, value_Fits_eq _ _ h2, bind_some']
theorem ref06_Column_eq (c : ApiColumn) (h : c.Name.length < 4611686018427387904) (h2 : c.Default.S.length < 4611686018427387904) : ref06_Column c = some (colS c) := by
 unfold ref06_Column colS
 rw [ref06_Name_eq _ h, bind_some']
 cases nameS c.Name with
 | false => rfl
 | true =>
  simp only [Bool.not_true, cond_false, Bool.true_eq_false, if_false]
  refine bo (a := decide (c.Kind < 1 ∨ c.Kind > 5)) ?_ ?_
  ·by_cases k1 : c.Kind < 1
   ·rw [bif_decT k1, decide_eq_true (Or.inl k1)]
   ·rw [bif_decF k1]; congr 1; exact decI (by omega)
  by_cases hk : c.Kind < 1 ∨ c.Kind > 5
  ·rw [bif_decT hk, if_pos hk]
  rw [bif_decF hk, if_neg hk]
  refine bo (a := decide (if c.Kind = 4 ∨ c.Kind = 5 then c.Max < 1 ∨ c.Max > 64 else c.Max ≠ 0)) ?_ ?_
  ·by_cases hl : c.Kind = 4 ∨ c.Kind = 5
   ·rw [bif_decF (by omega), bif_decT (by omega)]
    simp only [hl, if_true]
    by_cases m1 : c.Max < 1
    ·rw [bif_decT m1]; simp [m1]
    ·rw [bif_decF m1]; simp [m1]
   ·rw [bif_decT (by omega)]
    simp only [hl, if_false]
    by_cases m : c.Max = 0
    ·rw [show (c.Max != 0) = false by simpa using m, cond_false, bif_decF (by omega)]; simp [m]
    ·rw [show (c.Max != 0) = true by simpa using m]; simp [m]
  by_cases q : (if c.Kind = 4 ∨ c.Kind = 5 then c.Max < 1 ∨ c.Max > 64 else c.Max ≠ 0)
  ·rw [bif_decT q, if_pos q]
  ·rw [bif_decF q, if_neg q, ref06_Fits_eq _ _ h2, bind_some']
def OkC (c : ApiColumn) : Prop := c.Name.length < 4611686018427387904 ∧ c.Default.S.length < 4611686018427387904
def OkCs (l : List ApiColumn) : Prop := l.length < 4611686018427387904 ∧ ∀ c ∈ l, OkC c
def OkVs (l : List ApiValue) : Prop := l.length < 4611686018427387904 ∧ ∀ v ∈ l, v.S.length < 4611686018427387904
def colsS (l : List ApiColumn) : Bool := decide (1 ≤ l.length ∧ l.length ≤ 24) && l.all fun c => colS c == 0
def fitE (p : ApiColumn × ApiValue) : Option Int := if fitS p.1 p.2 = 0 then none else some (fitS p.1 p.2)
def fitsS (cols : List ApiColumn) (l : List ApiValue) : Int := if colsS cols = false ∨ l.length ≠ cols.length then 1 else ((cols.zip l).findSome? fitE).getD 0
theorem allb (l : List ApiColumn) : (l.any fun c => colS c != 0) = !(l.all fun c => colS c == 0) := by
 induction l with
 | nil => rfl
 | cons x r ih => rw [List.any_cons, List.all_cons, ih]; cases h : (colS x == 0) <;> simp [bne, h]
theorem row_columns_eq (l : List ApiColumn) (h : OkCs l) : row_columns l = some (colsS l) := by
 unfold row_columns
 have hl := h.1
 refine bo (a := colsS l) ?_ rfl
 by_cases h1 : l.length ≥ 1
 rotate_left
 ·rw [bif_decF (by omega), colsS, decide_eq_false (by omega)]; rfl
 rw [bif_decT (by omega)]
 by_cases h2 : l.length ≤ 24
 rotate_left
 ·rw [bif_decF (by omega), colsS, decide_eq_false (by omega)]; rfl
 rw [bif_decT (by omega)]
 refine bo (a := l.any fun c => colS c != 0) ?_ ?_
 ·unfold slices_ContainsFunc_api_Column_api_Column slices_IndexFunc_api_Column_api_Column
  refine bo (lqX l (fun c => colS c != 0) (fun i hi => ?_) ?_) (by rw [idxI_any])
  ·show (bif _ then _ else _) = _
   rw [bif_decT (by omega), getI_at hi, bind_some', row_columns_1, value_Column_eq _ (h.2 _ (List.getElem_mem hi)).1 (h.2 _ (List.getElem_mem hi)).2, bind_some', bind_some', w64_succ (by omega)]
   cases colS l[i] != 0 <;> rfl
  ·show (bif _ then _ else _) = _
   rw [bif_decF (by omega)]
 ·rw [allb, colsS, decide_eq_true ⟨h1, h2⟩, Bool.not_not]; rfl
theorem ref08_Columns_eq (l : List ApiColumn) (h : OkCs l) : ref08_Columns l = some (colsS l) := by
 unfold ref08_Columns
 have hl := h.1
 refine bo (a := !decide (1 ≤ l.length ∧ l.length ≤ 24)) ?_ ?_
 ·by_cases h1 : l.length ≥ 1
  ·rw [bif_decF (by omega)]; congr 1; rw [← decide_not]; exact decI (by omega)
  ·rw [bif_decT (by omega)]; congr 1; rw [decide_eq_false (by omega)]; rfl
 by_cases h12 : 1 ≤ l.length ∧ l.length ≤ 24
 rotate_left
 ·rw [decide_eq_false h12, colsS, decide_eq_false h12]; rfl
 rw [decide_eq_true h12, colsS, decide_eq_true h12, Bool.not_true, cond_false, Bool.true_and]
 refine lpE (lq3 l (fun c => colS c != 0) (.inr false) (.inl ()) (fun i => (i : Int)) (fun i hi => ?_) ?_ rfl) ?_
 ·show (bif _ then _ else _) = _
  rw [bif_decT (by omega), getI_at hi, bind_some', ref06_Column_eq _ (h.2 _ (List.getElem_mem hi)).1 (h.2 _ (List.getElem_mem hi)).2, bind_some', w64_succ (by omega)]
  cases colS l[i] != 0 <;> rfl
 ·show (bif _ then _ else _) = _
  rw [bif_decF (by omega)]
 ·rw [allb]; cases (l.all fun c => colS c == 0) <;> rfl
theorem zipL {α β : Type} {a : List α} {b : List β} (h : b.length = a.length) : (a.zip b).length = a.length := by simp [h]
theorem fse_map (l : List (ApiColumn × ApiValue)) : l.findSome? (fun p => (fitE p).map fun x => (.inr x : Unit ⊕ Int)) = (l.findSome? fitE).map fun x => (.inr x : Unit ⊕ Int) := by
 induction l with
 | nil => rfl
 | cons x r ih => rw [List.findSome?_cons, List.findSome?_cons]; cases fitE x <;> simp [ih]
theorem row_Fits_eq (cols : List ApiColumn) (l : List ApiValue) (h : OkCs cols) (hv : OkVs l) : row_Fits cols l = some (fitsS cols l) := by
 unfold row_Fits fitsS
 have hl := hv.1
 refine bo (a := decide (colsS cols = false ∨ l.length ≠ cols.length)) ?_ ?_
 ·rw [row_columns_eq _ h, bind_some']
  cases colsS cols with
  | false => simp
  | true => rw [Bool.not_true, cond_false, nat_ne]; simp [bne, Bool.beq_eq_decide_eq]
 by_cases q : colsS cols = false ∨ l.length ≠ cols.length
 ·rw [bif_decT q, if_pos q]
 rw [bif_decF q, if_neg q]
 have e : l.length = cols.length := by rw [not_or] at q; simpa using q.2
 have z := zipL (a := cols) (b := l) e
 refine lpE (lq2 (cols.zip l) (fun p => (fitE p).map fun x => (.inr x : Unit ⊕ Int)) (.inl ()) (fun i => (i : Int)) (fun i hi => ?_) ?_ rfl) ?_
 ·show (bif _ then _ else _) = _
  rw [bif_decT (by omega), getI_at (by omega), bind_some', getI_at (by omega), bind_some', value_Fits_eq _ _ (hv.2 _ (List.getElem_mem _)), bind_some', w64_succ (by omega), List.getElem_zip]
  unfold fitE
  by_cases k : fitS cols[i] l[i] = 0
  ·simp [k]
  ·rw [if_neg k, show (fitS cols[i] l[i] != 0) = true by simpa using k]; rfl
 ·show (bif _ then _ else _) = _
  rw [bif_decF (by omega)]
 ·rw [fse_map]
  cases (cols.zip l).findSome? fitE <;> rfl
theorem ref08_Fits_eq (cols : List ApiColumn) (l : List ApiValue) (h : OkCs cols) (hv : OkVs l) : ref08_Fits cols l = some (fitsS cols l) := by
 unfold ref08_Fits fitsS
 have hl := hv.1
 refine bo (a := decide (colsS cols = false ∨ l.length ≠ cols.length)) ?_ ?_
 ·rw [ref08_Columns_eq _ h, bind_some']
  cases colsS cols with
  | false => simp
  | true => rw [Bool.not_true, cond_false, nat_ne]; simp [bne, Bool.beq_eq_decide_eq]
 by_cases q : colsS cols = false ∨ l.length ≠ cols.length
 ·rw [bif_decT q, if_pos q]
 rw [bif_decF q, if_neg q]
 have e : l.length = cols.length := by rw [not_or] at q; simpa using q.2
 have z := zipL (a := cols) (b := l) e
 refine lpE (lq2 (cols.zip l) (fun p => (fitE p).map fun x => (.inr x : Unit ⊕ Int)) (.inl ()) (fun i => (i : Int)) (fun i hi => ?_) ?_ rfl) ?_
 ·show (bif _ then _ else _) = _
  rw [bif_decT (by omega), getI_at (by omega), bind_some', getI_at (by omega), bind_some', ref06_Fits_eq _ _ (hv.2 _ (List.getElem_mem _)), bind_some', w64_succ (by omega), List.getElem_zip]
  unfold fitE
  by_cases k : fitS cols[i] l[i] = 0
  ·simp [k]
  ·rw [if_neg k, show (fitS cols[i] l[i] != 0) = true by simpa using k]; rfl
 ·show (bif _ then _ else _) = _
  rw [bif_decF (by omega)]
 ·rw [fse_map]
  cases (cols.zip l).findSome? fitE <;> rfl
theorem u8_flip (x : UInt8) : (255 : UInt8) - x = ~~~ x := by
 rw [← UInt8.toNat_inj]
 have := x.toNat_lt
 rw [UInt8.toNat_sub, UInt8.toNat_not]
 show (256 - x.toNat + 255) % 256 = _
 simp
 omega
theorem one8 : bytesN 1 1 = [1] := by decide
theorem zero8 : bytesN 0 1 = [0] := by decide
theorem zeros8 : bytesN 0 2 = [0, 0] := by decide
theorem b8 (x : UInt8) : bytesN x.toUInt64 1 = [x] := by
 unfold bytesN
 simp [bytesN]
theorem b255 : bytesN 255 1 = [255] := by decide
theorem ref07_part1_eq (v : ApiValue) (d : Bool) (h : v.S.length ≤ 1048576) : ref07_part_1 v d = some (turn d (enc v)) := by
  have hl := esc_len v.S
  have hb := body_len v
  have hlen : (enc v).length ≤ 4194304 := by unfold enc; simp; omega
  unfold ref07_part_1
  have h1 : (bif (v.Kind == (0 : Int)) then
      Option.bind (ref01_Out_Num (0 : UInt64) (1 : Int)) fun r351 =>
      some r351
    else
      Option.bind (ref01_Out_Num (1 : UInt64) (1 : Int)) fun r353 =>
      some r353) = some [if v.Kind = 0 then 0 else 1] := by
    have e0 := Out_Num_eq 0 1 [] (by omega) (by simp)
    have e1 := Out_Num_eq 1 1 [] (by omega) (by simp)
    by_cases k : v.Kind = 0
    · rw [k, if_pos rfl]
      simp only [BEq.rfl, cond_true, Out_Num_nil]
      rw [show ref01_Out_Num_1 0 1 [] = _ from e0, zero8]; rfl
    · rw [if_neg k, beq_eq_false_iff_ne.2 k, cond_false, Out_Num_nil, show ref01_Out_Num_1 1 1 [] = _ from e1, one8]; rfl
  rw [h1, bind_some']
  -- the middle
  have key : ∀ (m : Option (List UInt8)) (f : List UInt8 → Option (List UInt8)), m = some (enc v) → f (enc v) = some (turn d (enc v)) → Option.bind m f = some (turn d (enc v)) := by
    intro m f hm hf; subst hm; exact hf
  refine key _ _ ?_ ?_
  · by_cases k1 : v.Kind = 1
    · rw [k1, BEq.rfl, cond_true]
      rw [show ref01_Out_Num_1 (v.N ^^^ 9223372036854775808) 8 _ = _ from Out_Num_eq _ 8 _ (by omega) (by simp)]
      unfold enc body
      rw [k1]
      rfl
    by_cases k2 : v.Kind = 2
    · rw [k2, show ((2 : Int) == 1) = false from rfl, cond_false, BEq.rfl, cond_true]
      rw [show ref01_Out_Num_1 v.N 8 _ = _ from Out_Num_eq _ 8 _ (by omega) (by simp)]
      unfold enc body
      rw [k2]
      rfl
    by_cases k3 : v.Kind = 3
    · rw [k3, show ((3 : Int) == 1) = false from rfl, show ((3 : Int) == 2) = false from rfl, cond_false, cond_false, BEq.rfl, cond_true]
      rw [show ref01_Out_Num_1 v.N 1 _ = _ from Out_Num_eq _ 1 _ (by omega) (by simp)]
      unfold enc body
      rw [k3]
      rfl
    rw [beq_eq_false_iff_ne.2 k1, beq_eq_false_iff_ne.2 k2, beq_eq_false_iff_ne.2 k3, cond_false, cond_false, cond_false]
    by_cases k45 : v.Kind = 4 ∨ v.Kind = 5
    · have c : (bif v.Kind == 4 then some (v.Kind == 4) else some (v.Kind == 5)) = some true := by rcases k45 with k | k <;> rw [k] <;> rfl
      have k0 : ¬ v.Kind = 0 := by omega
      rw [c, bind_some', cond_true, if_neg k0]
      have q := loop_seq (B := (fun (y582, y583) =>
                  bif (decide (y582 < (v.S.length : Int))) then
                    Option.bind (α := (List UInt8))
                      (Option.bind (getI v.S y582) fun v615 =>
                      Option.bind (ref01_Out_Num_1 (v615.toUInt64) (1 : Int) y583) fun r616 =>
                      Option.bind (getI v.S y582) fun v618 =>
                      bif (v618 == (0 : UInt8)) then
                        Option.bind (ref01_Out_Num_1 (255 : UInt64) (1 : Int) r616) fun r620 =>
                        some r620
                      else
                        some r616)
                      fun y613 =>
                    some (Sum.inl ((w64 (y582 + (1 : Int))), y613))
                  else
                    some (Sum.inr y583))) (fun i => ((i : Int), [1] ++ esc (v.S.take i))) v.S.length (w := [1] ++ esc v.S) ?_ ?_
      · rw [show (loop _ ((0 : Int), [(1 : UInt8)])) = _ from q, bind_some', bind_some']
        rw [show ref01_Out_Num_1 0 2 _ = _ from Out_Num_eq 0 2 _ (by omega) (by simp; omega), zeros8]
        unfold enc body
        rcases k45 with k | k <;> simp [k]
      · intro i hi
        have es := esc_len (v.S.take i)
        have tl : (v.S.take i).length ≤ v.S.length := by simp; omega
        have he : esc (v.S.take (i + 1)) = esc (v.S.take i) ++ (if v.S[i] = 0 then [0, 255] else [v.S[i]]) := by
          rw [List.take_succ_eq_append_getElem hi]
          generalize v.S.take i = l
          induction l with
          | nil => unfold esc; simp only [List.nil_append]; split <;> simp_all [esc]
          | cons x l ih =>
            rw [List.cons_append]
            unfold esc
            split <;> simp [ih]
        show (bif _ then _ else _) = _
        rw [bif_decT (by omega), getI_at hi, bind_some']
        rw [show ref01_Out_Num_1 (v.S[i].toUInt64) 1 _ = _ from Out_Num_eq _ 1 _ (by omega) (by simp; omega), bind_some', bind_some', b8, he]
        by_cases hz : v.S[i] = 0
        · rw [hz, BEq.rfl, cond_true, if_pos rfl]
          rw [show ref01_Out_Num_1 255 1 _ = _ from Out_Num_eq 255 1 _ (by omega) (by simp; omega), bind_some', bind_some', b255, w64_succ (by omega)]
          simp
        · rw [beq_eq_false_iff_ne.2 hz, cond_false, if_neg hz, bind_some', w64_succ (by omega)]
          simp
      · show (bif _ then _ else _) = _
        rw [bif_decF (by omega), List.take_length]
    · have c : (bif v.Kind == 4 then some (v.Kind == 4) else some (v.Kind == 5)) = some false := by
        rw [beq_eq_false_iff_ne.2 (show ¬ v.Kind = 4 by omega), beq_eq_false_iff_ne.2 (show ¬ v.Kind = 5 by omega)]; rfl
      rw [c, bind_some', cond_false]
      unfold enc body
      simp only [k1, k2, k3, k45, if_false]
  · generalize enc v = b at hlen
    refine lpA (w := turn d b) (nmB fun B hB => ?_) rfl
    cases d with
    | false =>
      refine loop_end ?_
      rw [hB]
      show Option.bind (bif _ then _ else _) _ = _
      cases decide ((0 : Int) < (b.length : Int)) <;> rfl
    | true =>
      refine lq1 (fun i => ((i : Int), mapped (fun x => ~~~ x) b i)) b.length (fun i hi => ?_) ?_ (by rw [mapped_zero]; rfl)
      · have hm := mapped_len (fun x => ~~~ x) b i
        have hg : getI (mapped (fun x => ~~~ x) b i) (i : Int) = some (b[i]'hi) := by rw [getI_nat, mapped_get _ _ hi]
        rw [hB]
        show Option.bind (bif _ then _ else _) _ = _
        rw [bif_decT (by omega), bind_some', cond_true]
        show Option.bind (getI (mapped (fun x => ~~~ x) b i) (i : Int)) _ = _
        rw [hg, bind_some', bind_some', u8_flip, w64_succ (by omega), Int.toNat_natCast]
        exact congrArg (fun x => some (Sum.inl (_, x))) (mapped_set (fun x => ~~~ x) _ hi)
      · rw [hB]
        have hm := mapped_len (fun x => ~~~ x) b b.length
        show Option.bind (bif _ then _ else _) _ = _
        rw [bif_decF (by omega)]
        show some (Sum.inr (mapped (fun x => ~~~ x) b b.length)) = _
        rw [mapped_all]
        rfl
theorem ref07_Key1_eq (l : List ApiValue) (ds : List Bool) (he : l.length = ds.length) (hl : l.length ≤ 1048576) (hv : l.any bad = false) : ref07_Key_1 l ds = some (encL l ds) := by
 unfold ref07_Key_1
 refine lpA (w := encL l ds) (lq1 (fun i => (encL (l.take i) (ds.take i), (i : Int))) l.length (fun i hi => ?_) ?_ rfl) rfl
 ·have h1 := encL_short (l.take i) (ds.take i) (any_take _ _ _ hv)
  have hb : val l[i] = true := by rw [List.any_eq_false] at hv; have := hv _ (List.getElem_mem hi); unfold bad at this; simpa using this
  have h2 := enc_short (v := l[i]) hb
  have h3 := val_short hb
  rw [List.length_take, Nat.min_eq_left (Nat.le_of_lt hi)] at h1
  show (bif _ then _ else _) = _
  rw [bif_decT (by omega), getI_at hi, bind_some', getI_at (by omega), bind_some', ref07_part1_eq _ _ (by omega), bind_some', bif_decT (by rw [room_val, turn_len]; omega), w64_succ (by omega), encL_take l ds i hi (by omega)]
 ·show (bif _ then _ else _) = _
  rw [bif_decF (by omega), List.take_length, he, List.take_length]
def putS (v : ApiValue) : List UInt8 :=
 if v.Kind = 0 then [1] else 0 :: (if v.Kind = 1 ∨ v.Kind = 2 then bytesN v.N 8 else if v.Kind = 3 then bytesN v.N 1 else if v.Kind = 4 ∨ v.Kind = 5 then bytesN (u64i v.S.length) 2 ++ v.S else [])
def rowS (l : List ApiValue) : List UInt8 := bytesN (u64i l.length) 1 ++ (l.map putS).flatten
theorem putS_len {v : ApiValue} (h : v.S.length ≤ 64) : (putS v).length ≤ 67 := by
 unfold putS
 repeat' split
 all_goals simp [bytesN_len] <;> omega
theorem flat_len : ∀ {l : List ApiValue}, (∀ v ∈ l, v.S.length ≤ 64) → ((l.map putS).flatten).length ≤ 67 * l.length
 | [], _ => by simp
 | v :: l, h => by
  have h1 := putS_len (h v (by simp))
  have h2 := flat_len (l := l) (fun v hv => h v (by simp [hv]))
  simp only [List.map_cons, List.flatten_cons, List.length_append, List.length_cons]
  omega
theorem u16_len (n : Nat) (h : n < 65536) : [((shr16 (u16i (n : Int)) 8).toUInt8), ((u16i (n : Int)).toUInt8)] = bytesN (u64i (n : Int)) 2 := by
 have e : (u16i (n : Int)).toNat = (u64i (n : Int)).toNat / 2 ^ 0 % 65536 := by
  unfold u16i u64i
  simp
  omega
 rw [u16_hi (u64i (n : Int)) 0 _ e, u16_lo (u64i (n : Int)) 0 _ e]
 rfl
theorem Out_Text_eq (s b : List UInt8) (h : s.length ≤ 65535) (hb : b.length ≤ 1048576) : pack_Out_Text s b = some (true, b ++ (bytesN (u64i s.length) 2 ++ s)) := by
 unfold pack_Out_Text
 rw [bind_some', bif_decF (by omega), Out_U16_eq _ _ (by omega), bind_some', bif_decT (by rw [room_val]; simp; omega), u16_len _ (by omega), List.append_assoc]
theorem ref01_Text_eq (s b : List UInt8) (h : s.length ≤ 65535) (hb : b.length ≤ 1048576) : ref01_Out_Text s b = some (true, b ++ (bytesN (u64i s.length) 2 ++ s)) := by
 unfold ref01_Out_Text
 rw [bif_decF (by omega), show ref01_Out_Num_1 (u64i s.length) 2 b = _ from Out_Num_eq _ 2 _ (by omega) (by omega), bind_some', bif_decT (by rw [room_val]; simp [bytesN_len]; omega), List.append_assoc]
theorem k12 (v : ApiValue) : (bif v.Kind == 1 then some (v.Kind == 1) else some (v.Kind == 2)) = some (decide (v.Kind = 1 ∨ v.Kind = 2)) := by
 by_cases k : v.Kind = 1
 ·rw [k]; rfl
 ·rw [beq_eq_false_iff_ne.2 k, cond_false]; congr 1; simp [k, Bool.beq_eq_decide_eq]
theorem k45 (v : ApiValue) : (bif v.Kind == 4 then some (v.Kind == 4) else some (v.Kind == 5)) = some (decide (v.Kind = 4 ∨ v.Kind = 5)) := by
 by_cases k : v.Kind = 4
 ·rw [k]; rfl
 ·rw [beq_eq_false_iff_ne.2 k, cond_false]; congr 1; simp [k, Bool.beq_eq_decide_eq]
theorem num8 (n : UInt64) : bytesN n 1 = [n.toUInt8] := by
 rw [low8]; rfl
theorem row_put_eq (v : ApiValue) (b : List UInt8) (h : v.S.length ≤ 64) (hb : b.length ≤ 1000000) : row_put v b = some (b ++ putS v) := by
 unfold row_put
 refine bo (a := b ++ [if v.Kind = 0 then 1 else 0]) ?_ ?_
 ·unfold pack_Out_Flag_1
  by_cases k : v.Kind = 0
  ·rw [show (v.Kind == 0) = true by simpa using k, cond_true, out_put1 _ _ (by simp; omega), if_pos k]; rfl
  ·rw [show (v.Kind == 0) = false by simpa using k, cond_false, out_put1 _ _ (by simp; omega), if_neg k]; rfl
 rw [k12, bind_some']
 by_cases k1 : v.Kind = 1 ∨ v.Kind = 2
 ·rw [bif_decT k1, Out_U64_eq _ _ (by simp; omega), bind_some', bytes8_eq]
  unfold putS
  rw [if_neg (show ¬ v.Kind = 0 by omega), if_neg (show ¬ v.Kind = 0 by omega), if_pos k1]
  simp
 rw [bif_decF k1]
 by_cases k3 : v.Kind = 3
 ·rw [show (v.Kind == 3) = true by simpa using k3, cond_true]
  unfold pack_Out_U8
  rw [out_put1 _ _ (by simp; omega), bind_some', bind_some']
  unfold putS
  rw [if_neg (show ¬ v.Kind = 0 by omega), if_neg (show ¬ v.Kind = 0 by omega), if_neg k1, if_pos k3, num8]
  simp
 rw [show (v.Kind == 3) = false by simpa using k3, cond_false, k45, bind_some']
 by_cases k4 : v.Kind = 4 ∨ v.Kind = 5
 ·rw [bif_decT k4, Out_Text_eq _ _ (by omega) (by simp; omega), bind_some']
  unfold putS
  rw [if_neg (show ¬ v.Kind = 0 by omega), if_neg (show ¬ v.Kind = 0 by omega), if_neg k1, if_neg k3, if_pos k4]
  simp
 ·rw [bif_decF k4]
  unfold putS
  rw [if_neg k1, if_neg k3, if_neg k4]
  split <;> rfl
theorem ref08_put_eq (v : ApiValue) (b : List UInt8) (h : v.S.length ≤ 64) (hb : b.length ≤ 1000000) : ref08_put v b = some (b ++ putS v) := by
 unfold ref08_put
 refine bo (a := b ++ [if v.Kind = 0 then 1 else 0]) ?_ ?_
 ·unfold ref01_Out_Flag
  by_cases k : v.Kind = 0
  ·rw [show (v.Kind == 0) = true by simpa using k, cond_true, bif_decT (by rw [room_val]; simp; omega), if_pos k]
  ·rw [show (v.Kind == 0) = false by simpa using k, cond_false, bif_decT (by rw [room_val]; simp; omega), if_neg k]
 rw [k12, bind_some']
 by_cases k1 : v.Kind = 1 ∨ v.Kind = 2
 ·rw [bif_decT k1, show ref01_Out_Num_1 v.N 8 _ = _ from Out_Num_eq _ 8 _ (by omega) (by simp; omega), bind_some']
  unfold putS
  rw [if_neg (show ¬ v.Kind = 0 by omega), if_neg (show ¬ v.Kind = 0 by omega), if_pos k1]
  simp
 rw [bif_decF k1]
 by_cases k3 : v.Kind = 3
 ·rw [show (v.Kind == 3) = true by simpa using k3, cond_true, show ref01_Out_Num_1 v.N 1 _ = _ from Out_Num_eq _ 1 _ (by omega) (by simp; omega), bind_some']
  unfold putS
  rw [if_neg (show ¬ v.Kind = 0 by omega), if_neg (show ¬ v.Kind = 0 by omega), if_neg k1, if_pos k3]
  simp
 rw [show (v.Kind == 3) = false by simpa using k3, cond_false, k45, bind_some']
 by_cases k4 : v.Kind = 4 ∨ v.Kind = 5
 ·rw [bif_decT k4, ref01_Text_eq _ _ (by omega) (by simp; omega), bind_some']
  unfold putS
  rw [if_neg (show ¬ v.Kind = 0 by omega), if_neg (show ¬ v.Kind = 0 by omega), if_neg k1, if_neg k3, if_pos k4]
  simp
 ·rw [bif_decF k4]
  unfold putS
  rw [if_neg k1, if_neg k3, if_neg k4]
  split <;> rfl
theorem rowS_take (l : List ApiValue) (b : List UInt8) (i : Nat) (hi : i < l.length) : b ++ ((l.take (i + 1)).map putS).flatten = (b ++ ((l.take i).map putS).flatten) ++ putS l[i] := by
 rw [List.take_succ_eq_append_getElem hi, List.map_append, List.flatten_append]
 simp
theorem short_take {l : List ApiValue} (h : ∀ v ∈ l, v.S.length ≤ 64) (i : Nat) : ∀ v ∈ l.take i, v.S.length ≤ 64 := fun v hv => h v (List.mem_of_mem_take hv)
theorem row_Encode_eq (cols : List ApiColumn) (l : List ApiValue) (h : OkCs cols) (hv : OkVs l) (hs : fitsS cols l = 0 → ∀ v ∈ l, v.S.length ≤ 64) (h24 : fitsS cols l = 0 → l.length ≤ 24) :
  row_Encode cols l = some (if fitsS cols l ≠ 0 then ([], fitsS cols l) else if (rowS l).length > 512 then ([], 7) else (rowS l, 0)) := by
 unfold row_Encode
 rw [row_Fits_eq cols l h hv, bind_some']
 by_cases q : fitsS cols l = 0
 rotate_left
 ·rw [show (fitsS cols l != 0) = true by simpa using q, cond_true, if_pos q]
 rw [show (fitsS cols l != 0) = false by simpa using q, cond_false, if_neg (by simpa using q)]
 have hs := hs q
 have h24 := h24 q
 have e1 : [u8i (l.length : Int)] = bytesN (u64i l.length) 1 := by
  rw [num8]; congr 1
  unfold u8i u64i
  apply UInt8.toNat_inj.1
  simp
  omega
 refine bo (a := ()) ?_ ?_
 ·unfold pack_Out_U8_1 pack_Out_put
  rw [bif_decT (by rw [room_val]; simp)]; rfl
 rw [e1]
 refine lpA (w := rowS l) (lq1 (fun i => ((i : Int), bytesN (u64i l.length) 1 ++ ((l.take i).map putS).flatten)) l.length (fun i hi => ?_) ?_ (by simp)) ?_
 ·have f := flat_len (short_take hs i)
  have tl : (l.take i).length ≤ 24 := by simp; omega
  show (bif _ then _ else _) = _
  rw [bif_decT (by omega), getI_at hi, bind_some', row_put_eq _ _ (hs _ (List.getElem_mem hi)) (by rw [List.length_append, bytesN_len]; omega), bind_some', w64_succ (by omega), rowS_take l _ i hi]
 ·show (bif _ then _ else _) = _
  rw [bif_decF (by omega), List.take_length]
  rfl
 ·have f := flat_len hs
  refine bo (a := ()) ?_ ?_
  ·unfold pack_Out_Bytes
   rw [bif_decT (by rw [room_val]; unfold rowS; rw [List.length_append, bytesN_len]; omega)]
  ·by_cases z : (rowS l).length > 512
   ·rw [bif_decT (by omega), if_pos z]
   ·rw [bif_decF (by omega), if_neg z]
theorem ref08_Bytes_eq (l : List ApiValue) (hs : ∀ v ∈ l, v.S.length ≤ 64) (h24 : l.length ≤ 24) : ref08_Bytes l = some (rowS l) := by
 unfold ref08_Bytes
 rw [Out_Num_nil, show ref01_Out_Num_1 (u64i l.length) 1 [] = _ from Out_Num_eq _ 1 _ (by omega) (by simp), bind_some', List.nil_append]
 refine lpA (w := rowS l) (lq1 (fun i => ((i : Int), bytesN (u64i l.length) 1 ++ ((l.take i).map putS).flatten)) l.length (fun i hi => ?_) ?_ (by simp)) rfl
 ·have f := flat_len (short_take hs i)
  have tl : (l.take i).length ≤ 24 := by simp; omega
  show (bif _ then _ else _) = _
  rw [bif_decT (by omega), getI_at hi, bind_some', ref08_put_eq _ _ (hs _ (List.getElem_mem hi)) (by rw [List.length_append, bytesN_len]; omega), bind_some', w64_succ (by omega), rowS_take l _ i hi]
 ·show (bif _ then _ else _) = _
  rw [bif_decF (by omega), List.take_length]
  rfl
theorem eqV (v w : ApiValue) : eqApiValue v w = decide (v = w) := by
 cases v; cases w
 simp only [eqApiValue, ApiValue.mk.injEq]
 rw [Bool.eq_iff_iff]
 simp
theorem eqlist_loop {α : Type} [DecidableEq α] (a b : List α) (eq : α → α → Bool) (heq : ∀ x y, eq x y = true ↔ x = y) (hl : a.length = b.length) {B : Int → Option (Int ⊕ (Unit ⊕ Bool))}
  (h : ∀ i (h1 : i < a.length) (h2 : i < b.length), B (i : Int) = some (if eq a[i] b[i] = true then .inl ((i + 1 : Nat) : Int) else .inr (.inr false))) (he : B (a.length : Int) = some (.inr (.inl ()))) :
  bindE (Option.bind (loop B 0) (Sum.elim (fun e => some (Sum.inl e)) (fun e => some (Sum.inr e)))) (fun _ => some true) (fun e => some e) = some (decide (a = b)) := by
 have hd : (∀ i (h1 : i < a.length) (h2 : i < b.length), a[i] = b[i]) ↔ a = b := ⟨fun h => List.ext_getElem hl fun i h1 h2 => h i h1 h2, fun h => by subst h; intros; rfl⟩
 have z : (a.zip b).length = a.length := by simp [hl]
 refine lpE (lq3 (a.zip b) (fun p => !eq p.1 p.2) (.inr false) (.inl ()) (fun i => (i : Int)) (fun i hi => ?_) ?_ rfl) ?_
 ·rw [h i (by omega) (by omega), List.getElem_zip]
  cases eq a[i] b[i] <;> rfl
 ·rw [z]; exact he
 ·by_cases q : (a.zip b).any (fun p => !eq p.1 p.2) = true
  ·rw [if_pos q]
   have : ¬ (∀ i (h1 : i < a.length) (h2 : i < b.length), a[i] = b[i]) := by
    intro k
    rw [List.any_eq_true] at q
    obtain ⟨p, hp, hq⟩ := q
    obtain ⟨i, hi, rfl⟩ := List.mem_iff_getElem.1 hp
    rw [List.getElem_zip] at hq
    have := (heq _ _).2 (k i (by omega) (by omega))
    simp [this] at hq
   rw [decide_eq_false (fun e => this (hd.2 e))]; rfl
  ·rw [if_neg q]
   have : ∀ i (h1 : i < a.length) (h2 : i < b.length), a[i] = b[i] := by
    intro i h1 h2
    rw [List.any_eq_true] at q
    refine (heq _ _).1 ?_
    cases hq : eq a[i] b[i] with
    | true => rfl
    | false =>
     exfalso
     refine q ⟨(a[i], b[i]), ?_, by simp [hq]⟩
     exact List.mem_iff_getElem.2 ⟨i, by omega, by rw [List.getElem_zip]⟩
   rw [decide_eq_true (hd.1 this)]; rfl
theorem slices_Equal_V_eq (a b : List ApiValue) (h : a.length < 4611686018427387904) : slices_Equal_api_Value_api_Value a b = some (decide (a = b)) := by
 unfold slices_Equal_api_Value_api_Value
 rw [nat_ne]
 by_cases hl : a.length = b.length
 rotate_left
 ·rw [show (a.length != b.length) = true by simpa using hl, cond_true, decide_eq_false (fun e => hl (by rw [e]))]
 rw [show (a.length != b.length) = false by simpa using hl, cond_false]
 refine (eqlist_loop a b eqApiValue (fun x y => by rw [eqV]; simp) hl (fun i h1 h2 => ?_) ?_)
 ·show (bif _ then _ else _) = _
  rw [bif_decT (by omega), getI_at h1, bind_some', getI_at h2, bind_some', w64_succ (by omega)]
  cases eqApiValue a[i] b[i] <;> rfl
 ·show (bif _ then _ else _) = _
  rw [bif_decF (by omega)]
theorem raw_Values_eq (a b : List ApiValue) (h : a.length < 4611686018427387904) : raw_Values a b = some (decide (a = b)) := by
 unfold raw_Values
 rw [nat_ne]
 by_cases hl : a.length = b.length
 rotate_left
 ·rw [show (a.length != b.length) = true by simpa using hl, cond_true, decide_eq_false (fun e => hl (by rw [e]))]
 rw [show (a.length != b.length) = false by simpa using hl, cond_false]
 refine (eqlist_loop a b eqApiValue (fun x y => by rw [eqV]; simp) hl (fun i h1 h2 => ?_) ?_)
 ·show (bif _ then _ else _) = _
  rw [bif_decT (by omega), getI_at h1, bind_some', getI_at h2, bind_some', w64_succ (by omega)]
  cases eqApiValue a[i] b[i] <;> rfl
 ·show (bif _ then _ else _) = _
  rw [bif_decF (by omega)]
theorem firstF_none {α W : Type} {f : Nat → α → Option W} : ∀ {l : List α} {i : Nat}, firstF f i l = none ↔ ∀ j (h : j < l.length), f (i + j) (l[j]'h) = none
 | [], i => by simp [firstF]
 | x :: r, i => by
  rw [firstF]
  cases hf : f i x with
  | some w =>
   simp only [reduceCtorEq, false_iff]
   intro h
   have := h 0 (by simp)
   simp [hf] at this
  | none =>
   simp only
   rw [firstF_none (l := r) (i := i + 1)]
   constructor
   ·intro h j hj
    cases j with
    | zero => simpa using hf
    | succ j => have := h j (by simpa using hj); simpa [Nat.add_assoc, Nat.add_comm 1 j] using this
   ·intro h j hj
    have := h (j + 1) (by simpa using hj)
    simpa [Nat.add_assoc, Nat.add_comm 1 j] using this
def OkX (x : ApiIndex) : Prop := x.Name.length < 4611686018427387904 ∧ x.Parts.length < 4611686018427387904 ∧ x.Extra.length < 4611686018427387904
structure OkT (t : ApiTable) : Prop where
 name : t.Name.length < 4611686018427387904
 cols : OkCs t.Cols
 prim : t.Primary.length < 4611686018427387904
 idxs : t.Indexes.length < 4611686018427387904
 idx : ∀ x ∈ t.Indexes, OkX x
def hasS (l : List Int) (x : Int) : Bool := l.any fun y => y == x
theorem ref17_Has_eq (l : List Int) (x : Int) (h : l.length < 4611686018427387904) : ref17_Has l x = some (hasS l x) := by
 unfold ref17_Has
 refine lpE (lq3 l (fun y => y == x) (.inr true) (.inl ()) (fun i => (i : Int)) (fun i hi => ?_) ?_ rfl) ?_
 ·show (bif _ then _ else _) = _
  rw [bif_decT (by omega), getI_at hi, bind_some', w64_succ (by omega)]
  cases l[i] == x <;> rfl
 ·show (bif _ then _ else _) = _
  rw [bif_decF (by omega)]
 ·unfold hasS; cases (l.any fun y => y == x) <;> rfl
def plE (n : Int) (l : List Int) (i : Nat) (c : Int) : Option Unit := if c < 0 ∨ c ≥ n ∨ hasS (l.take i) c = true then some () else none
def placesS (n : Int) (l : List Int) : Bool := (firstF (plE n l) 0 l).isNone
theorem ref17_places_eq (n : Int) (l : List Int) (h : l.length < 4611686018427387904) : ref17_places n l = some (placesS n l) := by
 unfold ref17_places
 refine lpE (lq5 l (fun i c => (plE n l i c).map fun _ => (.inr false : Unit ⊕ Bool)) (.inl ()) (fun i => (i : Int)) (fun i hi => ?_) ?_ rfl) ?_
 ·show (bif _ then _ else _) = _
  rw [bif_decT (by omega), getI_at hi, w64_succ (by omega)]
  simp only [bind_some']
  refine bo (a := decide (l[i] < 0 ∨ l[i] ≥ n ∨ hasS (l.take i) l[i] = true)) ?_ ?_
  ·by_cases h1 : l[i] < 0
   ·rw [bif_decT h1]; simp [h1]
   rw [bif_decF h1]
   by_cases h2 : l[i] ≥ n
   ·rw [bif_decT h2]; simp [h2]
   rw [bif_decF h2, bif_decT (by omega), Int.toNat_natCast, ref17_Has_eq _ _ (by simp; omega), bind_some']
   simp [h1, h2]
  ·unfold plE
   by_cases q : l[i] < 0 ∨ l[i] ≥ n ∨ hasS (l.take i) l[i] = true
   ·rw [bif_decT q, if_pos q]; rfl
   ·rw [bif_decF q, if_neg q]; rfl
 ·show (bif _ then _ else _) = _
  rw [bif_decF (by omega)]
 ·unfold placesS
  have key : ∀ (r : List Int) (i : Nat), firstF (fun i c => (plE n l i c).map fun _ => (.inr false : Unit ⊕ Bool)) i r = (firstF (plE n l) i r).map fun _ => .inr false := by
   intro r
   induction r with
   | nil => intro i; rfl
   | cons x r ih => intro i; rw [firstF, firstF]; cases plE n l i x <;> simp [ih]
  rw [key]
  cases firstF (plE n l) 0 l <;> rfl
theorem placesS_in {n : Int} {l : List Int} (h : placesS n l = true) : ∀ c ∈ l, 0 ≤ c ∧ c < n := by
 unfold placesS at h
 rw [Option.isNone_iff_eq_none, firstF_none] at h
 intro c hc
 obtain ⟨i, hi, rfl⟩ := List.mem_iff_getElem.1 hc
 have := h i hi
 unfold plE at this
 split at this
 ·cases this
 ·rename_i q; rw [not_or, not_or] at q; omega
theorem placesS_nodup {n : Int} {l : List Int} (h : placesS n l = true) : l.Nodup := by
 unfold placesS at h
 rw [Option.isNone_iff_eq_none, firstF_none] at h
 show List.Pairwise (· ≠ ·) l
 rw [List.pairwise_iff_getElem]
 intro i j hi hj hij e
 have := h j hj
 unfold plE at this
 split at this
 ·cases this
 ·rename_i q
  rw [not_or, not_or] at q
  refine q.2.2 ?_
  unfold hasS
  rw [List.any_eq_true]
  refine ⟨l[i], ?_, by simp [e]⟩
  rw [Nat.zero_add]
  exact List.mem_iff_getElem.2 ⟨i, by simp; omega, by simp⟩
theorem map_ts {α β : Type} (f : α → β) (l : List α) {i : Nat} (hi : i < l.length) : (l.take (i + 1)).map f = (l.take i).map f ++ [f l[i]] := by
 rw [List.take_succ_eq_append_getElem hi, List.map_append]; rfl
def upS (l : List Int) : List ApiPart := l.map fun c => ⟨c, false⟩
theorem ref17_Up_eq (l : List Int) (h : l.length ≤ 1048576) : ref17_Up l = some (upS l) := by
 unfold ref17_Up
 refine lpA (w := upS l) (lq1 (fun i => (upS (l.take i), (i : Int))) l.length (fun i hi => ?_) ?_ rfl) rfl
 ·show (bif _ then _ else _) = _
  rw [bif_decT (by omega), getI_at hi, bind_some', bif_decT (by rw [room_val]; simp [upS]; omega), w64_succ (by omega), show upS (l.take (i + 1)) = _ from map_ts _ l hi]
  rfl
 ·show (bif _ then _ else _) = _
  rw [bif_decF (by omega), List.take_length]
theorem schema_up_eq (l : List Int) (h : l.length ≤ 1048576) : schema_up l = some (upS l) := by
 unfold schema_up
 refine lpA (w := upS l) (lq1 (fun i => (upS (l.take i), (i : Int))) l.length (fun i hi => ?_) ?_ rfl) rfl
 ·show (bif _ then _ else _) = _
  rw [bif_decT (by omega), getI_at hi, bind_some', bif_decT (by rw [room_val]; simp [upS]; omega), w64_succ (by omega), show upS (l.take (i + 1)) = _ from map_ts _ l hi]
  rfl
 ·show (bif _ then _ else _) = _
  rw [bif_decF (by omega), List.take_length]
def colsOf (l : List ApiPart) : List Int := l.map (·.Col)
theorem ref17_Cols_eq (l : List ApiPart) (h : l.length ≤ 1048576) : ref17_Cols l = some (colsOf l) := by
 unfold ref17_Cols
 refine lpA (w := colsOf l) (lq1 (fun i => (colsOf (l.take i), (i : Int))) l.length (fun i hi => ?_) ?_ rfl) rfl
 ·show (bif _ then _ else _) = _
  rw [bif_decT (by omega), getI_at hi, bind_some', bif_decT (by rw [room_val]; simp [colsOf]; omega), w64_succ (by omega), show colsOf (l.take (i + 1)) = _ from map_ts _ l hi]
  rfl
 ·show (bif _ then _ else _) = _
  rw [bif_decF (by omega), List.take_length]
def wideS (c : ApiColumn) (each : Int) : Int := if c.Kind = 1 ∨ c.Kind = 2 then 9 else if c.Kind = 3 then 2 else 3 + each * c.Max
theorem colS_ok {c : ApiColumn} (h : colS c = 0) : nameS c.Name = true ∧ 1 ≤ c.Kind ∧ c.Kind ≤ 5 ∧ (if c.Kind = 4 ∨ c.Kind = 5 then 1 ≤ c.Max ∧ c.Max ≤ 64 else c.Max = 0) ∧ fitS c c.Default = 0 := by
 unfold colS at h
 by_cases h1 : nameS c.Name = false
 ·rw [if_pos h1] at h; cases h
 rw [if_neg h1] at h
 by_cases h2 : c.Kind < 1 ∨ c.Kind > 5
 ·rw [if_pos h2] at h; cases h
 rw [if_neg h2] at h
 by_cases h3 : (if c.Kind = 4 ∨ c.Kind = 5 then c.Max < 1 ∨ c.Max > 64 else c.Max ≠ 0)
 ·rw [if_pos h3] at h; cases h
 rw [if_neg h3] at h
 refine ⟨by simpa using h1, by omega, by omega, ?_, h⟩
 by_cases k : c.Kind = 4 ∨ c.Kind = 5
 ·rw [if_pos k] at h3 ⊢; omega
 ·rw [if_neg k] at h3 ⊢; omega
theorem colS_max {c : ApiColumn} (h : colS c = 0) : 0 ≤ c.Max ∧ c.Max ≤ 64 := by
 have := (colS_ok h).2.2.2.1
 split at this <;> omega
theorem ref17_wide_eq (c : ApiColumn) (each : Int) (hc : 0 ≤ c.Max ∧ c.Max ≤ 64) (he : each = 1 ∨ each = 2) : ref17_wide c each = some (wideS c each) := by
 unfold ref17_wide wideS
 refine bo (a := decide (c.Kind = 1 ∨ c.Kind = 2)) ?_ ?_
 ·by_cases k : c.Kind = 1
  ·rw [k]; rfl
  ·rw [beq_eq_false_iff_ne.2 k, cond_false]; congr 1; simp [k, Bool.beq_eq_decide_eq]
 by_cases k : c.Kind = 1 ∨ c.Kind = 2
 ·rw [bif_decT k, if_pos k]
 rw [bif_decF k, if_neg k]
 by_cases k3 : c.Kind = 3
 ·rw [show (c.Kind == 3) = true by simpa using k3, cond_true, if_pos k3]
 rw [show (c.Kind == 3) = false by simpa using k3, cond_false, if_neg k3]
 have hm : 0 ≤ each * c.Max ∧ each * c.Max ≤ 128 := by rcases he with rfl | rfl <;> omega
 generalize each * c.Max = m at hm ⊢
 rw [w64_id (n := m) (by omega) (by omega), w64_id (by omega) (by omega)]
theorem wideS_le {c : ApiColumn} {each : Int} (hc : 0 ≤ c.Max ∧ c.Max ≤ 64) (he : each = 1 ∨ each = 2) : 0 ≤ wideS c each ∧ wideS c each ≤ 131 := by
 unfold wideS
 have hm : 0 ≤ each * c.Max ∧ each * c.Max ≤ 128 := by rcases he with rfl | rfl <;> omega
 repeat' split
 all_goals omega
theorem sum_bound {α : Type} (f : α → Int) : ∀ {l : List α}, (∀ x ∈ l, 0 ≤ f x ∧ f x ≤ 131) → 0 ≤ (l.map f).sum ∧ (l.map f).sum ≤ 131 * l.length
 | [], _ => by simp
 | x :: l, h => by
  have h1 := h x (by simp)
  have h2 := sum_bound f (l := l) (fun y hy => h y (by simp [hy]))
  simp only [List.map_cons, List.sum_cons, List.length_cons]
  omega
theorem sum_take (l : List Int) (i : Nat) (hi : i < l.length) : (l.take (i + 1)).sum = (l.take i).sum + l[i] := by
 rw [List.take_succ_eq_append_getElem hi, List.sum_append]
 simp only [List.sum_cons, List.sum_nil, Int.add_zero]
def rowMaxS (l : List ApiColumn) : Int := 1 + (l.map fun c => wideS c 1).sum
theorem ref17_RowMax_eq (l : List ApiColumn) (h : l.length ≤ 24) (hc : ∀ c ∈ l, 0 ≤ c.Max ∧ c.Max ≤ 64) : ref17_RowMax l = some (rowMaxS l) := by
 unfold ref17_RowMax
 refine lpA (w := rowMaxS l) (lq1 (fun i => (rowMaxS (l.take i), (i : Int))) l.length (fun i hi => ?_) ?_ rfl) rfl
 ·have b := sum_bound (fun c => wideS c 1) (l := l.take i) (fun c h => wideS_le (hc c (List.mem_of_mem_take h)) (.inl rfl))
  have w := wideS_le (each := 1) (hc _ (List.getElem_mem hi)) (.inl rfl)
  have tl : (l.take i).length ≤ 24 := by simp; omega
  show (bif _ then _ else _) = _
  rw [bif_decT (by omega), getI_at hi, bind_some', ref17_wide_eq _ _ (hc _ (List.getElem_mem hi)) (.inl rfl), bind_some', w64_succ (by omega)]
  have e : rowMaxS (l.take (i + 1)) = rowMaxS (l.take i) + wideS l[i] 1 := by
   unfold rowMaxS
   rw [List.map_take, List.map_take, sum_take _ _ (by simpa using hi)]; simp; omega
  rw [e, w64_id (by unfold rowMaxS; omega) (by unfold rowMaxS; omega)]
 ·show (bif _ then _ else _) = _
  rw [bif_decF (by omega), List.take_length]
def colAt (cols : List ApiColumn) (i : Int) : ApiColumn := (cols[i.toNat]?).getD default
theorem colAt_eq {cols : List ApiColumn} {i : Int} (h : 0 ≤ i ∧ i < cols.length) : getI cols i = some (colAt cols i) := by
 unfold getI colAt
 rw [if_pos h.1]
 have hl : i.toNat < cols.length := by omega
 rw [List.getElem?_eq_getElem hl]; rfl
theorem colAt_mem {cols : List ApiColumn} {i : Int} (h : 0 ≤ i ∧ i < cols.length) : colAt cols i ∈ cols := by
 unfold colAt
 have hl : i.toNat < cols.length := by omega
 rw [List.getElem?_eq_getElem hl]; exact List.getElem_mem hl
def keyMaxS (cols : List ApiColumn) (l : List ApiPart) : Int := (l.map fun p => wideS (colAt cols p.Col) 2).sum
theorem ref17_KeyMax_eq (cols : List ApiColumn) (l : List ApiPart) (h : l.length ≤ 1048576) (hp : ∀ p ∈ l, 0 ≤ p.Col ∧ p.Col < cols.length) (hc : ∀ c ∈ cols, 0 ≤ c.Max ∧ c.Max ≤ 64) : ref17_KeyMax cols l = some (keyMaxS cols l) := by
 unfold ref17_KeyMax
 refine lpA (w := keyMaxS cols l) (lq1 (fun i => (keyMaxS cols (l.take i), (i : Int))) l.length (fun i hi => ?_) ?_ rfl) rfl
 ·have b := sum_bound (fun p : ApiPart => wideS (colAt cols p.Col) 2) (l := l.take i) (fun p h => wideS_le (hc _ (colAt_mem (hp p (List.mem_of_mem_take h)))) (.inr rfl))
  have hq := hp _ (List.getElem_mem hi)
  have w := wideS_le (each := 2) (hc _ (colAt_mem hq)) (.inr rfl)
  have tl : (l.take i).length ≤ 1048576 := by simp; omega
  show (bif _ then _ else _) = _
  rw [bif_decT (by omega), getI_at hi, bind_some', colAt_eq hq, bind_some', ref17_wide_eq _ _ (hc _ (colAt_mem hq)) (.inr rfl), bind_some', w64_succ (by omega)]
  have e : keyMaxS cols (l.take (i + 1)) = keyMaxS cols (l.take i) + wideS (colAt cols l[i].Col) 2 := by
   unfold keyMaxS
   rw [List.map_take, List.map_take, sum_take _ _ (by simpa using hi)]; simp
  rw [e, w64_id (by unfold keyMaxS; omega) (by unfold keyMaxS; omega)]
 ·show (bif _ then _ else _) = _
  rw [bif_decF (by omega), List.take_length]
def indexS (t : ApiTable) (x : ApiIndex) : Int :=
 if x.Parts.length < 1 ∨ x.Parts.length > 4 ∨ placesS t.Cols.length (colsOf x.Parts) = false ∨ placesS t.Cols.length x.Extra = false then 1
 else if (x.Extra.any fun c => hasS (colsOf x.Parts) c || hasS t.Primary c) = true then 1
 else if keyMaxS t.Cols x.Parts > 128 then 7 else 0
theorem parts_in {n : Int} {l : List ApiPart} (h : placesS n (colsOf l) = true) : ∀ p ∈ l, 0 ≤ p.Col ∧ p.Col < n := fun p hp => placesS_in h p.Col (List.mem_map.2 ⟨p, hp, rfl⟩)
theorem ref17_index_eq (t : ApiTable) (x : ApiIndex) (hc : ∀ c ∈ t.Cols, 0 ≤ c.Max ∧ c.Max ≤ 64) (hx : OkX x) (hp : t.Primary.length < 4611686018427387904) : ref17_index t x = some (indexS t x) := by
 unfold ref17_index indexS
 obtain ⟨o1, o2, o3⟩ := hx
 refine bo (a := decide (x.Parts.length < 1 ∨ x.Parts.length > 4 ∨ placesS t.Cols.length (colsOf x.Parts) = false ∨ placesS t.Cols.length x.Extra = false)) ?_ ?_
 ·by_cases h1 : x.Parts.length < 1
  ·rw [bif_decT (by omega), decide_eq_true (.inl h1)]
  rw [bif_decF (by omega)]
  by_cases h2 : x.Parts.length > 4
  ·rw [bif_decT (by omega), decide_eq_true (.inr (.inl h2))]
  rw [bif_decF (by omega), ref17_Cols_eq _ (by omega), bind_some', ref17_places_eq _ _ (by simp [colsOf]; omega), bind_some']
  cases p1 : placesS t.Cols.length (colsOf x.Parts) with
  | false => simp
  | true =>
   rw [Bool.not_true, cond_false, ref17_places_eq _ _ o3, bind_some']
   cases p2 : placesS t.Cols.length x.Extra <;> simp [h1, h2]
 by_cases q : x.Parts.length < 1 ∨ x.Parts.length > 4 ∨ placesS t.Cols.length (colsOf x.Parts) = false ∨ placesS t.Cols.length x.Extra = false
 ·rw [bif_decT q, if_pos q]
 rw [bif_decF q, if_neg q]
 simp only [not_or, Bool.not_eq_false] at q
 refine lpE (lq3 x.Extra (fun c => hasS (colsOf x.Parts) c || hasS t.Primary c) (.inr 1) (.inl ()) (fun i => (i : Int)) (fun i hi => ?_) ?_ rfl) ?_
 ·show (bif _ then _ else _) = _
  rw [bif_decT (by omega), getI_at hi, w64_succ (by omega), ref17_Cols_eq _ (by omega)]
  simp only [bind_some']
  rw [ref17_Has_eq _ _ (by simp [colsOf]; omega), bind_some', ref17_Has_eq _ _ hp]
  cases hasS (colsOf x.Parts) x.Extra[i] <;> cases hasS t.Primary x.Extra[i] <;> rfl
 ·show (bif _ then _ else _) = _
  rw [bif_decF (by omega)]
 ·cases (x.Extra.any fun c => hasS (colsOf x.Parts) c || hasS t.Primary c) with
  | true => rfl
  | false =>
   simp only [Bool.false_eq_true, if_false, Sum.elim_inl]
   rw [ref17_KeyMax_eq _ _ (by omega) (parts_in q.2.2.1) hc, bind_some']
   by_cases k : keyMaxS t.Cols x.Parts > 128
   ·rw [bif_decT k, if_pos k]
   ·rw [bif_decF k, if_neg k]
def colE (l : List ApiColumn) (i : Nat) (c : ApiColumn) : Option Int := if colS c ≠ 0 then some (colS c) else if ((l.take i).any fun d => d.Name == c.Name) = true then some 6 else none
def idxE (t : ApiTable) (i : Nat) (x : ApiIndex) : Option Int :=
 if nameS x.Name = false then some 1 else if ((t.Indexes.take i).any fun y => y.Name == x.Name) = true then some 6 else if indexS t x ≠ 0 then some (indexS t x) else none
def chkS (t : ApiTable) : Int :=
 if nameS t.Name = false then 1 else if t.Cols.length < 1 ∨ t.Cols.length > 24 then 7 else match firstF (colE t.Cols) 0 t.Cols with
 | some e => e
 | none => if t.Primary.length < 1 ∨ t.Primary.length > 4 ∨ placesS t.Cols.length t.Primary = false then 1
  else if (t.Primary.any fun c => (colAt t.Cols c).Nulls) = true then 1
  else if rowMaxS t.Cols > 512 ∨ keyMaxS t.Cols (upS t.Primary) > 128 ∨ t.Indexes.length > 6 then 7
  else match firstF (idxE t) 0 t.Indexes with
   | some e => e
   | none => 0
theorem up_in {n : Int} {l : List Int} (h : placesS n l = true) : ∀ p ∈ upS l, 0 ≤ p.Col ∧ p.Col < n := by
 intro p hp
 obtain ⟨c, hc, rfl⟩ := List.mem_map.1 hp
 exact placesS_in h c hc
theorem firstF_map {α W V : Type} (f : Nat → α → Option W) (g : W → V) : ∀ (l : List α) (i : Nat), firstF (fun i x => (f i x).map g) i l = (firstF f i l).map g
 | [], i => rfl
 | x :: r, i => by rw [firstF, firstF]; cases f i x <;> simp [firstF_map f g r]
theorem cols_of_none {l : List ApiColumn} (h : firstF (colE l) 0 l = none) : ∀ c ∈ l, colS c = 0 := by
 rw [firstF_none] at h
 intro c hc
 obtain ⟨i, hi, rfl⟩ := List.mem_iff_getElem.1 hc
 have := h i hi
 unfold colE at this
 by_cases q : colS l[i] = 0
 ·exact q
 ·rw [if_pos q] at this; cases this
theorem ref17_Check_eq (t : ApiTable) (h : OkT t) : ref17_Check t = some (chkS t) := by
  unfold ref17_Check chkS
  rw [ref06_Name_eq _ h.name, bind_some']
  cases nameS t.Name with
  | false => rfl
  | true =>
  rw [Bool.not_true, cond_false, if_neg (by simp)]
  refine bo (a := decide (t.Cols.length < 1 ∨ t.Cols.length > 24)) ?_ ?_
  · by_cases k : t.Cols.length < 1
    · rw [bif_decT (by omega)]; simp [k]
    · rw [bif_decF (by omega)]; congr 1; exact decI (by omega)
  by_cases q : t.Cols.length < 1 ∨ t.Cols.length > 24
  · rw [bif_decT q, if_pos q]
  rw [bif_decF q, if_neg q]
  refine lpE (lq5 t.Cols (fun i c => (colE t.Cols i c).map fun e => (.inr e : Unit ⊕ Int)) (.inl ()) (fun i => (i : Int)) (fun i hi => ?_) ?_ rfl) ?_
  · have hm := List.getElem_mem hi
    show (bif _ then _ else _) = _
    rw [bif_decT (by omega), getI_at hi, w64_succ (by omega)]
    unfold colE
    refine (?_ : bindE _ _ _ = _)
    simp only [bind_some']
    rw [ref06_Column_eq _ (h.cols.2 _ hm).1 (h.cols.2 _ hm).2, bind_some']
    by_cases k : colS t.Cols[i] = 0
    rotate_left
    · rw [show (colS t.Cols[i] != 0) = true by simpa using k, cond_true, bindE_r, if_pos k]; rfl
    rw [show (colS t.Cols[i] != 0) = false by simpa using k, cond_false, if_neg (by simpa using k)]
    have tl : (t.Cols.take i).length = i := by simp; omega
    have inner := lq3 (y0 := (0 : Int)) (B := (fun y590 : Int =>
                      bif (decide (y590 < (i : Int))) then
                        Option.bind (getI t.Cols y590) fun v596 =>
                        bif (v596.Name == t.Cols[i].Name) then
                          some (Sum.inr (Sum.inr (6 : Int)))
                        else
                          some (Sum.inl (w64 (y590 + (1 : Int))))
                      else
                        some (Sum.inr (Sum.inl ())))) (t.Cols.take i) (fun d => d.Name == t.Cols[i].Name) (.inr 6) (.inl ()) (fun j => (j : Int)) (fun j hj => by
          show (bif _ then _ else _) = _
          rw [bif_decT (by omega), getI_at (by omega), bind_some', w64_succ (by omega), List.getElem_take]
          cases t.Cols[j].Name == t.Cols[i].Name <;> rfl) (by
          show (bif _ then _ else _) = _
          rw [bif_decF (by omega)]) rfl
    cases ha : ((t.Cols.take i).any fun d => d.Name == t.Cols[i].Name) with
    | true =>
      rw [ha] at inner
      rw [inner]; rfl
    | false =>
      rw [ha] at inner
      rw [inner]; rfl
  · show (bif _ then _ else _) = _
    rw [bif_decF (by omega)]
  rw [firstF_map]
  cases hc : firstF (colE t.Cols) 0 t.Cols with
  | some e => rfl
  | none =>
  have hcol := cols_of_none hc
  have hmax : ∀ c ∈ t.Cols, 0 ≤ c.Max ∧ c.Max ≤ 64 := fun c hm => colS_max (hcol c hm)
  simp only [Option.map_none, Option.getD_none, Sum.elim_inl]
  refine bo (a := decide (t.Primary.length < 1 ∨ t.Primary.length > 4 ∨ placesS t.Cols.length t.Primary = false)) ?_ ?_
  · by_cases k : t.Primary.length < 1
    · rw [bif_decT (by omega)]; simp [k]
    rw [bif_decF (by omega)]
    by_cases k2 : t.Primary.length > 4
    · rw [bif_decT (by omega)]; simp [k2]
    rw [bif_decF (by omega), ref17_places_eq _ _ h.prim, bind_some']
    cases placesS t.Cols.length t.Primary <;> simp [k, k2]
  by_cases q2 : t.Primary.length < 1 ∨ t.Primary.length > 4 ∨ placesS t.Cols.length t.Primary = false
  · rw [bif_decT q2, if_pos q2]
  rw [bif_decF q2, if_neg q2]
  simp only [not_or, Bool.not_eq_false] at q2
  refine lpE (lq3 t.Primary (fun c => (colAt t.Cols c).Nulls) (.inr 1) (.inl ()) (fun i => (i : Int)) (fun i hi => ?_) ?_ rfl) ?_
  · show (bif _ then _ else _) = _
    rw [bif_decT (by omega), getI_at hi, bind_some', colAt_eq (placesS_in q2.2.2 _ (List.getElem_mem hi)), bind_some', w64_succ (by omega)]
    cases (colAt t.Cols t.Primary[i]).Nulls <;> rfl
  · show (bif _ then _ else _) = _
    rw [bif_decF (by omega)]
  cases (t.Primary.any fun c => (colAt t.Cols c).Nulls) with
  | true => rfl
  | false =>
  simp only [Bool.false_eq_true, if_false, Sum.elim_inl]
  refine bo (a := decide (rowMaxS t.Cols > 512 ∨ keyMaxS t.Cols (upS t.Primary) > 128 ∨ t.Indexes.length > 6)) ?_ ?_
  · rw [ref17_RowMax_eq _ (by omega) hmax, bind_some']
    by_cases k : rowMaxS t.Cols > 512
    · rw [bif_decT k]; simp [k]
    rw [bif_decF k, ref17_Up_eq _ (by omega), bind_some', ref17_KeyMax_eq _ _ (by simp [upS]; omega) (up_in q2.2.2) hmax, bind_some']
    by_cases k2 : keyMaxS t.Cols (upS t.Primary) > 128
    · rw [bif_decT k2]; simp [k2]
    rw [bif_decF k2]; congr 1; simp only [k, k2, false_or]; exact decI (by omega)
  by_cases q3 : rowMaxS t.Cols > 512 ∨ keyMaxS t.Cols (upS t.Primary) > 128 ∨ t.Indexes.length > 6
  · rw [bif_decT q3, if_pos q3]
  rw [bif_decF q3, if_neg q3]
  refine lpE (lq5 t.Indexes (fun i x => (idxE t i x).map fun e => (.inr e : Unit ⊕ Int)) (.inl ()) (fun i => (i : Int)) (fun i hi => ?_) ?_ rfl) ?_
  · have hm := List.getElem_mem hi
    show (bif _ then _ else _) = _
    rw [bif_decT (by omega), getI_at hi, w64_succ (by omega)]
    unfold idxE
    refine (?_ : bindE _ _ _ = _)
    simp only [bind_some']
    rw [ref06_Name_eq _ (h.idx _ hm).1, bind_some']
    cases hn : nameS t.Indexes[i].Name with
    | false => rfl
    | true =>
    rw [Bool.not_true, cond_false, if_neg (by simp)]
    have tl : (t.Indexes.take i).length = i := by simp; omega
    have inner := lq3 (y0 := (0 : Int)) (B := (fun y874 : Int =>
                                    bif (decide (y874 < (i : Int))) then
                                      Option.bind (getI t.Indexes y874) fun v879 =>
                                      bif (v879.Name == t.Indexes[i].Name) then
                                        some (Sum.inr (Sum.inr (6 : Int)))
                                      else
                                        some (Sum.inl (w64 (y874 + (1 : Int))))
                                    else
                                      some (Sum.inr (Sum.inl ())))) (t.Indexes.take i) (fun d => d.Name == t.Indexes[i].Name) (.inr 6) (.inl ()) (fun j => (j : Int)) (fun j hj => by
          show (bif _ then _ else _) = _
          rw [bif_decT (by omega), getI_at (by omega), bind_some', w64_succ (by omega), List.getElem_take]
          cases t.Indexes[j].Name == t.Indexes[i].Name <;> rfl) (by
          show (bif _ then _ else _) = _
          rw [bif_decF (by omega)]) rfl
    rw [inner]
    cases ha : ((t.Indexes.take i).any fun d => d.Name == t.Indexes[i].Name) with
    | true => rfl
    | false =>
      simp only [Bool.false_eq_true, if_false]
      rw [ref17_index_eq t _ hmax (h.idx _ hm) h.prim]
      by_cases k : indexS t t.Indexes[i] = 0
      · rw [k]; rfl
      · rw [if_pos k]
        refine beE (x := indexS t t.Indexes[i]) ?_ rfl
        refine beY (y := ()) rfl ?_
        rw [bind_some', show (indexS t t.Indexes[i] != 0) = true by simpa using k]; rfl
  · show (bif _ then _ else _) = _
    rw [bif_decF (by omega)]
  rw [firstF_map]
  cases firstF (idxE t) 0 t.Indexes <;> rfl
structure Right (t : ApiTable) : Prop where
 len : 1 ≤ t.Cols.length ∧ t.Cols.length ≤ 24
 col : ∀ c ∈ t.Cols, colS c = 0
 pri : 1 ≤ t.Primary.length ∧ t.Primary.length ≤ 4
 pla : placesS t.Cols.length t.Primary = true
 row : rowMaxS t.Cols ≤ 512
 key : keyMaxS t.Cols (upS t.Primary) ≤ 128
 ixs : t.Indexes.length ≤ 6
 idx : ∀ x ∈ t.Indexes, indexS t x = 0
theorem Right.of {t : ApiTable} (h : chkS t = 0) : Right t := by
 unfold chkS at h
 by_cases h1 : nameS t.Name = false
 ·rw [if_pos h1] at h; cases h
 rw [if_neg h1] at h
 by_cases h2 : t.Cols.length < 1 ∨ t.Cols.length > 24
 ·rw [if_pos h2] at h; cases h
 rw [if_neg h2] at h
 cases h3 : firstF (colE t.Cols) 0 t.Cols with
 | some e =>
  rw [h3] at h
  exfalso
  have : ∀ (l : List ApiColumn) (i : Nat) (e : Int), firstF (colE t.Cols) i l = some e → e ≠ 0 := by
   intro l
   induction l with
   | nil => intro i e h; cases h
   | cons x r ih =>
    intro i e h
    rw [firstF] at h
    cases hx : colE t.Cols i x with
    | none => rw [hx] at h; exact ih _ _ h
    | some e' =>
     rw [hx] at h
     cases h
     unfold colE at hx
     by_cases q : colS x = 0
     ·rw [if_neg (by simpa using q)] at hx
      by_cases q2 : ((t.Cols.take i).any fun d => d.Name == x.Name) = true
      ·rw [if_pos q2] at hx; cases hx; decide
      ·rw [if_neg q2] at hx; cases hx
     ·rw [if_pos q] at hx; cases hx; exact q
  exact this _ _ _ h3 h
 | none =>
 rw [h3] at h
 simp only at h
 by_cases h4 : t.Primary.length < 1 ∨ t.Primary.length > 4 ∨ placesS t.Cols.length t.Primary = false
 ·rw [if_pos h4] at h; cases h
 rw [if_neg h4] at h
 by_cases h5 : (t.Primary.any fun c => (colAt t.Cols c).Nulls) = true
 ·rw [if_pos h5] at h; cases h
 rw [if_neg h5] at h
 by_cases h6 : rowMaxS t.Cols > 512 ∨ keyMaxS t.Cols (upS t.Primary) > 128 ∨ t.Indexes.length > 6
 ·rw [if_pos h6] at h; cases h
 rw [if_neg h6] at h
 simp only [not_or, Bool.not_eq_false] at h2 h4 h6
 refine ⟨by omega, cols_of_none h3, by omega, h4.2.2, by omega, by omega, by omega, fun x hx => ?_⟩
 obtain ⟨i, hi, rfl⟩ := List.mem_iff_getElem.1 hx
 cases h7 : firstF (idxE t) 0 t.Indexes with
 | none =>
  rw [firstF_none] at h7
  have := h7 i hi
  unfold idxE at this
  by_cases q : nameS t.Indexes[i].Name = false
  ·rw [if_pos q] at this; cases this
  rw [if_neg q] at this
  by_cases q2 : ((t.Indexes.take (0 + i)).any fun y => y.Name == t.Indexes[i].Name) = true
  ·rw [if_pos q2] at this; cases this
  rw [if_neg q2] at this
  by_cases q3 : indexS t t.Indexes[i] = 0
  ·exact q3
  ·rw [if_pos q3] at this; cases this
 | some e =>
  rw [h7] at h
  exfalso
  have : ∀ (l : List ApiIndex) (i : Nat) (e : Int), firstF (idxE t) i l = some e → e ≠ 0 := by
   intro l
   induction l with
   | nil => intro i e h; cases h
   | cons x r ih =>
    intro i e h
    rw [firstF] at h
    cases hx : idxE t i x with
    | none => rw [hx] at h; exact ih _ _ h
    | some e' =>
     rw [hx] at h
     cases h
     unfold idxE at hx
     by_cases q : nameS x.Name = false
     ·rw [if_pos q] at hx; cases hx; decide
     rw [if_neg q] at hx
     by_cases q2 : ((t.Indexes.take i).any fun y => y.Name == x.Name) = true
     ·rw [if_pos q2] at hx; cases hx; decide
     rw [if_neg q2] at hx
     by_cases q3 : indexS t x = 0
     ·rw [if_neg (by simpa using q3)] at hx; cases hx
     ·rw [if_pos q3] at hx; cases hx; exact q3
  exact this _ _ _ h7 h
structure RightX (t : ApiTable) (x : ApiIndex) : Prop where
 par : 1 ≤ x.Parts.length ∧ x.Parts.length ≤ 4
 pla : placesS t.Cols.length (colsOf x.Parts) = true
 ext : placesS t.Cols.length x.Extra = true
 key : keyMaxS t.Cols x.Parts ≤ 128
theorem RightX.of {t : ApiTable} {x : ApiIndex} (h : indexS t x = 0) : RightX t x := by
 unfold indexS at h
 by_cases h1 : x.Parts.length < 1 ∨ x.Parts.length > 4 ∨ placesS t.Cols.length (colsOf x.Parts) = false ∨ placesS t.Cols.length x.Extra = false
 ·rw [if_pos h1] at h; cases h
 rw [if_neg h1] at h
 by_cases h2 : (x.Extra.any fun c => hasS (colsOf x.Parts) c || hasS t.Primary c) = true
 ·rw [if_pos h2] at h; cases h
 rw [if_neg h2] at h
 by_cases h3 : keyMaxS t.Cols x.Parts > 128
 ·rw [if_pos h3] at h; cases h
 simp only [not_or, Bool.not_eq_false] at h1
 exact ⟨by omega, h1.2.2.1, h1.2.2.2, by omega⟩
theorem nd_len : ∀ (n : Nat) (l : List Nat), l.Nodup → (∀ x ∈ l, x < n) → l.length ≤ n
 | 0, [], _, _ => by simp
 | 0, x :: l, _, h => absurd (h x (by simp)) (by omega)
 | n + 1, l, hd, h => by
  have h1 := nd_len n (l.erase n) (hd.erase n) (fun x hx => by
   have := (List.Nodup.mem_erase_iff hd).1 hx
   have := h x this.2
   omega)
  have := List.length_erase (a := n) (l := l)
  split at this <;> omega
theorem nodup_len {n : Nat} {l : List Int} (h : placesS n l = true) : l.length ≤ n := by
 have h1 := placesS_in h
 have h2 := placesS_nodup h
 have h3 : (l.map Int.toNat).Nodup := by
  show List.Pairwise (· ≠ ·) _
  rw [List.pairwise_map]
  refine List.Pairwise.imp_of_mem ?_ h2
  intro a b ha hb hab e
  have := h1 a ha; have := h1 b hb
  omega
 have h4 : ∀ x ∈ l.map Int.toNat, x < n := by
  intro x hx
  obtain ⟨c, hc, rfl⟩ := List.mem_map.1 hx
  have := h1 c hc; omega
 have := nd_len n _ h3 h4
 simpa using this
theorem fitS_ok {c : ApiColumn} {v : ApiValue} (h : fitS c v = 0) : val v = true ∧ (v.Kind = 0 ∨ v.Kind = c.Kind) ∧ ((v.Kind = 4 ∨ v.Kind = 5) → (v.S.length : Int) ≤ c.Max) := by
 unfold fitS at h
 by_cases h1 : val v = false
 ·rw [if_pos h1] at h; cases h
 rw [if_neg h1] at h
 have hv : val v = true := by simpa using h1
 by_cases h2 : v.Kind = 0
 ·exact ⟨hv, .inl h2, fun k => by omega⟩
 rw [if_neg h2] at h
 by_cases h3 : v.Kind ≠ c.Kind
 ·rw [if_pos h3] at h; cases h
 rw [if_neg h3] at h
 by_cases h4 : (v.Kind = 4 ∨ v.Kind = 5) ∧ (v.S.length : Int) > c.Max
 ·rw [if_pos h4] at h; cases h
 exact ⟨hv, .inr (by simpa using h3), fun k => by
  rcases Int.lt_or_le c.Max v.S.length with q | q
  ·exact absurd ⟨k, q⟩ h4
  ·exact q⟩
theorem valKind {v : ApiValue} (h : val v = true) : 0 ≤ v.Kind ∧ v.Kind ≤ 5 := by
 unfold val at h
 simp only [Bool.or_eq_true, Bool.and_eq_true, beq_iff_eq, decide_eq_true_eq] at h
 omega
structure Fit (cols : List ApiColumn) (l : List ApiValue) : Prop where
 rc : colsS cols = true
 len : l.length = cols.length
 fit : ∀ i (h1 : i < cols.length) (h2 : i < l.length), fitS cols[i] l[i] = 0
theorem Fit.of {cols : List ApiColumn} {l : List ApiValue} (h : fitsS cols l = 0) : Fit cols l := by
 unfold fitsS at h
 by_cases q : colsS cols = false ∨ l.length ≠ cols.length
 ·rw [if_pos q] at h; cases h
 rw [if_neg q] at h
 simp only [not_or, Bool.not_eq_false, ne_eq, Decidable.not_not] at q
 refine ⟨q.1, q.2, fun i h1 h2 => ?_⟩
 have hn : (cols.zip l).findSome? fitE = none := by
  cases hf : (cols.zip l).findSome? fitE with
  | none => rfl
  | some e =>
   rw [hf] at h
   exfalso
   obtain ⟨p, _, hp⟩ := List.exists_of_findSome?_eq_some hf
   unfold fitE at hp
   by_cases k : fitS p.1 p.2 = 0
   ·rw [if_pos k] at hp; cases hp
   ·rw [if_neg k] at hp; cases hp; exact k h
 rw [List.findSome?_eq_none_iff] at hn
 have := hn (cols[i], l[i]) (List.mem_iff_getElem.2 ⟨i, by simp; omega, by rw [List.getElem_zip]⟩)
 unfold fitE at this
 by_cases k : fitS cols[i] l[i] = 0
 ·exact k
 ·rw [if_neg k] at this; cases this
theorem Fit.to {cols : List ApiColumn} {l : List ApiValue} (h : Fit cols l) : fitsS cols l = 0 := by
 unfold fitsS
 rw [if_neg (by rw [h.rc, h.len]; simp)]
 have hn : (cols.zip l).findSome? fitE = none := by
  rw [List.findSome?_eq_none_iff]
  intro p hp
  obtain ⟨i, hi, rfl⟩ := List.mem_iff_getElem.1 hp
  have hi' : i < cols.length ∧ i < l.length := by have := hi; simp at this; omega
  rw [List.getElem_zip]
  unfold fitE
  rw [if_pos (h.fit i hi'.1 hi'.2)]
 rw [hn]; rfl
theorem Fit.num {cols : List ApiColumn} {l : List ApiValue} (h : Fit cols l) : 1 ≤ cols.length ∧ cols.length ≤ 24 ∧ ∀ c ∈ cols, colS c = 0 := by
 have := h.rc
 unfold colsS at this
 simp only [Bool.and_eq_true, decide_eq_true_eq, List.all_eq_true, beq_iff_eq] at this
 exact ⟨this.1.1, this.1.2, this.2⟩
theorem Fit.val {cols : List ApiColumn} {l : List ApiValue} (h : Fit cols l) : ∀ v ∈ l, val v = true := by
 intro v hv
 obtain ⟨i, hi, rfl⟩ := List.mem_iff_getElem.1 hv
 exact (fitS_ok (h.fit i (by rw [← h.len]; exact hi) hi)).1
theorem Fit.short {cols : List ApiColumn} {l : List ApiValue} (h : Fit cols l) : ∀ v ∈ l, v.S.length ≤ 64 := fun v hv => val_short (h.val v hv)
def vAt (l : List ApiValue) (i : Int) : ApiValue := (l[i.toNat]?).getD default
theorem vAt_eq {l : List ApiValue} {i : Int} (h : 0 ≤ i ∧ i < l.length) : getI l i = some (vAt l i) := by
 unfold getI vAt
 rw [if_pos h.1]
 have hl : i.toNat < l.length := by omega
 rw [List.getElem?_eq_getElem hl]; rfl
theorem vAt_mem {l : List ApiValue} {i : Int} (h : 0 ≤ i ∧ i < l.length) : vAt l i ∈ l := by
 unfold vAt
 have hl : i.toNat < l.length := by omega
 rw [List.getElem?_eq_getElem hl]; exact List.getElem_mem hl
theorem Fit.at {cols : List ApiColumn} {l : List ApiValue} (h : Fit cols l) {i : Int} (hi : 0 ≤ i ∧ i < cols.length) : fitS (colAt cols i) (vAt l i) = 0 := by
 unfold colAt vAt
 have h1 : i.toNat < cols.length := by omega
 have h2 : i.toNat < l.length := by rw [h.len]; exact h1
 rw [List.getElem?_eq_getElem h1, List.getElem?_eq_getElem h2]
 exact h.fit _ h1 h2
def partV (l : List ApiValue) (ps : List ApiPart) : List ApiValue := ps.map fun p => vAt l p.Col
def downs (ps : List ApiPart) : List Bool := ps.map (·.Down)
def nullS (l : List ApiValue) (ps : List ApiPart) : Bool := ps.any fun p => (vAt l p.Col).Kind == 0
def keyS (l : List ApiValue) (ps : List ApiPart) : List UInt8 := encL (partV l ps) (downs ps)
theorem enc_wide {c : ApiColumn} {v : ApiValue} (hc : colS c = 0) (h : fitS c v = 0) : ((enc v).length : Int) ≤ wideS c 2 ∧ ((putS v).length : Int) ≤ wideS c 1 := by
 obtain ⟨h1, h2, h3⟩ := fitS_ok h
 obtain ⟨_, k1, k2, km, _⟩ := colS_ok hc
 have he := esc_len v.S
 have hk := valKind h1
 have hm0 := colS_max hc
 rcases h2 with h0 | hkc
 ·have e1 : enc v = [0] := by unfold enc body; simp [h0]
  have e2 : putS v = [1] := by unfold putS; simp [h0]
  rw [e1, e2]
  unfold wideS
  simp only [List.length_cons, List.length_nil]
  by_cases q : c.Kind = 1 ∨ c.Kind = 2
  ·rw [if_pos q, if_pos q]; omega
  rw [if_neg q, if_neg q]
  by_cases q3 : c.Kind = 3
  ·rw [if_pos q3, if_pos q3]; omega
  ·rw [if_neg q3, if_neg q3]; omega
 ·have wide : ∀ each, wideS c each = if v.Kind = 1 ∨ v.Kind = 2 then 9 else if v.Kind = 3 then 2 else 3 + each * c.Max := by intro each; unfold wideS; rw [hkc]
  rw [wide, wide]
  by_cases q1 : v.Kind = 1
  ·simp [enc, body, putS, q1, bytesN_len]
  by_cases q2 : v.Kind = 2
  ·simp [enc, body, putS, q2, bytesN_len]
  by_cases q3 : v.Kind = 3
  ·simp [enc, body, putS, q3, bytesN_len]
  have q4 : v.Kind = 4 ∨ v.Kind = 5 := by omega
  have hm := h3 q4
  have e1 : enc v = 1 :: (esc v.S ++ [0, 0]) := by unfold enc body; rcases q4 with k | k <;> simp [k]
  have e2 : putS v = 0 :: (bytesN (u64i v.S.length) 2 ++ v.S) := by unfold putS; rcases q4 with k | k <;> simp [k]
  rw [e1, e2, if_neg (show ¬ (v.Kind = 1 ∨ v.Kind = 2) by omega), if_neg q3, if_neg (show ¬ (v.Kind = 1 ∨ v.Kind = 2) by omega), if_neg q3]
  simp only [List.length_cons, List.length_append, bytesN_len, List.length_nil]
  omega
theorem keyS_len {cols : List ApiColumn} {l : List ApiValue} (h : Fit cols l) : ∀ {ps : List ApiPart}, (∀ p ∈ ps, 0 ≤ p.Col ∧ p.Col < cols.length) → ((keyS l ps).length : Int) ≤ keyMaxS cols ps
 | [], _ => by simp [keyS, partV, downs, encL, keyMaxS]
 | p :: ps, hp => by
  have h1 := keyS_len h (ps := ps) (fun q hq => hp q (by simp [hq]))
  have hq := hp p (by simp)
  have h2 := (enc_wide (h.num.2.2 _ (colAt_mem hq)) (h.at hq)).1
  unfold keyS partV downs keyMaxS at h1 ⊢
  simp only [List.map_cons, encL, List.sum_cons, List.length_append, turn_len]
  omega
theorem nobad {cols : List ApiColumn} {l : List ApiValue} (h : Fit cols l) {ps : List ApiPart} (hp : ∀ p ∈ ps, 0 ≤ p.Col ∧ p.Col < cols.length) : (partV l ps).any bad = false := by
 rw [List.any_eq_false]
 intro v hv
 obtain ⟨p, hm, rfl⟩ := List.mem_map.1 hv
 have := h.val _ (vAt_mem (l := l) (by have := hp p hm; rw [h.len]; exact this))
 simp [bad, this]
theorem nullS_take (l : List ApiValue) (ps : List ApiPart) (i : Nat) (hi : i < ps.length) : nullS l (ps.take (i + 1)) = (nullS l (ps.take i) || (vAt l ps[i].Col).Kind == 0) := by
 unfold nullS
 rw [List.take_succ_eq_append_getElem hi, List.any_append]; simp
theorem schema_keyed_eq (t : ApiTable) (ps : List ApiPart) (l : List ApiValue) (hc : OkCs t.Cols) (hv : OkVs l) (hn : ps.length ≤ 1048576) (hp : ∀ p ∈ ps, 0 ≤ p.Col ∧ p.Col < t.Cols.length) (hk : keyMaxS t.Cols ps ≤ 256) :
  schema_keyed t ps l = some (if fitsS t.Cols l ≠ 0 then ([], false, fitsS t.Cols l) else (keyS l ps, nullS l ps, 0)) := by
 unfold schema_keyed
 rw [row_Fits_eq _ _ hc hv, bind_some']
 by_cases q : fitsS t.Cols l = 0
 rotate_left
 ·rw [show (fitsS t.Cols l != 0) = true by simpa using q, cond_true, if_pos q]
 rw [show (fitsS t.Cols l != 0) = false by simpa using q, cond_false, if_neg (by simpa using q)]
 have hf := Fit.of q
 refine lpA (w := (partV l ps, downs ps, nullS l ps)) (lq1 (fun i => (partV l (ps.take i), downs (ps.take i), nullS l (ps.take i), (i : Int))) ps.length (fun i hi => ?_) ?_ rfl) ?_
 ·have hq := hp _ (List.getElem_mem hi)
  have hq' : 0 ≤ ps[i].Col ∧ ps[i].Col < l.length := by rw [hf.len]; exact hq
  show (bif _ then _ else _) = _
  rw [bif_decT (by omega), getI_at hi, bind_some', vAt_eq hq', bind_some', bif_decT (by rw [room_val]; simp [partV]; omega), bif_decT (by rw [room_val]; simp [downs]; omega), w64_succ (by omega), nullS_take l ps i hi,
   show partV l (ps.take (i + 1)) = _ from map_ts _ ps hi, show downs (ps.take (i + 1)) = _ from map_ts _ ps hi]
  cases nullS l (ps.take i) <;> rfl
 ·show (bif _ then _ else _) = _
  rw [bif_decF (by omega), List.take_length]
 ·have hb := nobad hf hp
  have hl := keyS_len hf hp
  have sm : Sm (partV l ps) := ⟨by simp [partV]; omega, fun v hv => by
   obtain ⟨p, hm, rfl⟩ := List.mem_map.1 hv
   have := hf.short _ (vAt_mem (l := l) (by have := hp p hm; rw [hf.len]; exact this))
   omega⟩
  show Option.bind (key_Encode (partV l ps) (downs ps)) _ = _
  rw [key_Encode_eq _ _ sm]
  unfold encS
  rw [if_pos (by simp [partV, downs]), hb, if_neg (by simp), if_neg (by unfold keyS at hl; omega)]
  rfl
theorem schema_Primary_eq (t : ApiTable) (l : List ApiValue) (hc : OkCs t.Cols) (hv : OkVs l) (r : Right t) : schema_Primary t l = some (if fitsS t.Cols l ≠ 0 then ([], fitsS t.Cols l) else (keyS l (upS t.Primary), 0)) := by
 unfold schema_Primary
 rw [schema_up_eq _ (by have := r.pri; omega), bind_some', schema_keyed_eq t _ l hc hv (by have := r.pri; simp [upS]; omega) (up_in r.pla) (by have := r.key; omega), bind_some']
 by_cases q : fitsS t.Cols l = 0
 ·rw [if_neg (by simpa using q), if_neg (by simpa using q)]
 ·rw [if_pos q, if_pos q]
theorem schema_Front_eq (t : ApiTable) (x : ApiIndex) (l : List ApiValue) (hc : OkCs t.Cols) (hv : OkVs l) (r : RightX t x) : schema_Front t x l = some (if fitsS t.Cols l ≠ 0 then ([], false, fitsS t.Cols l) else (keyS l x.Parts, nullS l x.Parts, 0)) := by
 unfold schema_Front
 rw [schema_keyed_eq t _ l hc hv (by have := r.par; omega) (parts_in r.pla) (by have := r.key; omega), bind_some']
def extV (l : List ApiValue) (cs : List Int) : List ApiValue := cs.map (vAt l)
def extC (cols : List ApiColumn) (cs : List Int) : List ApiColumn := cs.map (colAt cols)
theorem schema_extras_eq (t : ApiTable) (x : ApiIndex) (h : x.Extra.length ≤ 1048576) (hp : ∀ c ∈ x.Extra, 0 ≤ c ∧ c < t.Cols.length) : schema_extras t x = some (extC t.Cols x.Extra) := by
 unfold schema_extras
 refine lpA (w := extC t.Cols x.Extra) (lq1 (fun i => (extC t.Cols (x.Extra.take i), (i : Int))) x.Extra.length (fun i hi => ?_) ?_ rfl) rfl
 ·show (bif _ then _ else _) = _
  rw [bif_decT (by omega), getI_at hi, bind_some', colAt_eq (hp _ (List.getElem_mem hi)), bind_some', bif_decT (by rw [room_val]; simp [extC]; omega), w64_succ (by omega), show extC t.Cols (x.Extra.take (i + 1)) = _ from map_ts _ _ hi]
  rfl
 ·show (bif _ then _ else _) = _
  rw [bif_decF (by omega), List.take_length]
theorem ext_fit {cols : List ApiColumn} {l : List ApiValue} (h : Fit cols l) {cs : List Int} (hp : ∀ c ∈ cs, 0 ≤ c ∧ c < cols.length) (h1 : 1 ≤ cs.length) (h24 : cs.length ≤ 24) : Fit (extC cols cs) (extV l cs) := by
 refine ⟨?_, by simp [extV, extC], fun i k1 k2 => ?_⟩
 ·unfold colsS
  rw [decide_eq_true (by simp [extC]; omega), Bool.true_and, List.all_eq_true]
  intro c hc
  obtain ⟨j, hj, rfl⟩ := List.mem_map.1 hc
  simpa using h.num.2.2 _ (colAt_mem (hp j hj))
 ·simp only [extC, extV, List.getElem_map]
  exact h.at (hp _ (List.getElem_mem _))
theorem sum_nd (f : Nat → Int) (hf : ∀ i, 0 ≤ f i) : ∀ (n : Nat) (l : List Nat), l.Nodup → (∀ x ∈ l, x < n) → (l.map f).sum ≤ ((List.range n).map f).sum
 | 0, [], _, _ => by simp
 | 0, x :: l, _, h => absurd (h x (by simp)) (by omega)
 | n + 1, l, hd, h => by
  have h1 := sum_nd f hf n (l.erase n) (hd.erase n) (fun x hx => by
   have := (List.Nodup.mem_erase_iff hd).1 hx
   have := h x this.2
   omega)
  have e : (l.map f).sum ≤ ((l.erase n).map f).sum + f n := by
   clear h1 h hd
   induction l with
   | nil => have := hf n; simp; omega
   | cons x r ih =>
    rw [List.erase_cons]
    by_cases q : x = n
    ·subst q; simp; omega
    ·rw [if_neg (by simpa using q)]
     simp only [List.map_cons, List.sum_cons]
     omega
  rw [List.range_succ, List.map_append, List.sum_append]
  simp only [List.map_cons, List.map_nil, List.sum_cons, List.sum_nil]
  omega
theorem rowS_len {cols : List ApiColumn} {l : List ApiValue} (h : Fit cols l) : ((rowS l).length : Int) ≤ rowMaxS cols := by
 have key : ∀ (cs : List ApiColumn) (vs : List ApiValue), cs.length = vs.length → (∀ i (h1 : i < cs.length) (h2 : i < vs.length), colS cs[i] = 0 ∧ fitS cs[i] vs[i] = 0) → (((vs.map putS).flatten.length : Nat) : Int) ≤ (cs.map fun c => wideS c 1).sum := by
  intro cs
  induction cs with
  | nil => intro vs hl _; cases vs <;> simp at hl ⊢
  | cons c cs ih =>
   intro vs hl hh
   cases vs with
   | nil => simp at hl
   | cons v vs =>
    have h0 := hh 0 (by simp) (by simp)
    have h1 := ih vs (by simpa using hl) (fun i k1 k2 => by have := hh (i + 1) (by simpa using k1) (by simpa using k2); simpa using this)
    have h2 := (enc_wide h0.1 h0.2).2
    simp only [List.getElem_cons_zero] at h2
    simp only [List.map_cons, List.flatten_cons, List.sum_cons, List.length_append]
    omega
 have := key cols l h.len.symm (fun i k1 k2 => ⟨h.num.2.2 _ (List.getElem_mem _), h.fit i k1 k2⟩)
 unfold rowS rowMaxS
 rw [List.length_append, bytesN_len]
 omega
theorem ext_rowMax {cols : List ApiColumn} (hc : ∀ c ∈ cols, colS c = 0) {cs : List Int} (h : placesS cols.length cs = true) : rowMaxS (extC cols cs) ≤ rowMaxS cols := by
 have h1 := placesS_in h
 have h2 := placesS_nodup h
 have h3 : (cs.map Int.toNat).Nodup := by
  show List.Pairwise (· ≠ ·) _
  rw [List.pairwise_map]
  refine List.Pairwise.imp_of_mem ?_ h2
  intro a b ha hb hab e
  have := h1 a ha; have := h1 b hb
  omega
 have h4 : ∀ x ∈ cs.map Int.toNat, x < cols.length := by
  intro x hx
  obtain ⟨c, hc, rfl⟩ := List.mem_map.1 hx
  have := h1 c hc; omega
 have h5 := sum_nd (fun i => if h : i < cols.length then wideS cols[i] 1 else 0) (fun i => by
  split
  ·rename_i hi; exact (wideS_le (colS_max (hc _ (List.getElem_mem hi))) (.inl rfl)).1
  ·exact Int.le_refl 0) cols.length _ h3 h4
 unfold rowMaxS
 have e1 : (cs.map Int.toNat).map (fun i => if h : i < cols.length then wideS cols[i] 1 else 0) = (extC cols cs).map fun c => wideS c 1 := by
  unfold extC
  rw [List.map_map, List.map_map]
  refine List.map_congr_left fun c hm => ?_
  have := h1 c hm
  have hl : c.toNat < cols.length := by omega
  simp only [Function.comp, hl, dite_true, colAt, List.getElem?_eq_getElem hl]
  rfl
 have e2 : (List.range cols.length).map (fun i => if h : i < cols.length then wideS cols[i] 1 else 0) = cols.map fun c => wideS c 1 := by
  apply List.ext_getElem
  ·simp
  ·intro i k1 k2
   have hi : i < cols.length := by simpa using k1
   simp [hi]
 rw [e1, e2] at h5
 omega
def entS (t : ApiTable) (x : ApiIndex) (l : List ApiValue) : ApiPair := ⟨keyS l x.Parts ++ keyS l (upS t.Primary), if x.Extra = [] then [] else rowS (extV l x.Extra)⟩
theorem ok_ext {cols : List ApiColumn} (h : OkCs cols) {cs : List Int} (hp : ∀ c ∈ cs, 0 ≤ c ∧ c < cols.length) (h24 : cs.length ≤ 24) : OkCs (extC cols cs) := ⟨by simp [extC]; omega, fun c hc => by
 obtain ⟨j, hj, rfl⟩ := List.mem_map.1 hc
 exact h.2 _ (colAt_mem (hp j hj))⟩
theorem ok_extV {l : List ApiValue} (h : OkVs l) {cs : List Int} (hp : ∀ c ∈ cs, 0 ≤ c ∧ c < l.length) (h24 : cs.length ≤ 24) : OkVs (extV l cs) := ⟨by simp [extV]; omega, fun c hc => by
 obtain ⟨j, hj, rfl⟩ := List.mem_map.1 hc
 exact h.2 _ (vAt_mem (hp j hj))⟩
theorem schema_Entry_eq (t : ApiTable) (x : ApiIndex) (l : List ApiValue) (hc : OkCs t.Cols) (hv : OkVs l) (r : Right t) (rx : RightX t x) : schema_Entry t x l = some (if fitsS t.Cols l ≠ 0 then (fitsS t.Cols l, ⟨[], []⟩) else (0, entS t x l)) := by
 unfold schema_Entry
 rw [schema_Front_eq t x l hc hv rx]
 by_cases q : fitsS t.Cols l = 0
 rotate_left
 ·rw [if_pos q, if_pos q, bind_some']
  show (bif (fitsS t.Cols l != 0) then _ else _) = _
  rw [show (fitsS t.Cols l != 0) = true by simpa using q, cond_true]
 rw [if_neg (by simpa using q), if_neg (by simpa using q), bind_some']
 show (bif ((0 : Int) != 0) then _ else Option.bind (schema_Primary t l) _) = _
 rw [show ((0 : Int) != 0) = false from rfl, cond_false, schema_Primary_eq t l hc hv r, if_neg (by simpa using q), bind_some']
 have hf := Fit.of q
 have l1 := keyS_len hf (parts_in rx.pla)
 have l2 := keyS_len hf (up_in r.pla)
 have k1 := rx.key
 have k2 := r.key
 show (bif decide ((keyS l x.Parts).length + (keyS l (upS t.Primary)).length ≤ 9223372036854775807) then _ else _) = _
 rw [bif_decT (by omega)]
 have e24 := nodup_len rx.ext
 have hlen := r.len
 have hin := placesS_in rx.ext
 have hin' : ∀ c ∈ x.Extra, 0 ≤ c ∧ c < l.length := fun c h => by rw [hf.len]; exact hin c h
 refine bo (a := (0, entS t x l)) ?_ rfl
 by_cases he : x.Extra = []
 ·rw [bif_decF (by rw [he]; simp)]
  unfold entS
  rw [if_pos he]
 have hpos : 1 ≤ x.Extra.length := by
  cases hx : x.Extra with
  | nil => exact absurd hx he
  | cons a b => simp
 rw [bif_decT (by omega)]
 refine lpA (w := extV l x.Extra) (lq1 (fun i => (extV l (x.Extra.take i), (i : Int))) x.Extra.length (fun i hi => ?_) ?_ rfl) ?_
 ·show (bif _ then _ else _) = _
  rw [bif_decT (by omega), getI_at hi, bind_some', vAt_eq (hin' _ (List.getElem_mem hi)), bind_some', bif_decT (by rw [room_val]; simp [extV]; omega), w64_succ (by omega), show extV l (x.Extra.take (i + 1)) = _ from map_ts _ _ hi]
  rfl
 ·show (bif _ then _ else _) = _
  rw [bif_decF (by omega), List.take_length]
 ·have ef := ext_fit hf hin hpos (by omega)
  have eq := ef.to
  have er := rowS_len ef
  have em := ext_rowMax r.col rx.ext
  have rr := r.row
  rw [schema_extras_eq t x (by omega) hin, bind_some', row_Encode_eq _ _ (ok_ext hc hin (by omega)) (ok_extV hv hin' (by omega)) (fun _ => ef.short) (fun _ => by simp [extV]; omega), if_neg (by simpa using eq), if_neg (by omega), bind_some']
  unfold entS
  rw [if_neg he]
theorem ref17_keyed_eq (cols : List ApiColumn) (ps : List ApiPart) (l : List ApiValue) (hf : Fit cols l) (hn : ps.length ≤ 1048576) (hp : ∀ p ∈ ps, 0 ≤ p.Col ∧ p.Col < cols.length) : ref17_keyed ps l = some (keyS l ps, nullS l ps) := by
 unfold ref17_keyed
 refine lpA (w := (partV l ps, downs ps, nullS l ps)) (lq1 (fun i => (partV l (ps.take i), downs (ps.take i), nullS l (ps.take i), (i : Int))) ps.length (fun i hi => ?_) ?_ rfl) ?_
 ·have hq := hp _ (List.getElem_mem hi)
  have hq' : 0 ≤ ps[i].Col ∧ ps[i].Col < l.length := by rw [hf.len]; exact hq
  show (bif _ then _ else _) = _
  rw [bif_decT (by omega), getI_at hi, bind_some', vAt_eq hq', bind_some', bif_decT (by rw [room_val]; simp [partV]; omega), bind_some', bif_decT (by rw [room_val]; simp [downs]; omega), w64_succ (by omega), nullS_take l ps i hi,
   show partV l (ps.take (i + 1)) = _ from map_ts _ ps hi, show downs (ps.take (i + 1)) = _ from map_ts _ ps hi]
  cases nullS l (ps.take i) <;> rfl
 ·show (bif _ then _ else _) = _
  rw [bif_decF (by omega), List.take_length]
 ·have hb := nobad hf hp
  show Option.bind (ref07_Key_1 (partV l ps) (downs ps)) _ = _
  rw [ref07_Key1_eq _ _ (by simp [partV, downs]) (by simp [partV]; omega) hb]
  rfl
theorem ref17_Primary_eq (t : ApiTable) (l : List ApiValue) (hf : Fit t.Cols l) (r : Right t) : ref17_Primary t l = some (keyS l (upS t.Primary)) := by
 unfold ref17_Primary
 rw [ref17_Up_eq _ (by have := r.pri; omega), bind_some', ref17_keyed_eq t.Cols _ l hf (by have := r.pri; simp [upS]; omega) (up_in r.pla), bind_some']
theorem ref17_Front_eq (t : ApiTable) (x : ApiIndex) (l : List ApiValue) (hf : Fit t.Cols l) (rx : RightX t x) : ref17_Front x l = some (keyS l x.Parts, nullS l x.Parts) := by
 unfold ref17_Front
 rw [ref17_keyed_eq t.Cols _ l hf (by have := rx.par; omega) (parts_in rx.pla), bind_some']
theorem ref17_Entry_eq (t : ApiTable) (x : ApiIndex) (l : List ApiValue) (hf : Fit t.Cols l) (r : Right t) (rx : RightX t x) : ref17_Entry t x l = some (entS t x l) := by
 unfold ref17_Entry
 rw [ref17_Front_eq t x l hf rx, bind_some']
 show Option.bind (ref17_Primary t l) _ = _
 rw [ref17_Primary_eq t l hf r, bind_some']
 have l1 := keyS_len hf (parts_in rx.pla)
 have l2 := keyS_len hf (up_in r.pla)
 have k1 := rx.key
 have k2 := r.key
 rw [bif_decT (by omega)]
 have e24 := nodup_len rx.ext
 have hlen := r.len
 have hin := placesS_in rx.ext
 have hin' : ∀ c ∈ x.Extra, 0 ≤ c ∧ c < l.length := fun c h => by rw [hf.len]; exact hin c h
 refine bo (a := entS t x l) ?_ rfl
 by_cases he : x.Extra = []
 ·rw [bif_decF (by rw [he]; simp)]
  unfold entS
  rw [if_pos he]
 have hpos : 1 ≤ x.Extra.length := by
  cases hx : x.Extra with
  | nil => exact absurd hx he
  | cons a b => simp
 rw [bif_decT (by omega)]
 refine lpA (w := extV l x.Extra) (lq1 (fun i => (extV l (x.Extra.take i), (i : Int))) x.Extra.length (fun i hi => ?_) ?_ rfl) ?_
 ·show (bif _ then _ else _) = _
  rw [bif_decT (by omega), getI_at hi, bind_some', vAt_eq (hin' _ (List.getElem_mem hi)), bind_some', bif_decT (by rw [room_val]; simp [extV]; omega), w64_succ (by omega), show extV l (x.Extra.take (i + 1)) = _ from map_ts _ _ hi]
  rfl
 ·show (bif _ then _ else _) = _
  rw [bif_decF (by omega), List.take_length]
 ·have ef := ext_fit hf hin hpos (by omega)
  rw [ref08_Bytes_eq _ ef.short (by simp [extV]; omega), bind_some']
  unfold entS
  rw [if_neg he]
def ptS (k : List UInt8) : ApiSpan := ⟨k, k ++ [0], false⟩
def ownS (tree : Int) (k : List UInt8) : ApiLock := ⟨tree, ptS k, true⟩
def msgS (kind : Int) (k v : List UInt8) : ApiMsg := ApiMsg.mk 0 kind k 0 v 0 0
def opS (tree : Int) (m : ApiMsg) : ForestOp := ⟨1, tree, m⟩
def undS (s : List UInt8) : ApiSpan := match afterL s with
 | some a => ⟨s, a, false⟩
 | none => ⟨s, [], true⟩
abbrev Wk3 : Type := List ForestOp × List ApiLock × List FanProbe
def entO (t : ApiTable) (x : ApiIndex) (l : List ApiValue) : ApiPair := if l = [] then ⟨[], []⟩ else entS t x l
def frontO (x : ApiIndex) (l : List ApiValue) : List UInt8 := if l = [] then [] else keyS l x.Parts
def nullO (x : ApiIndex) (l : List ApiValue) : Bool := if l = [] then false else nullS l x.Parts
def idxOps (t : ApiTable) (x : ApiIndex) (old now : List ApiValue) : Wk3 :=
 if entO t x old = entO t x now then ([], [], []) else
 let del := decide (old ≠ []) && ((entO t x old).Key != (entO t x now).Key)
 let o1 := if del = true then [opS x.Tree (msgS 2 (entO t x old).Key [])] else []
 let l1 := if del = true ∧ x.Ready = true then [ownS x.Tree (entO t x old).Key] else []
 if now = [] then (o1, l1, []) else
 let o2 := o1 ++ [opS x.Tree (msgS 1 (entO t x now).Key (entO t x now).Val)]
 let l2 := if x.Ready = true then l1 ++ [ownS x.Tree (entO t x now).Key] else l1
 if x.Ready = true ∧ x.Unique = true ∧ nullO x now = false ∧ ¬ (old ≠ [] ∧ frontO x old = frontO x now) then (o2, l2 ++ [⟨x.Tree, undS (frontO x now), false⟩], [⟨x.Tree, undS (frontO x now)⟩]) else (o2, l2, [])
def app3 (a b : Wk3) : Wk3 := (a.1 ++ b.1, a.2.1 ++ b.2.1, a.2.2 ++ b.2.2)
def Side (t : ApiTable) (l : List ApiValue) : Prop := OkVs l ∧ (l ≠ [] → fitsS t.Cols l = 0)
theorem emp {α : Type} (l : List α) : decide ((l.length : Int) > 0) = decide (l ≠ []) := by
 refine decI ?_
 cases l <;> simp
theorem Under_eq (s : List UInt8) (h : s.length < 4611686018427387904) : key_Under s = some (undS s) := by
 unfold key_Under undS
 rw [After_eq s h, bind_some']
 cases afterL s <;> rfl
theorem key_short {t : ApiTable} {x : ApiIndex} {l : List ApiValue} (hf : Fit t.Cols l) (r : Right t) (rx : RightX t x) : (keyS l x.Parts).length ≤ 128 ∧ (keyS l (upS t.Primary)).length ≤ 128 ∧ (entS t x l).Key.length ≤ 256 := by
 have l1 := keyS_len hf (parts_in rx.pla)
 have l2 := keyS_len hf (up_in r.pla)
 have k1 := rx.key
 have k2 := r.key
 refine ⟨by omega, by omega, ?_⟩
 show (keyS l x.Parts ++ keyS l (upS t.Primary)).length ≤ 256
 rw [List.length_append]; omega
theorem Point_eq (k : List UInt8) (h : k.length ≤ 140737488351232) : fan_Point k = some () := by
 unfold fan_Point
 rw [bif_decT (by simp; omega)]
theorem index11_eq (m : ApiMsg) (x : ApiIndex) (p2 : List ForestOp) (p3 : List ApiLock) (p4 : List FanProbe) (hm : m.Key.length ≤ 1048576) (h2 : p2.length ≤ 1000) (h3 : p3.length ≤ 1000) :
  fan_Work_index_1_1 m x p2 p3 p4 = some (if x.Ready = true then p3 ++ [ownS x.Tree m.Key] else p3) := by
 unfold fan_Work_index_1_1
 refine bo (a := ()) ?_ ?_
 ·unfold fan_Work_do_2
  rw [bif_decT (by rw [room_val]; simp; omega)]
 cases x.Ready with
 | false => rfl
 | true =>
  rw [cond_true]
  refine bo (a := ()) ?_ rfl
  unfold fan_Work_own_2
  rw [Point_eq _ (by omega), bind_some', bif_decT (by rw [room_val]; simp; omega)]
theorem eqPair (a b : ApiPair) : eqApiPair a b = decide (a = b) := by
 cases a; cases b
 simp only [eqApiPair, ApiPair.mk.injEq]
 rw [Bool.eq_iff_iff]
 simp
theorem index2_eq (t : ApiTable) (x : ApiIndex) (old now : List ApiValue) (pa pb : List UInt8) (p4 : List ForestOp) (p5 : List ApiLock) (p6 : List FanProbe) (hc : OkCs t.Cols) (r : Right t) (rx : RightX t x) (ho : Side t old) (hn : Side t now)
  (h4 : p4.length ≤ 900) (h5 : p5.length ≤ 900) (h6 : p6.length ≤ 900) :
  fan_Work_index_2 t x ⟨old, pa⟩ ⟨now, pb⟩ p4 p5 p6 = some (app3 (p4, p5, p6) (idxOps t x old now)) := by
 unfold fan_Work_index_2
 have side : ∀ l, Side t l → l ≠ [] → Fit t.Cols l := fun l h k => Fit.of (h.2 k)
 refine bo (a := (frontO x old, entO t x old)) ?_ ?_
 ·show Option.bind (some ()) _ = _
  rw [bind_some', emp]
  by_cases k : old = []
  ·subst k; rfl
  ·rw [bif_decT k, schema_Entry_eq t x old hc ho.1 r rx, if_neg (by simpa using ho.2 k), bind_some']
   show Option.bind (schema_Front t x old) _ = _
   rw [schema_Front_eq t x old hc ho.1 rx, if_neg (by simpa using ho.2 k), bind_some']
   simp [frontO, entO, k]
 show Option.bind _ _ = _
 refine bo (a := (frontO x now, nullO x now, entO t x now)) ?_ ?_
 ·show Option.bind (some ()) _ = _
  rw [bind_some', emp]
  by_cases k : now = []
  ·subst k; rfl
  ·rw [bif_decT k, schema_Entry_eq t x now hc hn.1 r rx, if_neg (by simpa using hn.2 k), bind_some']
   show Option.bind (schema_Front t x now) _ = _
   rw [schema_Front_eq t x now hc hn.1 rx, if_neg (by simpa using hn.2 k), bind_some']
   simp [frontO, entO, nullO, k]
 show (bif (eqApiPair (entO t x old) (entO t x now)) then _ else _) = _
 have ka : (entO t x old).Key.length ≤ 256 := by
  unfold entO
  by_cases k : old = []
  ·rw [if_pos k]; simp
  ·rw [if_neg k]; exact (key_short (side old ho k) r rx).2.2
 have kz : (entO t x now).Key.length ≤ 256 := by
  unfold entO
  by_cases k : now = []
  ·rw [if_pos k]; simp
  ·rw [if_neg k]; exact (key_short (side now hn k) r rx).2.2
 have kf : (frontO x now).length ≤ 128 := by
  unfold frontO
  by_cases k : now = []
  ·rw [if_pos k]; simp
  ·rw [if_neg k]; exact (key_short (side now hn k) r rx).1
 rw [eqPair]
 unfold idxOps
 by_cases q : entO t x old = entO t x now
 ·rw [bif_decT q, if_pos q]; simp [app3]
 rw [bif_decF q, if_neg q]
 generalize hd : (decide (old ≠ []) && ((entO t x old).Key != (entO t x now).Key)) = del
 refine bo (a := (p4 ++ (if del = true then [opS x.Tree (msgS 2 (entO t x old).Key [])] else []), p5 ++ (if del = true ∧ x.Ready = true then [ownS x.Tree (entO t x old).Key] else []))) ?_ ?_
 ·refine bo (a := del) ?_ ?_
  ·show Option.bind (some ()) _ = _
   rw [bind_some', emp, ← hd]
   by_cases k : old = []
   ·subst k; rfl
   ·rw [bif_decT k, decide_eq_true k, Bool.true_and]
  cases del with
  | false => simp
  | true =>
   rw [cond_true, index11_eq _ _ _ _ _ (by show (entO t x old).Key.length ≤ _; omega) (by omega) (by omega), bind_some']
   cases x.Ready <;> simp [opS, msgS, ownS]
 show Option.bind (some ()) _ = _
 rw [bind_some']
 show (bif (!(decide ((now.length : Int) > 0))) then _ else _) = _
 rw [emp]
 by_cases k : now = []
 ·rw [decide_eq_false (by simpa using k), Bool.not_false, cond_true]
  simp only [k, if_true, app3, List.append_nil]
 rw [decide_eq_true k, Bool.not_true, cond_false]
 simp only [k, if_false]
 have l4 : (p4 ++ (if del = true then [opS x.Tree (msgS 2 (entO t x old).Key [])] else [])).length ≤ 910 := by rw [List.length_append]; split <;> simp <;> omega
 have l5 : (p5 ++ (if del = true ∧ x.Ready = true then [ownS x.Tree (entO t x old).Key] else [])).length ≤ 910 := by rw [List.length_append]; split <;> simp <;> omega
 rw [index11_eq _ _ _ _ _ (by show (entO t x now).Key.length ≤ _; omega) (by omega) (by omega), bind_some']
 generalize hu : decide (x.Ready = true ∧ x.Unique = true ∧ nullO x now = false ∧ ¬ (old ≠ [] ∧ frontO x old = frontO x now)) = u
 have l2 : (if x.Ready = true then (p5 ++ (if del = true ∧ x.Ready = true then [ownS x.Tree (entO t x old).Key] else [])) ++ [ownS x.Tree (entO t x now).Key] else (p5 ++ (if del = true ∧ x.Ready = true then [ownS x.Tree (entO t x old).Key] else []))) = p5 ++ (if x.Ready = true then (if del = true ∧ x.Ready = true then [ownS x.Tree (entO t x old).Key] else []) ++ [ownS x.Tree (entO t x now).Key] else (if del = true ∧ x.Ready = true then [ownS x.Tree (entO t x old).Key] else [])) := by
  split <;> simp
 refine bo (a := u) ?_ ?_
 ·rw [← hu]
  cases x.Ready with
  | false => simp
  | true =>
   cases x.Unique with
   | false => simp
   | true =>
    cases nullO x now with
    | true => simp
    | false =>
     simp only [cond_true, Bool.not_false, true_and]
     show Option.bind (some ()) _ = _
     rw [bind_some', emp]
     by_cases k2 : old = []
     ·rw [bif_decF (by simpa using k2)]; simp [k2]
     ·rw [bif_decT k2]
      congr 1
      by_cases k3 : frontO x old = frontO x now
      ·simp [k3, k2]
      ·simp [k3, k2]
 have l5' : (if x.Ready = true then (p5 ++ (if del = true ∧ x.Ready = true then [ownS x.Tree (entO t x old).Key] else [])) ++ [ownS x.Tree (entO t x now).Key] else (p5 ++ (if del = true ∧ x.Ready = true then [ownS x.Tree (entO t x old).Key] else []))).length ≤ 920 := by
  split
  ·rw [List.length_append]; simp only [List.length_cons, List.length_nil]; omega
  ·omega
 cases u with
 | false =>
  rw [cond_false, if_neg (of_decide_eq_false hu)]
  simp only [app3, List.append_nil, l2]
  rw [List.append_assoc]
  rfl
 | true =>
  rw [cond_true, if_pos (of_decide_eq_true hu)]
  rw [Under_eq _ (by omega), bind_some', bif_decT (by rw [room_val]; simp only [List.length_cons, List.length_nil]; omega), bif_decT (by rw [room_val]; simp only [List.length_cons, List.length_nil]; omega)]
  simp only [app3]
  rw [l2, List.append_assoc p4, List.append_assoc p5]
  rfl
def primS (t : ApiTable) (l : List ApiValue) : List UInt8 := keyS l (upS t.Primary)
def keepS (x : ApiIndex) (b : FanBuilt) (p : List UInt8) : Bool := x.Ready || (b.Any && (ltS p b.Key || p == b.Key))
def stepS (t : ApiTable) (old now : List ApiValue) (p : List UInt8) (w : Wk3) (q : ApiIndex × FanBuilt) : Wk3 := if keepS q.1 q.2 p = true then app3 w (idxOps t q.1 old now) else w
def rowOp (t : ApiTable) (now : List ApiValue) (p : List UInt8) : ForestOp := if now = [] then opS t.Tree (msgS 2 p []) else opS t.Tree (msgS 1 p (rowS now))
def restS (t : ApiTable) (b : List FanBuilt) (old now : List ApiValue) (p : List UInt8) : Wk3 := (t.Indexes.zip b).foldl (stepS t old now p) ([rowOp t now p], [ownS t.Tree p], [])
def priO (t : ApiTable) (old now : List ApiValue) : List UInt8 := if now = [] then primS t old else primS t now
def chgS (t : ApiTable) (b : List FanBuilt) (old now : List ApiValue) : Int × Wk3 :=
 if b.length ≠ t.Indexes.length ∨ (old = [] ∧ now = []) then (1, [], [], [])
 else if old ≠ [] ∧ fitsS t.Cols old ≠ 0 then (fitsS t.Cols old, [], [], [])
 else if now ≠ [] ∧ fitsS t.Cols now ≠ 0 then (fitsS t.Cols now, [], [], [])
 else if now ≠ [] ∧ old ≠ [] ∧ primS t old ≠ primS t now then (1, [], [], [])
 else if old = now then (0, [], [ownS t.Tree (priO t old now)], [])
 else (0, restS t b old now (priO t old now))
theorem idx_len (t : ApiTable) (x : ApiIndex) (old now : List ApiValue) : (idxOps t x old now).1.length ≤ 2 ∧ (idxOps t x old now).2.1.length ≤ 3 ∧ (idxOps t x old now).2.2.length ≤ 1 := by
 unfold idxOps
 by_cases q : entO t x old = entO t x now
 ·rw [if_pos q]; simp
 rw [if_neg q]
 simp only
 have h1 : ∀ (b : Bool), (if b = true then [opS x.Tree (msgS 2 (entO t x old).Key [])] else []).length ≤ 1 := by intro b; cases b <;> simp
 have h2 : ∀ (b : Bool), (if b = true ∧ x.Ready = true then [ownS x.Tree (entO t x old).Key] else []).length ≤ 1 := by intro b; split <;> simp
 by_cases k : now = []
 ·rw [if_pos k]; exact ⟨Nat.le_trans (h1 _) (by omega), Nat.le_trans (h2 _) (by omega), by simp⟩
 rw [if_neg k]
 have h1 := h1 (decide (old ≠ []) && ((entO t x old).Key != (entO t x now).Key))
 have h2 := h2 (decide (old ≠ []) && ((entO t x old).Key != (entO t x now).Key))
 generalize (if (decide (old ≠ []) && ((entO t x old).Key != (entO t x now).Key)) = true then [opS x.Tree (msgS 2 (entO t x old).Key [])] else []) = a at h1
 generalize (if (decide (old ≠ []) && ((entO t x old).Key != (entO t x now).Key)) = true ∧ x.Ready = true then [ownS x.Tree (entO t x old).Key] else []) = b at h2
 split <;> split <;> simp only [List.length_append, List.length_cons, List.length_nil] <;> omega
theorem fold_take {α β : Type} (f : β → α → β) (a : β) (l : List α) (i : Nat) (hi : i < l.length) : (l.take (i + 1)).foldl f a = f ((l.take i).foldl f a) l[i] := by
 rw [List.take_succ_eq_append_getElem hi, List.foldl_append]; rfl
theorem step_len (t : ApiTable) (old now : List ApiValue) (p : List UInt8) : ∀ (l : List (ApiIndex × FanBuilt)) (w : Wk3), (l.foldl (stepS t old now p) w).1.length ≤ w.1.length + 2 * l.length ∧ (l.foldl (stepS t old now p) w).2.1.length ≤ w.2.1.length + 3 * l.length ∧ (l.foldl (stepS t old now p) w).2.2.length ≤ w.2.2.length + l.length
 | [], w => by simp
 | q :: l, w => by
  have h := step_len t old now p l (stepS t old now p w q)
  have k := idx_len t q.1 old now
  have s : (stepS t old now p w q).1.length ≤ w.1.length + 2 ∧ (stepS t old now p w q).2.1.length ≤ w.2.1.length + 3 ∧ (stepS t old now p w q).2.2.length ≤ w.2.2.length + 1 := by
   unfold stepS
   split
   ·simp only [app3, List.length_append]; omega
   ·omega
  rw [List.foldl_cons]
  simp only [List.length_cons]
  omega
theorem read_eq (t : ApiTable) (l : List ApiValue) (hc : OkCs t.Cols) (hv : OkVs l) (r : Right t) : fan_read t l = some (if l = [] then (0, ⟨[], []⟩) else if fitsS t.Cols l ≠ 0 then (fitsS t.Cols l, ⟨l, []⟩) else (0, ⟨l, primS t l⟩)) := by
 unfold fan_read
 by_cases k : l = []
 ·subst k; rfl
 rw [if_neg k, show ((l.length : Int) == 0) = false by rw [len_int]; simpa using k, cond_false, schema_Primary_eq t l hc hv r, bind_some']
 by_cases q : fitsS t.Cols l = 0
 ·rw [if_neg (by simpa using q), if_neg (by simpa using q)]; rfl
 ·rw [if_pos q, if_pos q]
theorem len_ne {a b : Nat} : ((a : Int) != (b : Int)) = decide (a ≠ b) := by rw [nat_ne]; simp [bne, Bool.beq_eq_decide_eq]
theorem prim_short {t : ApiTable} {l : List ApiValue} (hf : Fit t.Cols l) (r : Right t) : (primS t l).length ≤ 128 := by
 have l2 := keyS_len hf (up_in r.pla)
 have k2 := r.key
 unfold primS; omega
theorem fan_loop (t : ApiTable) (b : List FanBuilt) (old now : List ApiValue) (p pa pb : List UInt8) (w : Wk3) (hc : OkCs t.Cols) (r : Right t) (hb : b.length = t.Indexes.length) (ho : Side t old) (hn : Side t now)
  (h4 : w.1.length ≤ 1) (h5 : w.2.1.length ≤ 1) (h6 : w.2.2.length ≤ 1) {B : Int × Wk3 → Option ((Int × Wk3) ⊕ Wk3)}
  (hB : ∀ (i : Nat) (hi : i < t.Indexes.length) (v : Wk3), B ((i : Int), v) = Option.bind (Option.bind (α := Bool) (bif (t.Indexes[i]'hi).Ready then some true else Option.bind (getI b (i : Int)) fun v436 => bif v436.Any then Option.bind (getI b (i : Int)) fun v437 => some (ltS p v437.Key || p == v437.Key) else some false) fun y434 =>
   bif y434 then Option.bind (fan_Work_index_2 t (t.Indexes[i]'hi) ⟨old, pa⟩ ⟨now, pb⟩ v.1 v.2.1 v.2.2) fun x => some (x.1, x.2.1, x.2.2) else some (v.1, v.2.1, v.2.2)) fun x => some (Sum.inl (((i + 1 : Nat) : Int), x.1, x.2.1, x.2.2)))
  (he : ∀ v, B ((t.Indexes.length : Int), v) = some (.inr v)) : loop B ((0 : Int), w) = some ((t.Indexes.zip b).foldl (stepS t old now p) w) := by
 have z : (t.Indexes.zip b).length = t.Indexes.length := by simp [hb]
 have l6 := r.ixs
 refine lq1 (fun i => ((i : Int), ((t.Indexes.zip b).take i).foldl (stepS t old now p) w)) t.Indexes.length (fun i hi => ?_) ?_ rfl
 ·rw [hB i hi, fold_take _ _ _ _ (by omega)]
  generalize hw : ((t.Indexes.zip b).take i).foldl (stepS t old now p) w = v
  have sl := step_len t old now p ((t.Indexes.zip b).take i) w
  rw [hw] at sl
  have tl : ((t.Indexes.zip b).take i).length ≤ 6 := by rw [List.length_take]; omega
  refine bo (a := stepS t old now p v (t.Indexes.zip b)[i]) ?_ rfl
  rw [List.getElem_zip]
  refine bo (a := keepS t.Indexes[i] b[i] p) ?_ ?_
  ·unfold keepS
   cases (t.Indexes[i]).Ready with
   | true => rfl
   | false =>
    rw [cond_false, getI_at (by omega), bind_some']
    cases b[i].Any <;> rfl
  ·unfold stepS
   cases hk : keepS t.Indexes[i] b[i] p with
   | false => simp
   | true =>
    simp only [if_true, cond_true]
    rw [index2_eq t _ old now pa pb v.1 v.2.1 v.2.2 hc r (RightX.of (r.idx _ (List.getElem_mem hi))) ho hn (by omega) (by omega) (by omega), bind_some']
 ·rw [he, List.take_of_length_le (by omega)]
theorem fan_Change_eq (t : ApiTable) (b : List FanBuilt) (old now : List ApiValue) (hc : OkCs t.Cols) (r : Right t) (ho : OkVs old) (hn : OkVs now) : fan_Change t b old now = some (chgS t b old now) := by
 unfold fan_Change chgS
 refine bo (a := decide (b.length ≠ t.Indexes.length ∨ (old = [] ∧ now = []))) ?_ ?_
 ·rw [len_ne]
  by_cases k : b.length = t.Indexes.length
  ·rw [bif_decF (by simpa using k), len_int, len_int]
   simp only [k, ne_eq, not_true_eq_false, false_or]
   cases old <;> cases now <;> simp
  ·rw [bif_decT k]; simp [k]
 by_cases q : b.length ≠ t.Indexes.length ∨ (old = [] ∧ now = [])
 ·rw [bif_decT q, if_pos q]
 rw [bif_decF q, if_neg q]
 rw [read_eq t old hc ho r, bind_some']
 by_cases q1 : old ≠ [] ∧ fitsS t.Cols old ≠ 0
 ·rw [if_pos q1, if_neg q1.1, if_pos q1.2]
  show (bif (fitsS t.Cols old != 0) then _ else _) = _
  rw [show (fitsS t.Cols old != 0) = true by simpa using q1.2, cond_true]
 rw [if_neg q1]
 have so : Side t old := ⟨ho, fun k => by
  rcases Int.lt_trichotomy (fitsS t.Cols old) 0 with h | h | h
  ·exact absurd ⟨k, by omega⟩ q1
  ·exact h
  ·exact absurd ⟨k, by omega⟩ q1⟩
 obtain ⟨pa, hpa⟩ : ∃ pa, (if old = [] then (0, (⟨[], []⟩ : FanSide)) else if fitsS t.Cols old ≠ 0 then (fitsS t.Cols old, ⟨old, []⟩) else (0, ⟨old, primS t old⟩)) = (0, ⟨old, pa⟩) ∧ (old ≠ [] → pa = primS t old) ∧ (old = [] → pa = []) := by
  by_cases k : old = []
  ·exact ⟨[], by simp [k], fun h => absurd k h, fun _ => rfl⟩
  ·exact ⟨primS t old, by simp [k, so.2 k], fun _ => rfl, fun h => absurd h k⟩
 rw [hpa.1]
 show (bif ((0 : Int) != 0) then _ else Option.bind (fan_read t now) _) = _
 rw [show ((0 : Int) != 0) = false from rfl, cond_false, read_eq t now hc hn r, bind_some']
 by_cases q2 : now ≠ [] ∧ fitsS t.Cols now ≠ 0
 ·rw [if_pos q2, if_neg q2.1, if_pos q2.2]
  show (bif (fitsS t.Cols now != 0) then _ else _) = _
  rw [show (fitsS t.Cols now != 0) = true by simpa using q2.2, cond_true]
 rw [if_neg q2]
 have sn : Side t now := ⟨hn, fun k => by
  rcases Int.lt_trichotomy (fitsS t.Cols now) 0 with h | h | h
  ·exact absurd ⟨k, by omega⟩ q2
  ·exact h
  ·exact absurd ⟨k, by omega⟩ q2⟩
 obtain ⟨pb, hpb⟩ : ∃ pb, (if now = [] then (0, (⟨[], []⟩ : FanSide)) else if fitsS t.Cols now ≠ 0 then (fitsS t.Cols now, ⟨now, []⟩) else (0, ⟨now, primS t now⟩)) = (0, ⟨now, pb⟩) ∧ (now ≠ [] → pb = primS t now) ∧ (now = [] → pb = []) := by
  by_cases k : now = []
  ·exact ⟨[], by simp [k], fun h => absurd k h, fun _ => rfl⟩
  ·exact ⟨primS t now, by simp [k, sn.2 k], fun _ => rfl, fun h => absurd h k⟩
 rw [hpb.1]
 show (bif ((0 : Int) != 0) then _ else _) = _
 rw [show ((0 : Int) != 0) = false from rfl, cond_false]
 by_cases q3 : now ≠ [] ∧ old ≠ [] ∧ primS t old ≠ primS t now
 ·rw [if_pos q3]
  refine beE (x := (1, [], [], [])) ?_ rfl
  show Option.bind (some ()) _ = _
  rw [bind_some']
  show (bif (!(decide ((now.length : Int) > 0))) then _ else _) = _
  rw [emp, decide_eq_true q3.1, Bool.not_true, cond_false]
  refine bo (a := true) ?_ rfl
  show Option.bind (some ()) _ = _
  rw [bind_some']
  show (bif (decide ((old.length : Int) > 0)) then _ else _) = _
  rw [emp, bif_decT q3.2.1]
  show some (pa != pb) = _
  rw [hpa.2.1 q3.2.1, hpb.2.1 q3.1]
  congr 1
  simpa using q3.2.2
 rw [if_neg q3]
 have hpr : ∀ (hx : old ≠ [] ∨ now ≠ []), (priO t old now).length ≤ 128 := by
  intro hx
  unfold priO
  by_cases k : now = []
  ·rw [if_pos k]; exact prim_short (Fit.of (so.2 (by simpa [k] using hx))) r
  ·rw [if_neg k]; exact prim_short (Fit.of (sn.2 k)) r
 have hx : old ≠ [] ∨ now ≠ [] := by
  rw [not_or] at q
  by_cases k : old = []
  ·exact .inr fun k2 => q.2 ⟨k, k2⟩
  ·exact .inl k
 have hpr := hpr hx
 refine beY (y := priO t old now) ?_ ?_
 ·show Option.bind (some ()) _ = _
  rw [bind_some']
  show (bif (!(decide ((now.length : Int) > 0))) then some (Sum.inl pa) else _) = _
  rw [emp]
  by_cases k : now = []
  ·have ho' : old ≠ [] := by simpa [k] using hx
   rw [decide_eq_false (by simpa using k), Bool.not_false, cond_true, hpa.2.1 ho', priO, if_pos k]
  ·rw [decide_eq_true k, Bool.not_true, cond_false]
   refine bo (a := false) ?_ ?_
   ·show Option.bind (some ()) _ = _
    rw [bind_some']
    show (bif (decide ((old.length : Int) > 0)) then some (pa != pb) else _) = _
    rw [emp]
    by_cases k2 : old = []
    ·rw [bif_decF (by simpa using k2)]
    ·rw [bif_decT k2, hpa.2.1 k2, hpb.2.1 k]
     congr 1
     have : primS t old = primS t now := Decidable.byContradiction fun h => q3 ⟨k, k2, h⟩
     simpa using this
   ·rw [cond_false]
    show some (Sum.inl pb) = _
    rw [hpb.2.1 k, priO, if_neg k]
 generalize priO t old now = p at hpr ⊢
 refine bo (a := ()) ?_ ?_
 ·unfold fan_Work_own
  rw [Point_eq _ (by omega), bind_some', bif_decT (by rw [room_val]; simp only [List.length_cons, List.length_nil]; omega)]
 rw [slices_Equal_V_eq _ _ ho.1, bind_some']
 by_cases q4 : old = now
 ·rw [bif_decT q4, if_pos q4]; rfl
 rw [bif_decF q4, if_neg q4]
 refine beY (y := [rowOp t now p]) ?_ ?_
 ·show Option.bind (some ()) _ = _
  rw [bind_some']
  show (bif (decide ((now.length : Int) > 0)) then _ else _) = _
  rw [emp]
  by_cases k : now = []
  ·rw [bif_decF (by simpa using k)]
   refine bo (a := ()) ?_ ?_
   ·unfold fan_Work_do
    rw [bif_decT (by rw [room_val]; simp only [List.length_cons, List.length_nil]; omega)]
   ·rw [rowOp, if_pos k]; rfl
  ·rw [bif_decT k]
   have hf := Fit.of (sn.2 k)
   have e1 := rowS_len hf
   have e2 := r.row
   rw [row_Encode_eq _ _ hc hn (fun _ => hf.short) (fun _ => by have := hf.num; rw [hf.len]; omega), if_neg (by simpa using sn.2 k), if_neg (by omega), bind_some']
   show (bif ((0 : Int) != 0) then _ else _) = _
   rw [show ((0 : Int) != 0) = false from rfl, cond_false]
   refine bo (a := ()) ?_ ?_
   ·unfold fan_Work_do
    rw [bif_decT (by rw [room_val]; simp only [List.length_cons, List.length_nil]; omega)]
   ·rw [rowOp, if_neg k]; rfl
 rw [not_or] at q
 refine lpA (w := restS t b old now p) (fan_loop t b old now p pa pb ([rowOp t now p], [ownS t.Tree p], []) hc r (by simpa using q.1) so sn (by simp) (by simp) (by simp) (fun i hi v => ?_) (fun v => ?_)) rfl
 ·have li := r.ixs
  show (bif _ then _ else _) = _
  rw [bif_decT (by omega), getI_at hi, w64_succ (by omega)]
  rfl
 ·show (bif _ then _ else _) = _
  rw [bif_decF (by omega)]
def toR (o : ForestOp) : Granaryref14Op := ⟨o.Kind, o.Tree, o.Msg⟩
def toP (p : FanProbe) : Granaryref19Probe := ⟨p.Tree, p.Span⟩
def toB (b : FanBuilt) : Granaryref19Built := ⟨b.Key, b.Any⟩
theorem ref07_After_eq (s : List UInt8) (hs : s.length < 4611686018427387904) : ref07_After s = some (match afterL s with | some a => (a, true) | none => ([], false)) := by
 unfold ref07_After
 refine lpE (w := match afterL s with | some a => .inr (a, true) | none => .inl ()) (nmB fun B hB => ?_) ?_
 rotate_left
 ·cases afterL s <;> rfl
 have key : ∀ n, n ≤ s.length → (∀ x ∈ s.drop n, x = 255) → loop B ((n : Int) - 1) = some (match afterL s with | some a => .inr (a, true) | none => .inl ()) := by
  intro n
  induction n with
  | zero =>
   intro _ h
   rw [afterL_full (fun x hx => h x (by simpa using hx))]
   refine loop_end ?_
   rw [hB]
   show (bif _ then _ else _) = _
   rw [bif_decF (by omega)]
  | succ n ih =>
   intro hn h
   have hx : s[n]? = some (s[n]'(by omega)) := List.getElem?_eq_getElem (by omega)
   have e : ((n + 1 : Nat) : Int) - 1 = (n : Int) := by omega
   rw [e]
   by_cases hb : s[n]'(by omega) = 255
   ·have hstep : B (n : Int) = some (.inl ((n : Int) - 1)) := by
     rw [hB]
     show (bif _ then _ else _) = _
     rw [bif_decT (by omega), getI_nat, hx, bind_some', bif_decF (by rw [hb]; decide), w64_id (by omega) (by omega)]
    rw [loop_step hstep]
    refine ih (by omega) fun x hx => ?_
    rw [List.drop_eq_getElem_cons (by omega)] at hx
    rcases List.mem_cons.1 hx with rfl | hx
    ·exact hb
    ·exact h x hx
   ·have hl : s[n]'(by omega) < 255 := by
     have h1 := (s[n]'(by omega)).toNat_lt
     have h2 : (s[n]'(by omega)).toNat ≠ 255 := fun e => hb (UInt8.toNat_inj.1 e)
     rw [UInt8.lt_iff_toNat_lt]
     show _ < 255
     omega
    have sp : s = (s.take n ++ [s[n]'(by omega)]) ++ s.drop (n + 1) := by
     rw [List.append_assoc]
     conv => lhs; rw [← List.take_append_drop n s, List.drop_eq_getElem_cons (show n < s.length by omega)]
     rfl
    have ea : afterL s = some (s.take n ++ [s[n]'(by omega) + 1]) := by
     conv => lhs; rw [sp]
     rw [afterL_append _ h, afterL_last _ hb]
    rw [ea]
    refine loop_end ?_
    rw [hB]
    show (bif _ then _ else _) = _
    have lt : (s.take n).length ≤ s.length := by simp; omega
    rw [bif_decT (by omega), getI_nat, hx]
    simp only [bind_some']
    rw [bif_decT hl, bif_decT (by omega), bif_decT (by simp only [List.length_cons, List.length_nil, Int.toNat_natCast]; omega), Int.toNat_natCast]
 have := key s.length (Nat.le_refl _) (by rw [List.drop_length]; intro x hx; cases hx)
 by_cases h0 : s.length = 0
 ·rw [h0] at this ⊢
  rw [w64_id (by omega) (by omega)]; exact this
 ·rw [w64_id (by omega) (by omega)]; exact this
theorem ref07_Under_eq (s : List UInt8) (h : s.length < 4611686018427387904) : ref07_Under s = some (undS s) := by
 unfold ref07_Under undS
 rw [ref07_After_eq s h, bind_some']
 cases afterL s <;> rfl
theorem RPoint_eq (k : List UInt8) (h : k.length ≤ 140737488351232) : ref19_Point k = some () := by
 unfold ref19_Point
 rw [bif_decT (by simp; omega)]
theorem rop2 (tree kind : Int) (k v : List UInt8) (p4 : List Granaryref14Op) (p5 : List ApiLock) (p6 : List Granaryref19Probe) (h : p4.length ≤ 1000) : ref19_Work_op_2 tree kind k v p4 p5 p6 = some () := by
 unfold ref19_Work_op_2
 rw [bif_decT (by rw [room_val]; simp only [List.length_cons, List.length_nil]; omega)]
theorem rown2 (tree : Int) (k : List UInt8) (p4 : List Granaryref14Op) (p5 : List ApiLock) (p6 : List Granaryref19Probe) (hk : k.length ≤ 1048576) (h : p5.length ≤ 1000) : ref19_Work_own_2 tree k p4 p5 p6 = some () := by
 unfold ref19_Work_own_2
 rw [RPoint_eq _ (by omega), bind_some', bif_decT (by rw [room_val]; simp only [List.length_cons, List.length_nil]; omega)]
theorem ent_ne {t : ApiTable} {x : ApiIndex} {l : List ApiValue} (rx : RightX t x) : (entS t x l).Key ≠ [] := by
 have h := rx.par
 show keyS l x.Parts ++ _ ≠ []
 unfold keyS partV downs
 cases hp : x.Parts with
 | nil => rw [hp] at h; simp at h
 | cons p ps =>
  simp only [List.map_cons, encL]
  intro e
  have e1 := (List.append_eq_nil_iff.1 (List.append_eq_nil_iff.1 e).1).1
  have := congrArg List.length e1
  rw [turn_len] at this
  unfold enc at this
  simp at this
theorem refindex_eq (t : ApiTable) (x : ApiIndex) (old now : List ApiValue) (p4 : List Granaryref14Op) (p5 : List ApiLock) (p6 : List Granaryref19Probe) (r : Right t) (rx : RightX t x) (ho : Side t old) (hn : Side t now) (hne : old ≠ [] ∨ now ≠ [])
  (h4 : p4.length ≤ 900) (h5 : p5.length ≤ 900) (h6 : p6.length ≤ 900) :
  ref19_Work_index_1 t x old now p4 p5 p6 = some (p4 ++ (idxOps t x old now).1.map toR, p5 ++ (idxOps t x old now).2.1, p6 ++ (idxOps t x old now).2.2.map toP) := by
 unfold ref19_Work_index_1
 have side : ∀ l, Side t l → l ≠ [] → Fit t.Cols l := fun l h k => Fit.of (h.2 k)
 refine bo (a := (frontO x old, entO t x old)) ?_ ?_
 ·rw [emp]
  by_cases k : old = []
  ·subst k; rfl
  ·rw [bif_decT k, ref17_Entry_eq t x old (side old ho k) r rx, bind_some', ref17_Front_eq t x old (side old ho k) rx, bind_some']
   simp [frontO, entO, k]
 show Option.bind _ _ = _
 refine bo (a := entO t x now) ?_ ?_
 ·rw [emp]
  by_cases k : now = []
  ·subst k; rfl
  ·rw [bif_decT k, ref17_Entry_eq t x now (side now hn k) r rx, bind_some']
   simp [entO, k]
 have ka : (entO t x old).Key.length ≤ 256 := by
  unfold entO
  by_cases k : old = []
  ·rw [if_pos k]; simp
  ·rw [if_neg k]; exact (key_short (side old ho k) r rx).2.2
 have kz : (entO t x now).Key.length ≤ 256 := by
  unfold entO
  by_cases k : now = []
  ·rw [if_pos k]; simp
  ·rw [if_neg k]; exact (key_short (side now hn k) r rx).2.2
 have kf : (frontO x now).length ≤ 128 := by
  unfold frontO
  by_cases k : now = []
  ·rw [if_pos k]; simp
  ·rw [if_neg k]; exact (key_short (side now hn k) r rx).1
 -- entries of a row and of none are never the same
 have one : ∀ (a b : List ApiValue), a = [] → b ≠ [] → (entO t x a).Key ≠ (entO t x b).Key := by
  intro a b h1 h2 e
  unfold entO at e
  rw [if_pos h1, if_neg h2] at e
  exact ent_ne rx e.symm
 refine bo (a := decide (entO t x old = entO t x now)) ?_ ?_
 ·rw [emp, emp]
  by_cases k : old = []
  ·rw [bif_decF (by simpa using k)]
   have : now ≠ [] := by simpa [k] using hne
   rw [decide_eq_false (fun e => one old now k this (by rw [e]))]
  ·rw [bif_decT k]
   by_cases k2 : now = []
   ·rw [bif_decF (by simpa using k2), decide_eq_false (fun e => one now old k2 k (by rw [e]))]
   ·rw [bif_decT k2, eqPair]
 unfold idxOps
 by_cases q : entO t x old = entO t x now
 ·rw [bif_decT q, if_pos q]; simp
 rw [bif_decF q, if_neg q]
 generalize hd : (decide (old ≠ []) && ((entO t x old).Key != (entO t x now).Key)) = del
 simp only
 refine bo (a := (p4 ++ (if del = true then [toR (opS x.Tree (msgS 2 (entO t x old).Key []))] else []), p5 ++ (if del = true ∧ x.Ready = true then [ownS x.Tree (entO t x old).Key] else []))) ?_ ?_
 ·refine bo (a := del) ?_ ?_
  ·rw [emp, len_int, ← hd]
   by_cases k : old = []
   ·subst k; rfl
   ·rw [bif_decT k, decide_eq_true k, Bool.true_and]
    by_cases k2 : now = []
    ·rw [show now.isEmpty = true by simpa using k2, cond_true]
     congr 1
     have := one now old k2 k
     simpa using this.symm
    ·rw [show now.isEmpty = false by simpa using k2, cond_false]
  cases del with
  | false => simp
  | true =>
   rw [cond_true, rop2 _ _ _ _ _ _ _ (by omega), bind_some']
   cases x.Ready with
   | false => simp [toR, opS, msgS]
   | true => rw [cond_true, rown2 _ _ _ _ _ (by omega) (by omega), bind_some']; simp [toR, opS, msgS, ownS, ptS]
 show (bif ((now.length : Int) == 0) then _ else _) = _
 rw [len_int]
 by_cases k : now = []
 ·rw [show now.isEmpty = true by simpa using k, cond_true, if_pos k]
  cases del <;> simp
 rw [show now.isEmpty = false by simpa using k, cond_false, if_neg k]
 have l4 : (p4 ++ (if del = true then [toR (opS x.Tree (msgS 2 (entO t x old).Key []))] else [])).length ≤ 910 := by rw [List.length_append]; split <;> simp <;> omega
 have l5 : (p5 ++ (if del = true ∧ x.Ready = true then [ownS x.Tree (entO t x old).Key] else [])).length ≤ 910 := by rw [List.length_append]; split <;> simp <;> omega
 have m4 : (if del = true then [opS x.Tree (msgS 2 (entO t x old).Key [])] else []).map toR = (if del = true then [toR (opS x.Tree (msgS 2 (entO t x old).Key []))] else []) := by cases del <;> rfl
 rw [rop2 _ _ _ _ _ _ _ (Nat.le_trans l4 (by omega)), bind_some']
 cases hr : x.Ready with
 | false =>
  simp only [Bool.not_false, cond_true, Bool.false_eq_true, and_false, false_and, if_false, List.map_append, m4, List.append_nil, List.map_nil]
  rw [List.append_assoc]
  rfl
 | true =>
 rw [hr] at l5
 rw [Bool.not_true, cond_false, rown2 _ _ _ _ _ (by omega) (Nat.le_trans l5 (by omega)), bind_some', ref17_Front_eq t x now (side now hn k) rx, bind_some']
 have fe : keyS now x.Parts = frontO x now := by unfold frontO; rw [if_neg k]
 have ne : nullS now x.Parts = nullO x now := by unfold nullO; rw [if_neg k]
 show Option.bind (α := Bool) (bif x.Unique then bif (!nullS now x.Parts) then bif ((old.length : Int) == 0) then some true else some (frontO x old != keyS now x.Parts) else some false else some false) _ = _
 rw [fe, ne]
 generalize hu : decide ((true : Bool) = true ∧ x.Unique = true ∧ nullO x now = false ∧ ¬ (old ≠ [] ∧ frontO x old = frontO x now)) = u
 refine bo (a := u) ?_ ?_
 ·rw [← hu]
  cases x.Unique with
  | false => simp
  | true =>
   cases nullO x now with
   | true => simp
   | false =>
    simp only [cond_true, Bool.not_false, true_and]
    rw [len_int]
    by_cases k2 : old = []
    ·rw [show old.isEmpty = true by simpa using k2]; simp [k2]
    ·rw [show old.isEmpty = false by simpa using k2, cond_false]
     congr 1
     by_cases k3 : frontO x old = frontO x now
     ·simp [k3, k2]
     ·simp [k3, k2]
 cases u with
 | false =>
  rw [cond_false, if_neg (of_decide_eq_false hu), if_pos (rfl : (true : Bool) = true)]
  refine congrArg some (Prod.ext ?_ (Prod.ext ?_ ?_))
  ·show (p4 ++ _) ++ [_] = p4 ++ List.map toR (_ ++ _)
   rw [List.map_append, m4, List.append_assoc]; rfl
  ·show (p5 ++ _) ++ [_] = p5 ++ (_ ++ _)
   rw [List.append_assoc]; rfl
  ·show p6 = p6 ++ List.map toP []
   simp
 | true =>
  rw [cond_true, if_pos (of_decide_eq_true hu), if_pos (rfl : (true : Bool) = true)]
  show Option.bind (ref07_Under (frontO x now)) _ = _
  rw [ref07_Under_eq _ (by omega), bind_some', bif_decT (by rw [room_val]; have := l5; simp only [List.length_append, List.length_cons, List.length_nil] at this ⊢; omega), bind_some', bif_decT (by rw [room_val]; simp only [List.length_cons, List.length_nil]; omega)]
  refine congrArg some (Prod.ext ?_ (Prod.ext ?_ ?_))
  ·show (p4 ++ _) ++ [_] = p4 ++ List.map toR (_ ++ _)
   rw [List.map_append, m4, List.append_assoc]; rfl
  ·show ((p5 ++ _) ++ [_]) ++ [_] = p5 ++ ((_ ++ _) ++ _)
   rw [List.append_assoc p5, List.append_assoc p5]; rfl
  ·rfl
theorem eqlp {α : Type} [DecidableEq α] (a b : List α) (eq : α → α → Bool) (heq : ∀ x y, eq x y = decide (x = y)) (hl : a.length = b.length) {B : Int → Option (Int ⊕ (Unit ⊕ Bool))}
  (h : ∀ i (h1 : i < a.length) (h2 : i < b.length), B (i : Int) = some (if eq a[i] b[i] = true then .inl ((i + 1 : Nat) : Int) else .inr (.inr false))) (he : B (a.length : Int) = some (.inr (.inl ()))) :
  loop B 0 = some (if a = b then .inl () else .inr false) := by
 have z : (a.zip b).length = a.length := by simp [hl]
 refine (lq3 (a.zip b) (fun p => !eq p.1 p.2) (.inr false) (.inl ()) (fun i => (i : Int)) (fun i hi => ?_) ?_ rfl).trans ?_
 ·rw [h i (by omega) (by omega), List.getElem_zip]
  cases eq a[i] b[i] <;> rfl
 ·rw [z]; exact he
 ·have key : ((a.zip b).any fun p => !eq p.1 p.2) = !decide (a = b) := by
   by_cases q : a = b
   ·subst q
    rw [decide_eq_true rfl, Bool.not_true, List.any_eq_false]
    intro p hp
    obtain ⟨i, hi, rfl⟩ := List.mem_iff_getElem.1 hp
    rw [List.getElem_zip, heq]; simp
   ·rw [decide_eq_false q, Bool.not_false, List.any_eq_true]
    have : ∃ i, ∃ h1 : i < a.length, ∃ h2 : i < b.length, a[i] ≠ b[i] := Decidable.byContradiction fun hn => q (List.ext_getElem hl fun i h1 h2 => Decidable.byContradiction fun hne => hn ⟨i, h1, h2, hne⟩)
    obtain ⟨i, h1, h2, hne⟩ := this
    refine ⟨(a[i], b[i]), List.mem_iff_getElem.2 ⟨i, by omega, by rw [List.getElem_zip]⟩, ?_⟩
    rw [heq, decide_eq_false hne]; rfl
  rw [key]
  by_cases q : a = b <;> simp [q]
theorem raw_Ints_eq (a b : List Int) (h : a.length < 4611686018427387904) : raw_Ints a b = some (decide (a = b)) := by
 unfold raw_Ints
 rw [nat_ne]
 by_cases hl : a.length = b.length
 rotate_left
 ·rw [show (a.length != b.length) = true by simpa using hl, cond_true, decide_eq_false (fun e => hl (by rw [e]))]
 rw [show (a.length != b.length) = false by simpa using hl, cond_false]
 refine lpE (eqlp a b (fun x y => x == y) (fun x y => by simp [Bool.beq_eq_decide_eq]) hl (fun i h1 h2 => ?_) ?_) (by by_cases q : a = b <;> simp [q])
 ·show (bif _ then _ else _) = _
  rw [bif_decT (by omega), getI_at h1, bind_some', getI_at h2, bind_some', w64_succ (by omega)]
  by_cases k : a[i] = b[i]
  ·rw [show (a[i] != b[i]) = false by simpa using k, if_pos (by simpa using k)]; rfl
  ·rw [show (a[i] != b[i]) = true by simpa using k, if_neg (by simpa using k)]; rfl
 ·show (bif _ then _ else _) = _
  rw [bif_decF (by omega)]
theorem eqCol (a b : ApiColumn) : eqApiColumn a b = decide (a = b) := by
 cases a; cases b
 simp only [eqApiColumn, ApiColumn.mk.injEq, eqV]
 rw [Bool.eq_iff_iff]
 simp
theorem eqPart (a b : ApiPart) : eqApiPart a b = decide (a = b) := by
 cases a; cases b
 simp only [eqApiPart, ApiPart.mk.injEq]
 rw [Bool.eq_iff_iff]
 simp
def sameX (a b : ApiIndex) : Bool := decide (a = b)
theorem ref17_Same_eq (a b : ApiTable) (h : OkT a) : ref17_Same a b = some (decide (a = b)) := by
 unfold ref17_Same
 have hcl := h.cols.1
 refine bo (a := !decide (a.Name = b.Name ∧ a.Tree = b.Tree ∧ a.Cols.length = b.Cols.length ∧ a.Primary = b.Primary ∧ a.Indexes.length = b.Indexes.length)) ?_ ?_
 ·by_cases h1 : a.Name = b.Name
  rotate_left
  ·rw [show (a.Name != b.Name) = true by simpa using h1]; simp [h1]
  rw [show (a.Name != b.Name) = false by simpa using h1, cond_false]
  by_cases h2 : a.Tree = b.Tree
  rotate_left
  ·rw [show (a.Tree != b.Tree) = true by simpa using h2]; simp [h2]
  rw [show (a.Tree != b.Tree) = false by simpa using h2, cond_false, nat_ne]
  by_cases h3 : a.Cols.length = b.Cols.length
  rotate_left
  ·rw [show (a.Cols.length != b.Cols.length) = true by simpa using h3]; simp [h3]
  rw [show (a.Cols.length != b.Cols.length) = false by simpa using h3, cond_false, raw_Ints_eq _ _ h.prim, bind_some']
  by_cases h4 : a.Primary = b.Primary
  rotate_left
  ·rw [decide_eq_false h4]; simp [h4]
  rw [decide_eq_true h4, Bool.not_true, cond_false, nat_ne]
  by_cases h5 : a.Indexes.length = b.Indexes.length
  ·simp [h1, h2, h3, h4, h5]
  ·rw [show (a.Indexes.length != b.Indexes.length) = true by simpa using h5]; simp [h5]
 by_cases q : a.Name = b.Name ∧ a.Tree = b.Tree ∧ a.Cols.length = b.Cols.length ∧ a.Primary = b.Primary ∧ a.Indexes.length = b.Indexes.length
 rotate_left
 ·rw [decide_eq_false q, Bool.not_false, cond_true, decide_eq_false (fun e => q (by rw [e]; simp))]
 rw [decide_eq_true q, Bool.not_true, cond_false]
 obtain ⟨q1, q2, q3, q4, q5⟩ := q
 refine lpE (eqlp a.Cols b.Cols eqApiColumn eqCol q3 (fun i h1 h2 => ?_) ?_) ?_
 ·show (bif _ then _ else _) = _
  rw [bif_decT (by omega), getI_at h1, bind_some', getI_at h2, bind_some', w64_succ (by omega)]
  cases eqApiColumn a.Cols[i] b.Cols[i] <;> rfl
 ·show (bif _ then _ else _) = _
  rw [bif_decF (by omega)]
 by_cases e1 : a.Cols = b.Cols
 rotate_left
 ·rw [if_neg e1, decide_eq_false (fun e => e1 (by rw [e]))]; rfl
 rw [if_pos e1, Sum.elim_inl]
 have hil := h.idxs
 refine lpE (eqlp a.Indexes b.Indexes sameX (fun x y => rfl) q5 (fun i h1 h2 => ?_) ?_) ?_
 ·have hm := h.idx _ (List.getElem_mem h1)
  show (bif _ then _ else _) = _
  rw [bif_decT (by omega), getI_at h1, getI_at h2, w64_succ (by omega)]
  generalize hx : a.Indexes[i] = x at hm ⊢
  generalize hy : b.Indexes[i] = y
  obtain ⟨m1, m2, m3⟩ := hm
  have key : ∀ (o : Option (Unit ⊕ Bool)), o = some (if sameX x y = true then .inl () else .inr false) → bindE o (fun _ => some (Sum.inl ((i + 1 : Nat) : Int))) (fun e => some (Sum.inr (Sum.inr e))) = some (if sameX x y = true then .inl ((i + 1 : Nat) : Int) else .inr (.inr false) : Int ⊕ (Unit ⊕ Bool)) := by
   intro o ho
   subst ho
   cases sameX x y <;> rfl
  refine key _ ?_
  rw [bind_some', bind_some']
  refine bo (a := !decide (x.Name = y.Name ∧ x.Unique = y.Unique ∧ x.Ready = y.Ready ∧ x.Tree = y.Tree ∧ x.Extra = y.Extra ∧ x.Parts.length = y.Parts.length)) ?_ ?_
  ·by_cases k1 : x.Name = y.Name
   rotate_left
   ·rw [show (x.Name != y.Name) = true by simpa using k1]; simp [k1]
   rw [show (x.Name != y.Name) = false by simpa using k1, cond_false]
   by_cases k2 : x.Unique = y.Unique
   rotate_left
   ·rw [show (x.Unique != y.Unique) = true by simpa using k2]; simp [k2]
   rw [show (x.Unique != y.Unique) = false by simpa using k2, cond_false]
   by_cases k3 : x.Ready = y.Ready
   rotate_left
   ·rw [show (x.Ready != y.Ready) = true by simpa using k3]; simp [k3]
   rw [show (x.Ready != y.Ready) = false by simpa using k3, cond_false]
   by_cases k4 : x.Tree = y.Tree
   rotate_left
   ·rw [show (x.Tree != y.Tree) = true by simpa using k4]; simp [k4]
   rw [show (x.Tree != y.Tree) = false by simpa using k4, cond_false, raw_Ints_eq _ _ m3, bind_some']
   by_cases k5 : x.Extra = y.Extra
   rotate_left
   ·rw [decide_eq_false k5]; simp [k5]
   rw [decide_eq_true k5, Bool.not_true, cond_false, nat_ne]
   by_cases k6 : x.Parts.length = y.Parts.length
   ·simp [k1, k2, k3, k4, k5, k6]
   ·rw [show (x.Parts.length != y.Parts.length) = true by simpa using k6]; simp [k6]
  by_cases k : x.Name = y.Name ∧ x.Unique = y.Unique ∧ x.Ready = y.Ready ∧ x.Tree = y.Tree ∧ x.Extra = y.Extra ∧ x.Parts.length = y.Parts.length
  rotate_left
  ·rw [decide_eq_false k, Bool.not_false, cond_true, sameX, decide_eq_false (fun e => k (by rw [e]; simp))]; rfl
  rw [decide_eq_true k, Bool.not_true, cond_false]
  obtain ⟨k1, k2, k3, k4, k5, k6⟩ := k
  refine lpE' (eqlp x.Parts y.Parts eqApiPart eqPart k6 (fun j j1 j2 => ?_) ?_) ?_
  ·show (bif _ then _ else _) = _
   rw [bif_decT (by omega), getI_at j1, bind_some', getI_at j2, bind_some', w64_succ (by omega)]
   cases eqApiPart x.Parts[j] y.Parts[j] <;> rfl
  ·show (bif _ then _ else _) = _
   rw [bif_decF (by omega)]
  ·have : sameX x y = decide (x.Parts = y.Parts) := by
    unfold sameX
    refine decI ⟨fun e => by rw [e], fun e => ?_⟩
    cases x; cases y; simp_all
   rw [this]
   by_cases p : x.Parts = y.Parts <;> simp [p]
 ·show (bif _ then _ else _) = _
  rw [bif_decF (by omega)]
 ·by_cases e2 : a.Indexes = b.Indexes
  ·rw [if_pos e2, decide_eq_true]; · rfl
   cases a; cases b; simp_all
  ·rw [if_neg e2, decide_eq_false (fun e => e2 (by rw [e]))]; rfl
theorem eqLock (a b : ApiLock) : eqApiLock a b = decide (a = b) := by
 cases a; cases b
 simp only [eqApiLock, ApiLock.mk.injEq]
 rw [Bool.eq_iff_iff]
 rename_i s1 p1 o1 s2 p2 o2
 cases p1; cases p2
 simp [eqApiSpan]
theorem raw_Locks_eq (a b : List ApiLock) (h : a.length < 4611686018427387904) : raw_Locks a b = some (decide (a = b)) := by
 unfold raw_Locks
 rw [nat_ne]
 by_cases hl : a.length = b.length
 rotate_left
 ·rw [show (a.length != b.length) = true by simpa using hl, cond_true, decide_eq_false (fun e => hl (by rw [e]))]
 rw [show (a.length != b.length) = false by simpa using hl, cond_false]
 refine lpE (eqlp a b eqApiLock eqLock hl (fun i h1 h2 => ?_) ?_) (by by_cases q : a = b <;> simp [q])
 ·show (bif _ then _ else _) = _
  rw [bif_decT (by omega), getI_at h1, bind_some', getI_at h2, bind_some', w64_succ (by omega)]
  cases eqApiLock a[i] b[i] <;> rfl
 ·show (bif _ then _ else _) = _
  rw [bif_decF (by omega)]
theorem eqMsg_refl (a : ApiMsg) : eqApiMsg a a = true := by simp [eqApiMsg]
theorem eqSpan_refl (a : ApiSpan) : eqApiSpan a a = true := by simp [eqApiSpan]
theorem same_eq (o : List ForestOp) (l : List ApiLock) (p : List FanProbe) (h1 : o.length ≤ 1000) (h2 : l.length ≤ 1000) (h3 : p.length ≤ 1000) : law19_same ⟨o, l, p⟩ ⟨o.map toR, l, p.map toP⟩ = some true := by
 unfold law19_same
 refine bo (a := false) ?_ ?_
 ·show (bif ((o.length : Int) != ((o.map toR).length : Int)) then _ else Option.bind (raw_Locks l l) _) = _
  rw [nat_ne, List.length_map, show (o.length != o.length) = false by simp, cond_false, raw_Locks_eq _ _ (by omega), bind_some', decide_eq_true rfl]
  show some ((p.length : Int) != ((p.map toP).length : Int)) = _
  rw [nat_ne, List.length_map]; simp
 rw [cond_false]
 refine lpE (w := .inl ()) (lq1 (fun i => (i : Int)) o.length (fun i hi => ?_) ?_ rfl) ?_
 ·have hg : getI (o.map toR) (i : Int) = some (toR o[i]) := by rw [getI_nat]; simp [hi]
  show (bif (decide ((i : Int) < (o.length : Int))) then Option.bind (Option.bind (getI o (i : Int)) fun v => Option.bind (getI (o.map toR) (i : Int)) _) _ else _) = _
  rw [bif_decT (by omega), getI_at hi, hg, w64_succ (by omega)]
  refine bo (a := false) ?_ rfl
  simp only [bind_some']
  rw [show (o[i].Kind != (toR o[i]).Kind) = false by simp [toR], cond_false, show (o[i].Tree != (toR o[i]).Tree) = false by simp [toR], cond_false]
  show some (!eqApiMsg o[i].Msg o[i].Msg) = _
  rw [eqMsg_refl]; rfl
 ·show (bif (decide ((o.length : Int) < (o.length : Int))) then _ else _) = _
  rw [bif_decF (by omega)]
 rw [Sum.elim_inl]
 refine lpE (w := .inl ()) (lq1 (fun i => (i : Int)) p.length (fun i hi => ?_) ?_ rfl) rfl
 ·have hg : getI (p.map toP) (i : Int) = some (toP p[i]) := by rw [getI_nat]; simp [hi]
  show (bif (decide ((i : Int) < (p.length : Int))) then Option.bind (Option.bind (getI p (i : Int)) fun v => Option.bind (getI (p.map toP) (i : Int)) _) _ else _) = _
  rw [bif_decT (by omega), getI_at hi, hg, w64_succ (by omega)]
  refine bo (a := false) ?_ rfl
  simp only [bind_some']
  rw [show (p[i].Tree != (toP p[i]).Tree) = false by simp [toP], cond_false]
  show some (!eqApiSpan p[i].Span p[i].Span) = _
  rw [eqSpan_refl]; rfl
 ·show (bif (decide ((p.length : Int) < (p.length : Int))) then _ else _) = _
  rw [bif_decF (by omega)]
theorem built_eq (b : List FanBuilt) (h : b.length * 24 ≤ 140737488351232) : law19_built b = some (b.map toB) := by
 unfold law19_built
 refine lpA (w := b.map toB) (lq1 (fun i => ((b.take i).map toB, (i : Int))) b.length (fun i hi => ?_) ?_ rfl) rfl
 ·show (bif _ then _ else _) = _
  rw [bif_decT (by omega), getI_at hi, bind_some', bind_some', bif_decT (by rw [room_val]; simp; omega), w64_succ (by omega), map_ts _ _ hi]
  rfl
 ·show (bif _ then _ else _) = _
  rw [bif_decF (by omega), List.take_length]
theorem ref_loop (t : ApiTable) (b : List FanBuilt) (old now : List ApiValue) (p : List UInt8) (o0 : ForestOp) (l0 : ApiLock) (r : Right t) (hb : b.length = t.Indexes.length) (ho : Side t old) (hn : Side t now) (hne : old ≠ [] ∨ now ≠ [])
  {B : Int × List Granaryref14Op × List ApiLock × List Granaryref19Probe → Option ((Int × List Granaryref14Op × List ApiLock × List Granaryref19Probe) ⊕ (List Granaryref14Op × List ApiLock × List Granaryref19Probe))}
  (hB : ∀ (i : Nat) (hi : i < t.Indexes.length) (v : List Granaryref14Op × List ApiLock × List Granaryref19Probe), B ((i : Int), v) = Option.bind (Option.bind (getI (b.map toB) (i : Int)) fun v546 => Option.bind (ref19_Kept (t.Indexes[i]'hi) v546 p) fun r547 =>
   bif r547 then Option.bind (ref19_Work_index_1 t (t.Indexes[i]'hi) old now v.1 v.2.1 v.2.2) fun x => some (x.1, x.2.1, x.2.2) else some (v.1, v.2.1, v.2.2)) fun x => some (Sum.inl (((i + 1 : Nat) : Int), x.1, x.2.1, x.2.2)))
  (he : ∀ v, B ((t.Indexes.length : Int), v) = some (.inr v)) :
  loop B ((0 : Int), [toR o0], [l0], []) = some (((t.Indexes.zip b).foldl (stepS t old now p) ([o0], [l0], [])).1.map toR, ((t.Indexes.zip b).foldl (stepS t old now p) ([o0], [l0], [])).2.1, ((t.Indexes.zip b).foldl (stepS t old now p) ([o0], [l0], [])).2.2.map toP) := by
 have z : (t.Indexes.zip b).length = t.Indexes.length := by simp [hb]
 have l6 := r.ixs
 refine lq1 (fun i => ((i : Int), (((t.Indexes.zip b).take i).foldl (stepS t old now p) ([o0], [l0], [])).1.map toR, (((t.Indexes.zip b).take i).foldl (stepS t old now p) ([o0], [l0], [])).2.1, (((t.Indexes.zip b).take i).foldl (stepS t old now p) ([o0], [l0], [])).2.2.map toP)) t.Indexes.length (fun i hi => ?_) ?_ rfl
 ·rw [hB i hi, fold_take _ _ _ _ (by omega)]
  generalize hw : ((t.Indexes.zip b).take i).foldl (stepS t old now p) ([o0], [l0], []) = v
  have sl := step_len t old now p ((t.Indexes.zip b).take i) ([o0], [l0], [])
  rw [hw] at sl
  simp only [List.length_cons, List.length_nil] at sl
  have tl : ((t.Indexes.zip b).take i).length ≤ 6 := by rw [List.length_take]; omega
  refine bo (a := ((stepS t old now p v (t.Indexes.zip b)[i]).1.map toR, (stepS t old now p v (t.Indexes.zip b)[i]).2.1, (stepS t old now p v (t.Indexes.zip b)[i]).2.2.map toP)) ?_ rfl
  rw [List.getElem_zip, getI_nat, List.getElem?_map, List.getElem?_eq_getElem (show i < b.length by omega), Option.map_some, bind_some']
  refine bo (a := keepS t.Indexes[i] b[i] p) ?_ ?_
  ·unfold ref19_Kept keepS
   cases (t.Indexes[i]).Ready with
   | true => rfl
   | false =>
    rw [cond_false, toB]
    cases b[i].Any <;> rfl
  ·unfold stepS
   cases hk : keepS t.Indexes[i] b[i] p with
   | false => simp
   | true =>
    simp only [if_true, cond_true]
    rw [refindex_eq t _ old now _ _ _ r (RightX.of (r.idx _ (List.getElem_mem hi))) ho hn hne (by rw [List.length_map]; omega) (by omega) (by rw [List.length_map]; omega), bind_some']
    simp [app3]
 ·rw [he, List.take_of_length_le (by omega)]
theorem ref19_Change_eq (t : ApiTable) (b : List FanBuilt) (old now : List ApiValue) (hc : OkCs t.Cols) (r : Right t) (ho : OkVs old) (hn : OkVs now) :
  ref19_Change t (b.map toB) old now = some ((chgS t b old now).1, (chgS t b old now).2.1.map toR, (chgS t b old now).2.2.1, (chgS t b old now).2.2.2.map toP) := by
 unfold ref19_Change chgS
 refine bo (a := decide (b.length ≠ t.Indexes.length ∨ (old = [] ∧ now = []))) ?_ ?_
 ·rw [List.length_map, len_ne]
  by_cases k : b.length = t.Indexes.length
  ·rw [bif_decF (by simpa using k), len_int, len_int]
   simp only [k, ne_eq, not_true_eq_false, false_or]
   cases old <;> cases now <;> simp
  ·rw [bif_decT k]; simp [k]
 by_cases q : b.length ≠ t.Indexes.length ∨ (old = [] ∧ now = [])
 ·rw [bif_decT q, if_pos q]; rfl
 rw [bif_decF q, if_neg q]
 -- the two sides
 have first : ∀ {B : List UInt8 × Int → Option ((List UInt8 × Int) ⊕ ((List UInt8) ⊕ (Int × (List Granaryref14Op) × (List ApiLock) × (List Granaryref19Probe))))},
   (∀ y, B (y, 0) = some (if old ≠ [] ∧ fitsS t.Cols old ≠ 0 then .inr (.inr (fitsS t.Cols old, [], [], [])) else .inl (if old = [] then y else primS t old, 1))) →
   (∀ y, B (y, 1) = some (if now ≠ [] ∧ fitsS t.Cols now ≠ 0 then .inr (.inr (fitsS t.Cols now, [], [], [])) else .inl (if now = [] then y else primS t now, 2))) →
   (∀ y, B (y, 2) = some (.inr (.inl y))) →
   loop B ([], 0) = some (if old ≠ [] ∧ fitsS t.Cols old ≠ 0 then .inr (fitsS t.Cols old, [], [], []) else if now ≠ [] ∧ fitsS t.Cols now ≠ 0 then .inr (fitsS t.Cols now, [], [], []) else .inl (if now = [] then (if old = [] then [] else primS t old) else primS t now)) := by
  intro B h0 h1 h2
  by_cases q1 : old ≠ [] ∧ fitsS t.Cols old ≠ 0
  ·have := h0 []
   rw [if_pos q1] at this ⊢
   exact loop_end this
  ·have := h0 []
   rw [if_neg q1] at this ⊢
   rw [loop_step this]
   by_cases q2 : now ≠ [] ∧ fitsS t.Cols now ≠ 0
   ·have := h1 (if old = [] then [] else primS t old)
    rw [if_pos q2] at this ⊢
    exact loop_end this
   ·have := h1 (if old = [] then [] else primS t old)
    rw [if_neg q2] at this ⊢
    rw [loop_step this]
    exact loop_end (h2 _)
 have one : ∀ (l : List ApiValue) (y : List UInt8), OkVs l → (bif ((l.length : Int) == (0 : Int)) then (some (Sum.inl y) : Option ((List UInt8) ⊕ (Int × (List Granaryref14Op) × (List ApiLock) × (List Granaryref19Probe)))) else Option.bind (ref08_Fits t.Cols l) fun r373 => bif (r373 != (0 : Int)) then some (Sum.inr (r373, [], [], [])) else Option.bind (ref17_Primary t l) fun r375 => some (Sum.inl r375)) =
   some (if l ≠ [] ∧ fitsS t.Cols l ≠ 0 then .inr (fitsS t.Cols l, [], [], []) else .inl (if l = [] then y else primS t l)) := by
  intro l y hl
  rw [len_int]
  by_cases k : l = []
  ·subst k; rfl
  rw [show l.isEmpty = false by simpa using k, cond_false, ref08_Fits_eq _ _ hc hl, bind_some']
  by_cases k2 : fitsS t.Cols l = 0
  ·rw [show (fitsS t.Cols l != 0) = false by simpa using k2, cond_false, ref17_Primary_eq t l (Fit.of k2) r, bind_some', if_neg (fun h => h.2 k2), if_neg k]; rfl
  ·rw [show (fitsS t.Cols l != 0) = true by simpa using k2, cond_true, if_pos ⟨k, k2⟩]
 refine lpE (first (fun y => ?_) (fun y => ?_) (fun y => ?_)) ?_
 ·show (bif _ then _ else _) = _
  rw [bif_decT (by decide)]
  rw [show ((0 : Int) == 1) = false from rfl, cond_false, bind_some']
  refine (congrArg (fun o => bindE o _ _) (one old y ho)).trans ?_
  by_cases k : old ≠ [] ∧ fitsS t.Cols old ≠ 0
  ·rw [if_pos k, if_pos k]; rfl
  ·rw [if_neg k, if_neg k]; rfl
 ·show (bif _ then _ else _) = _
  rw [bif_decT (by decide)]
  rw [show ((1 : Int) == 1) = true from rfl, cond_true, bind_some']
  refine (congrArg (fun o => bindE o _ _) (one now y hn)).trans ?_
  by_cases k : now ≠ [] ∧ fitsS t.Cols now ≠ 0
  ·rw [if_pos k, if_pos k]; rfl
  ·rw [if_neg k, if_neg k]; rfl
 ·show (bif _ then _ else _) = _
  rw [bif_decF (by decide)]
 by_cases q1 : old ≠ [] ∧ fitsS t.Cols old ≠ 0
 ·rw [if_pos q1, if_pos q1]; rfl
 rw [if_neg q1, if_neg q1]
 by_cases q2 : now ≠ [] ∧ fitsS t.Cols now ≠ 0
 ·rw [if_pos q2, if_pos q2]; rfl
 rw [if_neg q2, if_neg q2, Sum.elim_inl]
 have so : Side t old := ⟨ho, fun k => Decidable.byContradiction fun h => q1 ⟨k, h⟩⟩
 have sn : Side t now := ⟨hn, fun k => Decidable.byContradiction fun h => q2 ⟨k, h⟩⟩
 rw [not_or] at q
 have hx : old ≠ [] ∨ now ≠ [] := by
  by_cases k : old = []
  ·exact .inr fun k2 => q.2 ⟨k, k2⟩
  ·exact .inl k
 have hp : (if now = [] then (if old = [] then [] else primS t old) else primS t now) = priO t old now := by
  unfold priO
  by_cases k : now = []
  ·rw [if_pos k, if_pos k, if_neg (by simpa [k] using hx)]
  ·rw [if_neg k, if_neg k]
 rw [hp]
 have hpr : (priO t old now).length ≤ 128 := by
  unfold priO
  by_cases k : now = []
  ·rw [if_pos k]; exact prim_short (Fit.of (so.2 (by simpa [k] using hx))) r
  ·rw [if_neg k]; exact prim_short (Fit.of (sn.2 k)) r
 refine bo (a := decide (now ≠ [] ∧ old ≠ [] ∧ primS t old ≠ primS t now)) ?_ ?_
 ·rw [emp, emp]
  by_cases k : old = []
  ·rw [bif_decF (by simpa using k)]; simp [k]
  rw [bif_decT k]
  by_cases k2 : now = []
  ·rw [bif_decF (by simpa using k2)]; simp [k2]
  rw [bif_decT k2, ref17_Primary_eq t old (Fit.of (so.2 k)) r, bind_some']
  have : priO t old now = primS t now := by unfold priO; rw [if_neg k2]
  rw [this]
  congr 1
  show (primS t old != primS t now) = _
  simp [k, k2, bne, Bool.beq_eq_decide_eq]
 by_cases q3 : now ≠ [] ∧ old ≠ [] ∧ primS t old ≠ primS t now
 ·rw [bif_decT q3, if_pos q3]; rfl
 rw [bif_decF q3, if_neg q3]
 generalize priO t old now = p at hpr ⊢
 refine bo (a := ()) ?_ ?_
 ·unfold ref19_Work_own
  rw [RPoint_eq _ (by omega), bind_some', bif_decT (by rw [room_val]; simp only [List.length_cons, List.length_nil]; omega)]
 refine bo (a := decide (old = now)) ?_ ?_
 ·unfold ref08_Same
  rw [raw_Values_eq _ _ ho.1, bind_some']
 by_cases q4 : old = now
 ·rw [bif_decT q4, if_pos q4]; rfl
 rw [bif_decF q4, if_neg q4]
 refine bo (a := [toR (rowOp t now p)]) ?_ ?_
 ·rw [len_int]
  by_cases k : now = []
  ·rw [show now.isEmpty = true by simpa using k, cond_true]
   refine bo (a := ()) ?_ ?_
   ·unfold ref19_Work_op
    rw [bif_decT (by rw [room_val]; simp only [List.length_cons, List.length_nil]; omega)]
   ·rw [rowOp, if_pos k]; rfl
  ·have hf := Fit.of (sn.2 k)
   rw [show now.isEmpty = false by simpa using k, cond_false, ref08_Bytes_eq _ hf.short (by have := hf.num; rw [hf.len]; omega), bind_some']
   refine bo (a := ()) ?_ ?_
   ·unfold ref19_Work_op
    rw [bif_decT (by rw [room_val]; simp only [List.length_cons, List.length_nil]; omega)]
   ·rw [rowOp, if_neg k]; rfl
 refine lpA (ref_loop t b old now p (rowOp t now p) (ownS t.Tree p) r (by simpa using q.1) so sn hx (fun i hi v => ?_) (fun v => ?_)) rfl
 ·have li := r.ixs
  show (bif _ then _ else _) = _
  rw [bif_decT (by omega), getI_at hi, w64_succ (by omega)]
  rfl
 ·show (bif _ then _ else _) = _
  rw [bif_decF (by omega)]
def tA : ApiTable := (ApiTable.mk ([97] : List UInt8) [(ApiColumn.mk ([105, 100] : List UInt8) (1 : Int) (0 : Int) false (ApiValue.mk (1 : Int) (0 : UInt64) ([] : List UInt8))), (ApiColumn.mk ([110] : List UInt8) (1 : Int) (0 : Int) false (ApiValue.mk (1 : Int) (0 : UInt64) ([] : List UInt8)))] [(0 : Int)] [(ApiIndex.mk ([120] : List UInt8) [(ApiPart.mk (1 : Int) false)] ([] : List Int) true true (3 : Int))] (2 : Int))
theorem tA_right : Right tA := Right.of (by decide +kernel)
theorem awake_eq : law19_awake = some true := by
 unfold law19_awake
 rw [bif_decT (by decide)]
 have hc : OkCs tA.Cols := ⟨by decide, by
  intro c hc
  simp only [tA, List.mem_cons, List.not_mem_nil, or_false] at hc
  rcases hc with rfl | rfl <;> exact ⟨by decide, by decide⟩⟩
 have hv : OkVs [(ApiValue.mk (1 : Int) (1 : UInt64) ([] : List UInt8)), (ApiValue.mk (1 : Int) (2 : UInt64) ([] : List UInt8))] := ⟨by decide, by
  intro c hc
  simp only [List.mem_cons, List.not_mem_nil, or_false] at hc
  rcases hc with rfl | rfl <;> decide⟩
 have e := fan_Change_eq tA (List.replicate (1 : Int).toNat (FanBuilt.mk ([] : List UInt8) false)) [] _ hc tA_right ⟨by decide, by simp⟩ hv
 refine bo e ?_
 have key : (chgS tA (List.replicate (1 : Int).toNat (FanBuilt.mk ([] : List UInt8) false)) [] [(ApiValue.mk (1 : Int) (1 : UInt64) ([] : List UInt8)), (ApiValue.mk (1 : Int) (2 : UInt64) ([] : List UInt8))]).1 = 0 ∧ (chgS tA (List.replicate (1 : Int).toNat (FanBuilt.mk ([] : List UInt8) false)) [] [(ApiValue.mk (1 : Int) (1 : UInt64) ([] : List UInt8)), (ApiValue.mk (1 : Int) (2 : UInt64) ([] : List UInt8))]).2.1.length = 2 ∧
  (chgS tA (List.replicate (1 : Int).toNat (FanBuilt.mk ([] : List UInt8) false)) [] [(ApiValue.mk (1 : Int) (1 : UInt64) ([] : List UInt8)), (ApiValue.mk (1 : Int) (2 : UInt64) ([] : List UInt8))]).2.2.1.length = 3 ∧ (chgS tA (List.replicate (1 : Int).toNat (FanBuilt.mk ([] : List UInt8) false)) [] [(ApiValue.mk (1 : Int) (1 : UInt64) ([] : List UInt8)), (ApiValue.mk (1 : Int) (2 : UInt64) ([] : List UInt8))]).2.2.2.length = 1 ∧
  ((chgS tA (List.replicate (1 : Int).toNat (FanBuilt.mk ([] : List UInt8) false)) [] [(ApiValue.mk (1 : Int) (1 : UInt64) ([] : List UInt8)), (ApiValue.mk (1 : Int) (2 : UInt64) ([] : List UInt8))]).2.1[1]?).map (·.Tree) = some 3 := by decide +kernel
 generalize chgS tA (List.replicate (1 : Int).toNat (FanBuilt.mk ([] : List UInt8) false)) [] [(ApiValue.mk (1 : Int) (1 : UInt64) ([] : List UInt8)), (ApiValue.mk (1 : Int) (2 : UInt64) ([] : List UInt8))] = w at key
 obtain ⟨a, o, l, p⟩ := w
 obtain ⟨h1, h2, h3, h4, h5⟩ := key
 simp only at h1 h2 h3 h4 h5
 show Option.bind (bif (a == 0) then bif ((o.length : Int) == 2) then bif ((l.length : Int) == 3) then bif ((p.length : Int) == 1) then _ else _ else _ else _ else _) _ = _
 rw [h1, h2, h3, h4]
 show Option.bind (Option.bind (getI o 1) _) _ = _
 rw [show getI o 1 = o[1]? from by simp [getI]]
 cases ho : o[1]? with
 | none => rw [ho] at h5; cases h5
 | some v =>
  rw [ho] at h5
  simp only [Option.map_some, Option.some.injEq] at h5
  rw [bind_some', h5, show ((3 : Int) == 3) = true from rfl, cond_true, Point_eq _ (by decide)]
  rfl
theorem Copy_eq (t : ApiTable) (r : Right t) : ref17_Copy t = some t.Indexes := by
 unfold ref17_Copy
 have h1 := r.len
 have h2 := r.pri
 have h3 := r.ixs
 rw [bif_decT (by rw [room_val]; simp; omega), bif_decT (by rw [room_val]; simp; omega)]
 refine lpA (w := t.Indexes) (lq1 (fun i => (t.Indexes.take i, (i : Int))) t.Indexes.length (fun i hi => ?_) ?_ rfl) rfl
 ·have rx := RightX.of (r.idx _ (List.getElem_mem hi))
  have k1 := rx.par
  have k2 := nodup_len rx.ext
  show (bif _ then _ else _) = _
  rw [bif_decT (by omega), getI_at hi, bind_some', bif_decT (by rw [room_val]; simp; omega), bif_decT (by rw [room_val]; simp; omega), bif_decT (by rw [room_val]; simp; omega), w64_succ (by omega), List.take_succ_eq_append_getElem hi]
  rfl
 ·show (bif _ then _ else _) = _
  rw [bif_decF (by omega), List.take_length]
theorem chg_len (t : ApiTable) (b : List FanBuilt) (old now : List ApiValue) (r : Right t) : (chgS t b old now).2.1.length ≤ 100 ∧ (chgS t b old now).2.2.1.length ≤ 100 ∧ (chgS t b old now).2.2.2.length ≤ 100 := by
 have li := r.ixs
 have z : (List.zip t.Indexes b).length ≤ 6 := by rw [List.length_zip]; omega
 have s := step_len t old now (priO t old now) (List.zip t.Indexes b) ([rowOp t now (priO t old now)], [ownS t.Tree (priO t old now)], [])
 unfold chgS
 repeat' split
 all_goals first | (simp; done) | (exact ⟨Nat.le_trans s.1 (by simp only [List.length_cons, List.length_nil]; omega), Nat.le_trans s.2.1 (by simp only [List.length_cons, List.length_nil]; omega), Nat.le_trans s.2.2 (by simp only [List.length_nil]; omega)⟩)
theorem FanChanges_true (t : ApiTable) (b : List FanBuilt) (old now : List ApiValue) (key : List UInt8) (ht : OkT t) (hb : b.length * 24 ≤ 140737488351232) (ho : OkVs old) (ho2 : old.length * 32 ≤ 140737488351232) (hn : OkVs now) (hn2 : now.length * 32 ≤ 140737488351232) (hk : key.length ≤ 140737488351232) : law19_FanChanges t b old now key = some true := by
 unfold law19_FanChanges
 refine bo (a := false) ?_ ?_
 ·rw [awake_eq, bind_some', Bool.not_true, cond_false, Point_eq _ hk, bind_some', RPoint_eq _ hk, bind_some', eqSpan_refl]; rfl
 rw [cond_false, ref17_Check_eq t ht, bind_some']
 by_cases hc : chkS t = 0
 rotate_left
 ·rw [show (chkS t != 0) = true by simpa using hc]; rfl
 rw [show (chkS t != 0) = false by simpa using hc, cond_false]
 have r := Right.of hc
 rw [Copy_eq t r, bind_some', bif_decT (by rw [room_val]; simp only [List.length_nil]; omega), bif_decT (by rw [room_val]; simp only [List.length_nil]; omega), bif_decT (by rw [room_val]; simp only [List.length_nil]; omega)]
 refine bo (fan_Change_eq t b old now ht.cols r ho hn) ?_
 have l := chg_len t b old now r
 have e := ref19_Change_eq t b old now ht.cols r ho hn
 generalize chgS t b old now = w at l e ⊢
 obtain ⟨a, o, lk, p⟩ := w
 simp only at l e
 show Option.bind (law19_built b) _ = _
 rw [built_eq b hb, bind_some', e, bind_some']
 refine bo (a := true) ?_ rfl
 show (bif (a == a) then Option.bind (law19_same ⟨o, lk, p⟩ ⟨o.map toR, lk, p.map toP⟩) _ else _) = _
 rw [BEq.rfl, cond_true, same_eq o lk p (by omega) (by omega) (by omega), bind_some', cond_true]
 refine bo (a := true) ?_ rfl
 exact (ref17_Same_eq t t ht).trans (by simp)
def num (l : List UInt8) : UInt64 := l.foldl (fun y b => shl64 y 8 ||| b.toUInt64) 0
end Lv
namespace Lv
open Go Go.Proofs
variable [BaseTab]
variable [BaseTab]
variable [BaseTab]
variable [BaseTab]
variable [BaseTab]
end Lv
namespace Lv
open Go
variable [BaseTab]
omit [BaseTab] in
theorem lenB12 {R k n : Nat} (hR : R ≤ 140737488355328) (hk : 0 < k) (h : n * k ≤ R) : n < 4611686018427387904 := by
 have h1 : n * 1 ≤ n * k := Nat.mul_le_mul_left _ hk
 omega
omit [BaseTab] in
theorem okVs12 {R k : Nat} (hR : R ≤ 140737488355328) (hk : 0 < k) {l : List ApiValue} (h : l.length * k ≤ R ∧ ∀ y ∈ l, okApiValue R y) : OkVs l := by
 refine ⟨lenB12 hR hk h.1, fun c hc => ?_⟩
 have := (h.2 c hc).2.2.1
 omega
omit [BaseTab] in
theorem okT12 {R : Nat} (hR : R ≤ 140737488355328) {t : ApiTable} (h : okApiTable R t) : OkT t := by
 obtain ⟨h1, h2, h3, h4, h5, _⟩ := h
 have q2 := h2.1
 have q3 := h3.1
 have q4 := h4.1
 refine ⟨by omega, ⟨by omega, fun c hc => ?_⟩, by omega, by omega, fun x hx => ?_⟩
 ·obtain ⟨k1, k2, k3, k4, k5, _⟩ := h2.2 c hc
  exact ⟨by omega, by have := k5.2.2.1; omega⟩
 ·obtain ⟨k1, k2, k3, _⟩ := h4.2 x hx
  have q2 := k2.1
  have q3 := k3.1
  exact ⟨by omega, by omega, by omega⟩
end Lv
