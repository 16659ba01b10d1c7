/- Part of the proof of a law. -/
import Derived.Test.YtddopjhkmkoicaaDoorXAll
import Derived.Test.YtddopjhkmkoicaaDoorGwPlain
import Derived.Lib.ValidLaws
import Derived.Test.YtddopjhkmkoicaaDoorGwQ
import Derived.Test.YtddopjhkmkoicaaDoorXOk
set_option linter.unusedVariables false
set_option linter.unusedSimpArgs false
set_option linter.unusedSectionVars false
set_option maxRecDepth 100000
namespace Lv
open Go Go.Proofs
variable [BaseTab]
def val (v : ApiValue) : Bool :=
 (v.Kind == 0 && (v.N == 0 && v.S == [])) || ((v.Kind == 1 || v.Kind == 2) && v.S == []) || (v.Kind == 3 && (decide (v.N < 2) && v.S == [])) ||
 (v.Kind == 4 && (v.N == 0 && decide (v.S.length ≤ 64))) || (v.Kind == 5 && (v.N == 0 && (decide (v.S.length ≤ 64) && Go.Lib.validD v.S)))
theorem value_Valid_eq (v : ApiValue) (h : v.S.length < 4611686018427387904) : value_Valid v = some (val v) := by
 have e1 : validF v.S = some (Go.Lib.validD v.S) := by unfold validF; rw [if_pos (by omega)]
 have e2 : ((v.S.length : Int) ≤ 64) = (v.S.length ≤ 64) := propext (by omega)
 have e3 : (v.N ≤ 1) = (v.N < 2) := propext (by rw [UInt64.le_iff_toNat_le, UInt64.lt_iff_toNat_lt]; show _ ≤ 1 ↔ _ < 2; omega)
 obtain ⟨K, N, S⟩ := v
 unfold value_Valid val
 simp only [e1, e2, e3, eqApiValue, Bool.and_true] at *
 by_cases k0 : K = 0
 ·subst k0; simp
 by_cases k1 : K = 1
 ·subst k1; simp
 by_cases k2 : K = 2
 ·subst k2; simp
 by_cases k3 : K = 3
 ·subst k3; by_cases hN : N < 2 <;> simp [hN]
 by_cases k4 : K = 4
 ·subst k4; cases hN : (N == 0) <;> simp [hN]
 by_cases k5 : K = 5
 ·subst k5; cases hN : (N == 0) <;> by_cases hS : S.length ≤ 64 <;> simp [hN, hS]
 simp [beq_eq_false_iff_ne.2 k0, beq_eq_false_iff_ne.2 k1, beq_eq_false_iff_ne.2 k2, beq_eq_false_iff_ne.2 k3, beq_eq_false_iff_ne.2 k4, beq_eq_false_iff_ne.2 k5]
def utfB (s : List UInt8) (i n : Int) : Int × Int → Option ((Int × Int) ⊕ (Int ⊕ Bool)) := fun (y1265, y1266) =>
                      bif (decide (y1266 < n)) then
                        Option.bind (getI s (w64 (i + y1266))) fun v1279 =>
                        Option.bind (α := Bool)
                          (bif (decide ((v1279.toNat : Int) < (128 : Int))) then
                            some true
                          else
                            some (decide ((v1279.toNat : Int) ≥ (192 : Int))))
                          fun y1281 =>
                        bif y1281 then
                          some (Sum.inr (Sum.inr false))
                        else
                          some (Sum.inl ((w64 ((w64 ((w64 (y1265 * (64 : Int))) + (v1279.toNat : Int))) - (128 : Int))), (w64 (y1266 + (1 : Int)))))
                      else
                        some (Sum.inr (Sum.inl y1265))
theorem utf_more (s : List UInt8) (i : Nat) (n k c : Int) (b : UInt8) (hk : 0 ≤ k) (hn : k < n) (hn4 : n ≤ 4) (hi : i + k.toNat < s.length) (hs : s.length < 4611686018427387904) (hc : 0 ≤ c ∧ c < 4294967296) (hb : s.getD (i + k.toNat) 0 = b) :
  loop (utfB s i n) (c, k) = if b.toNat / 64 = 2 then loop (utfB s i n) (c * 64 + (b.toNat : Int) - 128, k + 1) else some (.inr false) := by
 have hg : getI s (w64 ((i : Int) + k)) = some b := by
  rw [w64_id (by omega) (by omega)]
  unfold getI
  rw [if_pos (by omega), show ((i : Int) + k).toNat = i + k.toNat by omega, List.getElem?_eq_getElem hi]
  rw [List.getD_eq_getElem?_getD, List.getElem?_eq_getElem hi] at hb
  exact congrArg some hb
 have hlt := b.toNat_lt
 by_cases h : b.toNat / 64 = 2
 ·rw [if_pos h]
  refine loop_step ?_
  show (bif (decide (k < n)) then _ else _) = _
  rw [decide_eq_true hn, cond_true, hg, bind_some', bif_decF (show ¬ ((b.toNat : Int) < 128) by omega), bind_some', bif_decF (show ¬ ((b.toNat : Int) ≥ 192) by omega)]
  rw [w64_id (n := c * 64) (by omega) (by omega), w64_id (n := c * 64 + _) (by omega) (by omega), w64_id (n := c * 64 + _ - _) (by omega) (by omega), w64_id (n := k + 1) (by omega) (by omega)]
 ·rw [if_neg h]
  refine loop_end ?_
  show (bif (decide (k < n)) then _ else _) = _
  rw [decide_eq_true hn, cond_true, hg, bind_some']
  by_cases h2 : b.toNat < 128
  ·rw [bif_decT (show ((b.toNat : Int) < 128) by omega), bind_some', cond_true]
  ·rw [bif_decF (show ¬ ((b.toNat : Int) < 128) by omega), bind_some', bif_decT (show ((b.toNat : Int) ≥ 192) by omega)]
theorem utf_end (s : List UInt8) (i : Nat) (n c : Int) : loop (utfB s i n) (c, n) = some (.inl c) := by
 refine loop_end ?_
 show (bif (decide (n < n)) then _ else _) = _
 rw [bif_decF (show ¬ (n < n) by omega)]
def utfN (l : List UInt8) : Nat :=
 if (Go.Lib.decodeN l.length (l.getD 0 0).toNat (l.getD 1 0).toNat (l.getD 2 0).toNat (l.getD 3 0).toNat).1 = 65533 ∧ (Go.Lib.decodeN l.length (l.getD 0 0).toNat (l.getD 1 0).toNat (l.getD 2 0).toNat (l.getD 3 0).toNat).2 = 1 then 0
 else (Go.Lib.decodeN l.length (l.getD 0 0).toNat (l.getD 1 0).toNat (l.getD 2 0).toNat (l.getD 3 0).toNat).2
theorem validD_utfN (l : List UInt8) (hne : l ≠ []) : Go.Lib.validD l = if utfN l = 0 then false else Go.Lib.validD (l.drop (utfN l)) := by
 have hw := Go.Lib.decodeL_width l
 have hl : 0 < l.length := List.length_pos_iff.2 hne
 rw [Go.Lib.validD_step l hne, Go.Lib.decodeL_N]
 rw [Go.Lib.decodeL_N] at hw
 unfold utfN
 split
 ·simp
 ·rw [if_neg (by omega)]
theorem utfN_1 (l : List UInt8) (h : (l.getD 0 0).toNat < 128) : utfN l = 1 := by
 unfold utfN Go.Lib.decodeN
 rw [if_pos h]
 simp only
 rw [if_neg (by omega)]
theorem utfN_bad (l : List UInt8) (h : (128 ≤ (l.getD 0 0).toNat ∧ (l.getD 0 0).toNat < 194) ∨ 245 ≤ (l.getD 0 0).toNat) : utfN l = 0 := by
 unfold utfN
 have := (l.getD 0 0).toNat_lt
 rw [Go.Lib.decodeN_bad _ _ _ _ _ (by omega)]
 rfl
theorem utfN_2 (l : List UInt8) (h : 194 ≤ (l.getD 0 0).toNat ∧ (l.getD 0 0).toNat < 224) : utfN l = if 1 < l.length ∧ (l.getD 1 0).toNat / 64 = 2 then 2 else 0 := by
 unfold utfN Go.Lib.decodeN
 repeat' split
 all_goals first | rfl | (exfalso; omega) | (simp only at *; omega)
theorem utfN_3 (l : List UInt8) (h : 224 ≤ (l.getD 0 0).toNat ∧ (l.getD 0 0).toNat < 240) : utfN l = if (2 < l.length ∧ (l.getD 1 0).toNat / 64 = 2 ∧ (l.getD 2 0).toNat / 64 = 2) ∧ 2048 ≤ (l.getD 0 0).toNat % 16 * 4096 + (l.getD 1 0).toNat % 64 * 64 + (l.getD 2 0).toNat % 64 ∧ ((l.getD 0 0).toNat % 16 * 4096 + (l.getD 1 0).toNat % 64 * 64 + (l.getD 2 0).toNat % 64 < 55296 ∨ 57344 ≤ (l.getD 0 0).toNat % 16 * 4096 + (l.getD 1 0).toNat % 64 * 64 + (l.getD 2 0).toNat % 64) then 3 else 0 := by
 unfold utfN Go.Lib.decodeN
 repeat' split
 all_goals first | rfl | (exfalso; omega) | (simp only at *; omega)
theorem utfN_4 (l : List UInt8) (h : 240 ≤ (l.getD 0 0).toNat ∧ (l.getD 0 0).toNat < 245) : utfN l = if (3 < l.length ∧ (l.getD 1 0).toNat / 64 = 2 ∧ (l.getD 2 0).toNat / 64 = 2 ∧ (l.getD 3 0).toNat / 64 = 2) ∧ 65536 ≤ (l.getD 0 0).toNat % 8 * 262144 + (l.getD 1 0).toNat % 64 * 4096 + (l.getD 2 0).toNat % 64 * 64 + (l.getD 3 0).toNat % 64 ∧ (l.getD 0 0).toNat % 8 * 262144 + (l.getD 1 0).toNat % 64 * 4096 + (l.getD 2 0).toNat % 64 * 64 + (l.getD 3 0).toNat % 64 ≤ 1114111 then 4 else 0 := by
 unfold utfN Go.Lib.decodeN
 repeat' split
 all_goals first | rfl | (exfalso; omega) | (simp only at *; omega)
theorem decI {p q : Prop} [Decidable p] [Decidable q] (h : p ↔ q) : decide p = decide q := decide_eq_decide.2 h
noncomputable def utfT (p0 : List UInt8) (y1079 y1207 y1208 y1209 : Int) : Option (Int ⊕ (Unit ⊕ Bool)) :=
              bif (decide ((w64 (y1079 + y1207)) > (p0.length : Int))) then
                some (Sum.inr (Sum.inr false))
              else
                bindE (Y := Int) (E := Bool)
                  (Option.bind (α := Int ⊕ Bool) (loop (utfB p0 y1079 y1207) (y1209, (1 : Int)))
                    (Sum.elim (fun e => some (Sum.inl e)) (fun e => some (Sum.inr e))))
                  (fun y1256 =>
                    Option.bind (α := Bool)
                      (bif (decide (y1256 < y1208)) then
                        some true
                      else
                        bif (decide (y1256 > (1114111 : Int))) then
                          some true
                        else
                          bif (decide (y1256 ≥ (55296 : Int))) then
                            some (decide (y1256 < (57344 : Int)))
                          else
                            some false)
                      fun y1289 =>
                    bif y1289 then
                      some (Sum.inr (Sum.inr false))
                    else
                      some (Sum.inl (w64 (y1079 + y1207))))
                  (fun e => some (Sum.inr (Sum.inr e)))
theorem utfT_all {s : List UInt8} {i n : Nat} {m c c' : Int} (hn : n ≤ 4) (hs : s.length < 4611686018427387904) (hi : i + n ≤ s.length) (h : loop (utfB s i n) (c, 1) = some (.inl c')) :
  utfT s i n m c = some (if c' < m ∨ c' > 1114111 ∨ (55296 ≤ c' ∧ c' < 57344) then .inr (.inr false) else .inl ((i + n : Nat) : Int)) := by
 unfold utfT
 rw [w64_id (n := (i : Int) + n) (by omega) (by omega), bif_decF (show ¬ ((i : Int) + n > (s.length : Int)) by omega), h, bind_some', Sum.elim_inl, bindE_l]
 by_cases h1 : c' < m
 ·rw [bif_decT h1, bind_some', cond_true, if_pos (.inl h1)]
 rw [bif_decF h1]
 by_cases h2 : c' > 1114111
 ·rw [bif_decT h2, bind_some', cond_true, if_pos (.inr (.inl h2))]
 rw [bif_decF h2]
 by_cases h3 : c' ≥ 55296
 ·rw [bif_decT h3, bind_some']
  by_cases h4 : c' < 57344
  ·rw [bif_decT h4, if_pos (.inr (.inr ⟨h3, h4⟩))]
  ·rw [bif_decF h4, if_neg (by omega)]; rfl
 ·rw [bif_decF h3, bind_some', cond_false, if_neg (by omega)]; rfl
theorem utfT_no {s : List UInt8} {i n : Nat} {m c : Int} (hn : n ≤ 4) (hs : s.length < 4611686018427387904) (hi : i + n ≤ s.length) (h : loop (utfB s i n) (c, 1) = some (.inr false)) :
  utfT s i n m c = some (.inr (.inr false)) := by
 unfold utfT
 rw [w64_id (n := (i : Int) + n) (by omega) (by omega), bif_decF (show ¬ ((i : Int) + n > (s.length : Int)) by omega), h, bind_some', Sum.elim_inr, bindE_r]
theorem utfT_short {s : List UInt8} {i n : Nat} {m c : Int} (hn : n ≤ 4) (hs : s.length < 4611686018427387904) (hi : i ≤ s.length) (hi : ¬ i + n ≤ s.length) : utfT s i n m c = some (.inr (.inr false)) := by
 unfold utfT
 rw [w64_id (n := (i : Int) + n) (by omega) (by omega), bif_decT (show ((i : Int) + n > (s.length : Int)) by omega)]
theorem ref06_utf8_eq (s : List UInt8) (hs : s.length < 4611686018427387904) : ref06_utf8 s = some (Go.Lib.validD s) := by
 unfold ref06_utf8
 refine Eq.trans (congrArg (fun x => bindE (Y := Unit) (E := Bool) (Option.bind (α := Unit ⊕ Bool) x (Sum.elim (fun e => some (Sum.inl e)) (fun e => some (Sum.inr e)))) (fun _ => some true) (fun e => some e))
  (loop_by (fun y : Int => ∃ i : Nat, y = i ∧ i ≤ s.length) (fun y => s.length - y.toNat) (fun y => if Go.Lib.validD (s.drop y.toNat) = true then .inl () else .inr false) ?_ 0 ⟨0, rfl, by omega⟩)) ?_
 ·rintro y ⟨i, rfl, hi⟩
  rcases Nat.lt_or_ge i s.length with hlt | hge
  rotate_left
  ·right
   have : i = s.length := by omega
   subst this
   simp only [ltI, Nat.lt_irrefl, decide_false, cond_false, Int.toNat_natCast, List.drop_length, Go.Lib.validD_nil, if_true]
  have hne : s.drop i ≠ [] := by intro e; have := congrArg List.length e; simp at this; omega
  have hv := validD_utfN (s.drop i) hne
  have hlen : (s.drop i).length = s.length - i := by simp
  have hd : ∀ k, (s.drop i).getD k 0 = s.getD (i + k) 0 := fun k => Go.Lib.getD_dropU s i k
  have hg : getI s (i : Int) = some (s.getD i 0) := by
   rw [getI_at hlt, List.getD_eq_getElem?_getD, List.getElem?_eq_getElem hlt]; rfl
  have hb := (s.getD i 0).toNat_lt
  -- what a round must show
  suffices hB : ∀ B : Option (Int ⊕ (Unit ⊕ Bool)), B = some (if utfN (s.drop i) = 0 then .inr (.inr false) else .inl ((i + utfN (s.drop i) : Nat) : Int)) → utfN (s.drop i) ≤ s.length - i →
    (∃ y', B = some (.inl y') ∧ (∃ j : Nat, y' = j ∧ j ≤ s.length) ∧ s.length - y'.toNat < s.length - ((i : Int)).toNat ∧ (if Go.Lib.validD (s.drop y'.toNat) = true then Sum.inl () else Sum.inr false) = (if Go.Lib.validD (s.drop ((i : Int)).toNat) = true then Sum.inl () else Sum.inr false)) ∨ B = some (.inr (if Go.Lib.validD (s.drop ((i : Int)).toNat) = true then .inl () else .inr false)) by
   have hle : utfN (s.drop i) ≤ s.length - i := by
    rcases Nat.lt_or_ge (s.getD i 0).toNat 128 with c1 | c1
    ·rw [utfN_1 _ (by rw [hd]; exact c1)]; omega
    rcases Nat.lt_or_ge (s.getD i 0).toNat 194 with c2 | c2
    ·rw [utfN_bad _ (by rw [hd, Nat.add_zero]; omega)]; omega
    rcases Nat.lt_or_ge (s.getD i 0).toNat 224 with c3 | c3
    ·rw [utfN_2 _ (by rw [hd, Nat.add_zero]; omega)]; split <;> omega
    rcases Nat.lt_or_ge (s.getD i 0).toNat 240 with c4 | c4
    ·rw [utfN_3 _ (by rw [hd, Nat.add_zero]; omega)]; split <;> omega
    rcases Nat.lt_or_ge (s.getD i 0).toNat 245 with c5 | c5
    ·rw [utfN_4 _ (by rw [hd, Nat.add_zero]; omega)]; split <;> omega
    ·rw [utfN_bad _ (by rw [hd, Nat.add_zero]; omega)]; omega
   refine hB _ ?_ hle
   rw [ltI, decide_eq_true hlt, cond_true, hg, bind_some']
   have d0 := hd 0
   rw [Nat.add_zero] at d0
   have d1 := hd 1
   have d2 := hd 2
   have d3 := hd 3
   have b1 := (s.getD (i + 1) 0).toNat_lt
   have b2 := (s.getD (i + 2) 0).toNat_lt
   have b3 := (s.getD (i + 3) 0).toNat_lt
   rcases Nat.lt_or_ge (s.getD i 0).toNat 128 with c1 | c1
   ·have hu := utfN_1 (s.drop i) (by rw [d0]; exact c1)
    rw [hu, bif_decT (show ((s.getD i 0).toNat : Int) < 128 by omega), bindE_l]
    refine (utfT_all (n := 1) (by omega) hs (by omega) (utf_end s i 1 _)).trans ?_
    rw [if_neg (by omega), if_neg (by omega)]
   rw [bif_decF (show ¬ (((s.getD i 0).toNat : Int) < 128) by omega)]
   rcases Nat.lt_or_ge (s.getD i 0).toNat 194 with c2 | c2
   ·have hu := utfN_bad (s.drop i) (by rw [d0]; omega)
    rw [hu, bif_decF (show ¬ (((s.getD i 0).toNat : Int) ≥ 194) by omega), bind_some', cond_false, bif_decF (show ¬ (((s.getD i 0).toNat : Int) ≥ 224) by omega), bind_some', cond_false, bif_decF (show ¬ (((s.getD i 0).toNat : Int) ≥ 240) by omega), bind_some', cond_false]
    rfl
   rw [bif_decT (show (((s.getD i 0).toNat : Int) ≥ 194) by omega), bind_some']
   rcases Nat.lt_or_ge (s.getD i 0).toNat 224 with c3 | c3
   ·have hu := utfN_2 (s.drop i) (by rw [d0]; omega)
    rw [d1, hlen] at hu
    rw [bif_decT (show (((s.getD i 0).toNat : Int) < 224) by omega), bindE_l]
    show utfT s i (2 : Nat) 128 _ = _
    by_cases hn : i + 2 ≤ s.length
    ·rw [w64_id (n := ((s.getD i 0).toNat : Int) - 192) (by omega) (by omega)]
     have q := utf_more s i 2 1 (((s.getD i 0).toNat : Int) - 192) (s.getD (i + 1) 0) (by omega) (by omega) (by omega) (by omega) hs (by omega) rfl
     by_cases t1 : (s.getD (i + 1) 0).toNat / 64 = 2
     ·rw [if_pos t1] at q
      refine (utfT_all (n := 2) (by omega) hs (by omega) (q.trans (utf_end s i 2 _))).trans ?_
      rw [hu, if_pos (show 1 < s.length - i ∧ (s.getD (i + 1) 0).toNat / 64 = 2 by omega)]
      split
      ·exfalso; omega
      ·rfl
     ·rw [if_neg t1] at q
      refine (utfT_no (n := 2) (by omega) hs (by omega) q).trans ?_
      rw [show utfN (s.drop i) = 0 by rw [hu]; exact if_neg (by omega)]
      rfl
    ·rw [show utfN (s.drop i) = 0 by rw [hu]; exact if_neg (by omega)]
     exact utfT_short (by omega) hs hi hn
   rw [bif_decF (show ¬ (((s.getD i 0).toNat : Int) < 224) by omega), bif_decT (show (((s.getD i 0).toNat : Int) ≥ 224) by omega), bind_some']
   rcases Nat.lt_or_ge (s.getD i 0).toNat 240 with c4 | c4
   ·have hu := utfN_3 (s.drop i) (by rw [d0]; omega)
    rw [d0, d1, d2, hlen] at hu
    rw [bif_decT (show (((s.getD i 0).toNat : Int) < 240) by omega), bindE_l]
    show utfT s i (3 : Nat) 2048 _ = _
    by_cases hn : i + 3 ≤ s.length
    ·rw [w64_id (n := ((s.getD i 0).toNat : Int) - 224) (by omega) (by omega)]
     have q := utf_more s i 3 1 (((s.getD i 0).toNat : Int) - 224) (s.getD (i + 1) 0) (by omega) (by omega) (by omega) (by omega) hs (by omega) rfl
     by_cases t1 : (s.getD (i + 1) 0).toNat / 64 = 2
     ·rw [if_pos t1] at q
      have q2 := utf_more s i 3 2 ((((s.getD i 0).toNat : Int) - 224) * 64 + ((s.getD (i + 1) 0).toNat : Int) - 128) (s.getD (i + 2) 0) (by omega) (by omega) (by omega) (by omega) hs (by omega) rfl
      by_cases t2 : (s.getD (i + 2) 0).toNat / 64 = 2
      ·rw [if_pos t2] at q2
       refine (utfT_all (n := 3) (by omega) hs (by omega) (q.trans (q2.trans (utf_end s i 3 _)))).trans ?_
       split
       ·rw [show utfN (s.drop i) = 0 by rw [hu]; exact if_neg (by omega)]
        rfl
       ·rw [show utfN (s.drop i) = 3 by rw [hu]; exact if_pos (by omega)]
        rfl
      ·rw [if_neg t2] at q2
       refine (utfT_no (n := 3) (by omega) hs (by omega) (q.trans q2)).trans ?_
       rw [show utfN (s.drop i) = 0 by rw [hu]; exact if_neg (by omega)]
       rfl
     ·rw [if_neg t1] at q
      refine (utfT_no (n := 3) (by omega) hs (by omega) q).trans ?_
      rw [show utfN (s.drop i) = 0 by rw [hu]; exact if_neg (by omega)]
      rfl
    ·rw [show utfN (s.drop i) = 0 by rw [hu]; exact if_neg (by omega)]
     exact utfT_short (by omega) hs hi hn
   rw [bif_decF (show ¬ (((s.getD i 0).toNat : Int) < 240) by omega), bif_decT (show (((s.getD i 0).toNat : Int) ≥ 240) by omega), bind_some']
   rcases Nat.lt_or_ge (s.getD i 0).toNat 245 with c5 | c5
   ·have hu := utfN_4 (s.drop i) (by rw [d0]; omega)
    rw [d0, d1, d2, d3, hlen] at hu
    rw [bif_decT (show (((s.getD i 0).toNat : Int) < 245) by omega), bindE_l]
    show utfT s i (4 : Nat) 65536 _ = _
    by_cases hn : i + 4 ≤ s.length
    ·rw [w64_id (n := ((s.getD i 0).toNat : Int) - 240) (by omega) (by omega)]
     have q := utf_more s i 4 1 (((s.getD i 0).toNat : Int) - 240) (s.getD (i + 1) 0) (by omega) (by omega) (by omega) (by omega) hs (by omega) rfl
     by_cases t1 : (s.getD (i + 1) 0).toNat / 64 = 2
     ·rw [if_pos t1] at q
      have q2 := utf_more s i 4 2 ((((s.getD i 0).toNat : Int) - 240) * 64 + ((s.getD (i + 1) 0).toNat : Int) - 128) (s.getD (i + 2) 0) (by omega) (by omega) (by omega) (by omega) hs (by omega) rfl
      by_cases t2 : (s.getD (i + 2) 0).toNat / 64 = 2
      ·rw [if_pos t2] at q2
       have q3 := utf_more s i 4 3 (((((s.getD i 0).toNat : Int) - 240) * 64 + ((s.getD (i + 1) 0).toNat : Int) - 128) * 64 + ((s.getD (i + 2) 0).toNat : Int) - 128) (s.getD (i + 3) 0) (by omega) (by omega) (by omega) (by omega) hs (by omega) rfl
       by_cases t3 : (s.getD (i + 3) 0).toNat / 64 = 2
       ·rw [if_pos t3] at q3
        refine (utfT_all (n := 4) (by omega) hs (by omega) (q.trans (q2.trans (q3.trans (utf_end s i 4 _))))).trans ?_
        split
        ·rw [show utfN (s.drop i) = 0 by rw [hu]; exact if_neg (by omega)]
         rfl
        ·rw [show utfN (s.drop i) = 4 by rw [hu]; exact if_pos (by omega)]
         rfl
       ·rw [if_neg t3] at q3
        refine (utfT_no (n := 4) (by omega) hs (by omega) (q.trans (q2.trans q3))).trans ?_
        rw [show utfN (s.drop i) = 0 by rw [hu]; exact if_neg (by omega)]
        rfl
      ·rw [if_neg t2] at q2
       refine (utfT_no (n := 4) (by omega) hs (by omega) (q.trans q2)).trans ?_
       rw [show utfN (s.drop i) = 0 by rw [hu]; exact if_neg (by omega)]
       rfl
     ·rw [if_neg t1] at q
      refine (utfT_no (n := 4) (by omega) hs (by omega) q).trans ?_
      rw [show utfN (s.drop i) = 0 by rw [hu]; exact if_neg (by omega)]
      rfl
    ·rw [show utfN (s.drop i) = 0 by rw [hu]; exact if_neg (by omega)]
     exact utfT_short (by omega) hs hi hn
   ·have hu := utfN_bad (s.drop i) (by rw [d0]; omega)
    rw [hu, bif_decF (show ¬ (((s.getD i 0).toNat : Int) < 245) by omega)]
    rfl
  intro B hB hle
  rw [Int.toNat_natCast, hv]
  by_cases h0 : utfN (s.drop i) = 0
  ·right; rw [hB, if_pos h0, if_pos h0]; rfl
  ·left
   rw [if_neg h0] at hB
   refine ⟨_, hB, ⟨_, rfl, by omega⟩, by rw [Int.toNat_natCast]; omega, ?_⟩
   rw [Int.toNat_natCast, if_neg h0, List.drop_drop]
 ·simp only [Int.toNat_zero, List.drop_zero]
  by_cases h : Go.Lib.validD s = true
  ·rw [h]; rfl
  ·rw [if_neg h, Bool.eq_false_iff.2 h]; rfl
theorem ref06_Valid_eq (v : ApiValue) (h : v.S.length < 4611686018427387904) : ref06_Valid v = some (val v) := by
 have e1 := ref06_utf8_eq v.S h
 have e2 : ((v.S.length : Int) ≤ 64) = (v.S.length ≤ 64) := propext (by omega)
 obtain ⟨K, N, S⟩ := v
 unfold ref06_Valid val
 simp only [e1, e2, Bool.and_true] at *
 by_cases k0 : K = 0
 ·subst k0; cases hN : (N == 0) <;> simp [hN]
 by_cases k1 : K = 1
 ·subst k1; simp
 by_cases k2 : K = 2
 ·subst k2; simp
 by_cases k3 : K = 3
 ·subst k3; by_cases hN : N < 2 <;> simp [hN]
 by_cases k4 : K = 4
 ·subst k4; cases hN : (N == 0) <;> simp [hN]
 by_cases k5 : K = 5
 ·subst k5; cases hN : (N == 0) <;> by_cases hS : S.length ≤ 64 <;> simp [hN, hS, e1]
 simp [beq_eq_false_iff_ne.2 k0, beq_eq_false_iff_ne.2 k1, beq_eq_false_iff_ne.2 k2, beq_eq_false_iff_ne.2 k3, beq_eq_false_iff_ne.2 k4, beq_eq_false_iff_ne.2 k5]
def bytesN (n : UInt64) : Nat → List UInt8
 | 0 => []
 | k + 1 => UInt8.ofNat (n.toNat / 2 ^ (8 * k)) :: bytesN n k
theorem bytesN_len (n : UInt64) : ∀ k, (bytesN n k).length = k
 | 0 => rfl
 | k + 1 => by simp [bytesN, bytesN_len n k]
theorem low8 (n : UInt64) : n.toUInt8 = UInt8.ofNat (n.toNat / 2 ^ (8 * 0)) := by
 rw [← UInt8.toNat_inj]; simp
def turn (d : Bool) (b : List UInt8) : List UInt8 := if d then b.map (fun x => ~~~ x) else b
theorem turn_len (d : Bool) (b : List UInt8) : (turn d b).length = b.length := by cases d <;> simp [turn]
theorem turn_turn (d : Bool) (b : List UInt8) : turn d (turn d b) = b := by
 cases d with
 | false => rfl
 | true =>
  show List.map _ (List.map _ b) = b
  rw [List.map_map]
  exact (List.map_congr_left (fun x _ => UInt8.not_not)).trans (List.map_id b)
theorem turn_append (d : Bool) (a b : List UInt8) : turn d (a ++ b) = turn d a ++ turn d b := by cases d <;> simp [turn]
theorem key_turned_eq (b : List UInt8) (h : b.length < 4611686018427387904) : key_turned b = some (b.map (fun x => ~~~ x)) := by
  unfold key_turned
  have q := loop_seq (B := (fun (y57, y58) =>
        bif (decide (y58 < (b.length : Int))) then
          Option.bind (getI y57 y58) fun v67 =>
          Option.bind (getI y57 y58) fun v68 =>
          some (Sum.inl ((List.set y57 y58.toNat (~~~ v67)), (w64 (y58 + (1 : Int)))))
        else
          some (Sum.inr y57))) (fun i => (mapped (fun x => ~~~ x) b i, (i : Int))) b.length (w := b.map (fun x => ~~~ x)) ?_ ?_
  · rw [mapped_zero] at q
    rw [show (loop _ (b, (0 : Int))) = _ from q]
    rfl
  · intro i hi
    show (bif _ then _ else _) = _
    rw [bif_decT (by omega), getI_nat, mapped_get _ _ hi, bind_some', bind_some', w64_succ (by omega), Int.toNat_natCast]
    exact congrArg (fun x => some (Sum.inl (x, _))) (mapped_set _ _ hi)
  · show (bif _ then _ else _) = _
    rw [bif_decF (by omega), mapped_all]
def esc : List UInt8 → List UInt8
 | [] => []
 | x :: r => if x = 0 then 0 :: 255 :: esc r else x :: esc r
theorem esc_len : ∀ s, (esc s).length ≤ 2 * s.length
 | [] => by simp [esc]
 | x :: r => by have := esc_len r; unfold esc; split <;> simp <;> omega
open Go.Lib in
theorem index0_cons (b : UInt8) (l : List UInt8) : index (b :: l) [0] = if b = 0 then 0 else if index l [0] = -1 then -1 else index l [0] + 1 := by
 conv => lhs; unfold index
 by_cases hb : b = 0
 ·subst hb; simp [List.isPrefixOf]
 ·rw [if_neg hb]
  rw [if_neg (by simp [List.isPrefixOf]; exact fun h => hb h.symm)]
  by_cases h : index l [0] = -1
  ·simp [h]
  ·rw [if_neg h, if_neg (by simpa using h)]
open Go.Lib in
theorem replK0_cons (b : UInt8) (l new : List UInt8) (hb : b ≠ 0) : ∀ k, replaceK [0] new k (b :: l) = b :: replaceK [0] new k l
 | 0 => rfl
 | k + 1 => by
  have h := index0_cons b l
  rw [if_neg hb] at h
  unfold replaceK
  by_cases hm : index l [0] = -1
  ·rw [if_pos hm] at h
   rw [h, hm]; rfl
  ·have hge := index_ge l [0]
   rw [if_neg hm] at h
   rw [if_neg (by rw [h]; intro e; have := beq_iff_eq.1 e; omega), if_neg (by intro e; exact hm (beq_iff_eq.1 e)), h]
   have e1 : (index l [0] + 1).toNat = (index l [0]).toNat + 1 := by omega
   rw [e1, List.take_succ_cons, Nat.add_right_comm, List.drop_succ_cons]
   simp
open Go.Lib in
theorem count0_cons (b : UInt8) (l : List UInt8) : count (b :: l) [0] = if b = 0 then 1 + count l [0] else count l [0] := by
 have h := index0_cons b l
 by_cases hb : b = 0
 ·rw [if_pos hb] at h ⊢
  exact count_hit (i := 0) (by simp) h
 ·rw [if_neg hb] at h ⊢
  by_cases hm : index l [0] = -1
  ·rw [if_pos hm] at h
   rw [count_miss h, count_miss hm]
  ·have hge := index_ge l [0]
   rw [if_neg hm] at h
   have e1 : index (b :: l) [0] = ((index l [0]).toNat + 1 : Nat) := by omega
   have e2 : index l [0] = ((index l [0]).toNat : Nat) := by omega
   rw [count_hit (by simp) e1, count_hit (s := l) (by simp) e2]
   rfl
open Go.Lib in
theorem replace_esc (s : List UInt8) : replaceAll s [0] [0, 255] = esc s := by
 have e : replaceNum s [0] (-1) = count s [0] := by unfold replaceNum; rw [if_pos (.inl (by omega))]
 unfold replaceAll replace
 rw [if_neg (by decide), e]
 induction s with
 | nil => rfl
 | cons b l ih =>
  rw [count0_cons]
  unfold esc
  by_cases hb : b = 0
  ·have h := index0_cons b l
   rw [if_pos hb] at h
   rw [if_pos hb, if_pos hb, Nat.add_comm, replaceK_hit _ _ _ _ 0 h]
   have e : replaceNum l [0] (-1) = count l [0] := by unfold replaceNum; rw [if_pos (.inl (by omega))]
   simp only [List.take_zero, List.nil_append, List.length_singleton, Nat.zero_add, List.drop_succ_cons, List.drop_zero]
   rw [ih e]; rfl
  ·rw [if_neg hb, if_neg hb, replK0_cons _ _ _ hb, ih (by unfold replaceNum; rw [if_pos (.inl (by omega))])]
theorem replF_esc (s : List UInt8) (h : s.length ≤ 1048576) : replF s ([0] : List UInt8) ([0, 255] : List UInt8) = some (esc s) := by
 unfold replF
 have := Go.Lib.count_le s [0]
 rw [if_pos ⟨by omega, by simp, (by show s.length + Go.Lib.count s [0] * 2 ≤ _; omega)⟩, replace_esc]
def body (v : ApiValue) : List UInt8 :=
 if v.Kind = 1 then bytesN (v.N ^^^ 9223372036854775808) 8 else if v.Kind = 2 then bytesN v.N 8 else if v.Kind = 3 then bytesN v.N 1
 else if v.Kind = 4 ∨ v.Kind = 5 then esc v.S ++ [0, 0] else []
def enc (v : ApiValue) : List UInt8 := (if v.Kind = 0 then 0 else 1) :: body v
theorem body_len (v : ApiValue) : (body v).length ≤ 2 * v.S.length + 8 := by
 unfold body
 have := esc_len v.S
 repeat' split
 all_goals simp [bytesN_len] <;> omega
theorem out_put1 (a b : List UInt8) (h : b.length + a.length ≤ 70368744177664) : pack_Out_put_1 a b = some () := by
 unfold pack_Out_put_1; rw [bif_decT (by rw [room_val]; omega)]
theorem u16_hi (n : UInt64) (m : Nat) (x : UInt16) (h : x.toNat = n.toNat / 2 ^ m % 65536) : (shr16 x 8).toUInt8 = UInt8.ofNat (n.toNat / 2 ^ (m + 8)) := by
 unfold shr16
 rw [← UInt8.toNat_inj]
 have hx := x.toNat_lt
 have e : n.toNat / 2 ^ (m + 8) = n.toNat / 2 ^ m / 256 := by rw [Nat.pow_add, Nat.div_div_eq_div_mul]
 simp [UInt16.toNat_ofNat, e]
 omega
theorem u16_lo (n : UInt64) (m : Nat) (x : UInt16) (h : x.toNat = n.toNat / 2 ^ m % 65536) : x.toUInt8 = UInt8.ofNat (n.toNat / 2 ^ m) := by
 rw [← UInt8.toNat_inj]
 simp [h]
 try omega
theorem sh32 (n : UInt64) : (shr64 n 32).toUInt32.toNat = n.toNat / 2 ^ 32 := by
 unfold shr64
 have := n.toNat_lt
 simp [UInt64.toNat_ofNat]
 omega
theorem bytes8_eq (n : UInt64) (acc : List UInt8) : (((acc ++ [((shr16 ((shr32 ((shr64 n 32).toUInt32) 16).toUInt16) 8).toUInt8), (((shr32 ((shr64 n 32).toUInt32) 16).toUInt16).toUInt8)]) ++ [((shr16 (((shr64 n 32).toUInt32).toUInt16) 8).toUInt8), ((((shr64 n 32).toUInt32).toUInt16).toUInt8)]) ++ [((shr16 ((shr32 (n.toUInt32) 16).toUInt16) 8).toUInt8), (((shr32 (n.toUInt32) 16).toUInt16).toUInt8)]) ++ [((shr16 ((n.toUInt32).toUInt16) 8).toUInt8), (((n.toUInt32).toUInt16).toUInt8)] = acc ++ bytesN n 8 := by
 have hn := n.toNat_lt
 have h1 : ((shr32 ((shr64 n 32).toUInt32) 16).toUInt16).toNat = n.toNat / 2 ^ 48 % 65536 := by
  unfold shr32
  have := sh32 n
  simp [UInt32.toNat_ofNat] at *
  omega
 have h2 : (((shr64 n 32).toUInt32).toUInt16).toNat = n.toNat / 2 ^ 32 % 65536 := by
  have := sh32 n
  simp at *
  omega
 have h3 : ((shr32 (n.toUInt32) 16).toUInt16).toNat = n.toNat / 2 ^ 16 % 65536 := by
  unfold shr32
  simp [UInt32.toNat_ofNat]
  omega
 have h4 : ((n.toUInt32).toUInt16).toNat = n.toNat / 2 ^ 0 % 65536 := by
  simp
 rw [u16_hi n 48 _ h1, u16_lo n 48 _ h1, u16_hi n 32 _ h2, u16_lo n 32 _ h2, u16_hi n 16 _ h3, u16_lo n 16 _ h3, u16_hi n 0 _ h4, u16_lo n 0 _ h4]
 simp [bytesN]
theorem Out_U16_eq (x : UInt16) (b : List UInt8) (h : b.length + 2 ≤ 70368744177664) : pack_Out_U16 x b = some () := by
 unfold pack_Out_U16; rw [out_put1 _ _ (by simpa using h)]; rfl
theorem Out_U32_eq (x : UInt32) (b : List UInt8) (h : b.length + 4 ≤ 70368744177664) : pack_Out_U32 x b = some () := by
 unfold pack_Out_U32; rw [Out_U16_eq _ _ (by omega), bind_some', Out_U16_eq _ _ (by simp; omega)]; rfl
theorem Out_U64_eq (x : UInt64) (b : List UInt8) (h : b.length + 8 ≤ 70368744177664) : pack_Out_U64 x b = some () := by
 unfold pack_Out_U64; rw [Out_U32_eq _ _ (by omega), bind_some', Out_U32_eq _ _ (by simp; omega)]; rfl
theorem key_one_eq (v : ApiValue) (d : Bool) (h : v.S.length ≤ 1048576) : key_one v d = some (turn d (enc v)) := by
 have hf : pack_Out_Flag (v.Kind != (0 : Int)) = some [if v.Kind = 0 then 0 else 1] := by
  unfold pack_Out_Flag
  by_cases k : v.Kind = 0
  ·rw [k]; rfl
  ·rw [if_neg k, show (v.Kind != 0) = true by simpa using k]; rfl
 have hb := body_len v
 obtain ⟨K, N, S⟩ := v
 simp only at h hf hb
 unfold key_one
 simp only
 rw [hf, bind_some']
 -- the middle
 have key : ∀ (m : Option (List UInt8)) (q : List UInt8), m = some q → (if K = 4 ∨ K = 5 then q ++ (esc S ++ [0, 0]) else q) = enc ⟨K, N, S⟩ → q.length ≤ 100 →
   (Option.bind (α := (List UInt8)) m
  fun y50 =>
 Option.bind (pack_Out_Bytes y50) fun _ =>
 Option.bind (α := (List UInt8))
  (Option.bind (α := Bool)
   (bif (K == (4 : Int)) then
    some true
   else
    some (K == (5 : Int)))
   fun y71 =>
  bif y71 then
   Option.bind (replF S ([0] : List UInt8) ([0, 255] : List UInt8)) fun r75 =>
   bif decide ((y50.length + r75.length) * 1 ≤ room) then
   bif decide (((y50 ++ r75).length + [(0 : UInt8), (0 : UInt8)].length) * 1 ≤ room) then
   some ((y50 ++ r75) ++ [(0 : UInt8), (0 : UInt8)])
   else none
   else none
  else
   some y50)
  fun y68 =>
 bif d then
  Option.bind (key_turned y68) fun r80 =>
  some r80
 else
  some y68) = some (turn d (enc ⟨K, N, S⟩)) := by
  intro m q hm he hq
  subst hm
  have hl := esc_len S
  rw [bind_some', show pack_Out_Bytes q = some () by unfold pack_Out_Bytes; rw [bif_decT (by rw [room_val]; omega)], bind_some', replF_esc S h]
  have hlen : (enc ⟨K, N, S⟩).length ≤ 4194304 := by unfold enc; simp; omega
  have ht : (bif d then Option.bind (key_turned (enc ⟨K, N, S⟩)) fun r80 => some r80 else some (enc ⟨K, N, S⟩)) = some (turn d (enc ⟨K, N, S⟩)) := by
   cases d with
   | false => rfl
   | true => rw [cond_true, key_turned_eq _ (by omega)]; rfl
  by_cases k4 : K = 4
  ·rw [if_pos (.inl k4)] at he
   rw [k4] at he ht ⊢
   simp only [BEq.rfl, cond_true, bind_some']
   rw [bif_decT (by rw [room_val]; omega), bif_decT (by rw [room_val]; simp; omega), bind_some', List.append_assoc, he]
   exact ht
  by_cases k5 : K = 5
  ·rw [if_pos (.inr k5)] at he
   rw [k5] at he ht ⊢
   simp only [show ((5 : Int) == 4) = false from rfl, cond_false, BEq.rfl, cond_true, bind_some']
   rw [bif_decT (by rw [room_val]; omega), bif_decT (by rw [room_val]; simp; omega), bind_some', List.append_assoc, he]
   exact ht
  rw [if_neg (by omega)] at he
  subst he
  rw [beq_eq_false_iff_ne.2 k4, beq_eq_false_iff_ne.2 k5, cond_false, bind_some', cond_false, bind_some']
  exact ht
 by_cases k1 : K = 1
 ·subst k1
  refine key _ ([1] ++ bytesN (N ^^^ 9223372036854775808) 8) ?_ ?_ ?_
  rotate_left
  ·rfl
  ·simp [bytesN_len]
  ·simp only [BEq.rfl, cond_true]
   rw [Out_U64_eq _ _ (by simp), bind_some', bytes8_eq]
   rfl
 by_cases k2 : K = 2
 ·subst k2
  refine key _ ([1] ++ bytesN N 8) ?_ ?_ ?_
  rotate_left
  ·rfl
  ·simp [bytesN_len]
  ·simp only [show ((2 : Int) == 1) = false from rfl, cond_false, BEq.rfl, cond_true]
   rw [Out_U64_eq _ _ (by simp), bind_some', bytes8_eq]
   rfl
 by_cases k3 : K = 3
 ·subst k3
  refine key _ ([1] ++ bytesN N 1) ?_ ?_ ?_
  rotate_left
  ·rfl
  ·simp [bytesN_len]
  ·simp only [show ((3 : Int) == 1) = false from rfl, show ((3 : Int) == 2) = false from rfl, cond_false, BEq.rfl, cond_true]
   rw [show pack_Out_U8 (N.toUInt8) [if (3 : Int) = 0 then 0 else 1] = some () from by unfold pack_Out_U8; rw [out_put1 _ _ (by simp)]; rfl, bind_some', low8]
   rfl
 refine key _ ([if K = 0 then 0 else 1]) ?_ ?_ ?_
 rotate_left
 ·unfold enc body
  simp only [k1, k2, k3, if_false]
  split <;> rfl
 ·simp
 ·rw [beq_eq_false_iff_ne.2 k1, beq_eq_false_iff_ne.2 k2, beq_eq_false_iff_ne.2 k3]; rfl
structure Sm (l : List ApiValue) : Prop where
 len : l.length ≤ 1048576
 txt : ∀ v ∈ l, v.S.length ≤ 1048576
theorem Sm.get {l : List ApiValue} (h : Sm l) {i : Nat} (hi : i < l.length) : (l[i]'hi).S.length ≤ 1048576 := h.txt _ (List.getElem_mem hi)
def bad (v : ApiValue) : Bool := !val v
def encL : List ApiValue → List Bool → List UInt8
 | v :: l, d :: ds => turn d (enc v) ++ encL l ds
 | _, _ => []
def encS (l : List ApiValue) (ds : List Bool) : List UInt8 × Int :=
 if l.length = ds.length then
  if l.any bad = true then ([], 8) else if (encL l ds).length > 256 then ([], 7) else (encL l ds, 0)
 else ([], 1)
theorem encL_take : ∀ (l : List ApiValue) (ds : List Bool) (i : Nat) (h : i < l.length) (h2 : i < ds.length), encL (l.take (i + 1)) (ds.take (i + 1)) = encL (l.take i) (ds.take i) ++ turn ds[i] (enc l[i])
 | v :: l, d :: ds, 0, h, h2 => by simp [encL]
 | v :: l, d :: ds, i + 1, h, h2 => by
  simp only [List.take_succ_cons, encL, List.getElem_cons_succ]
  rw [encL_take l ds i (by simpa using h) (by simpa using h2), List.append_assoc]
theorem val_short {v : ApiValue} (h : val v = true) : v.S.length ≤ 64 := by
 unfold val at h
 simp only [Bool.or_eq_true, Bool.and_eq_true, beq_iff_eq, decide_eq_true_eq] at h
 rcases h with (((⟨_, _, h⟩ | ⟨_, h⟩) | ⟨_, _, h⟩) | ⟨_, _, h⟩) | ⟨_, _, h, _⟩
 ·rw [h]; simp
 ·rw [h]; simp
 ·rw [h]; simp
 ·exact h
 ·exact h
theorem enc_short {v : ApiValue} (h : val v = true) : (enc v).length ≤ 137 := by
 have := body_len v
 have := val_short h
 unfold enc
 simp; omega
theorem encL_short : ∀ (l : List ApiValue) (ds : List Bool), l.any bad = false → (encL l ds).length ≤ 137 * l.length
 | [], ds, _ => by simp [encL]
 | v :: l, [], _ => by simp [encL]
 | v :: l, d :: ds, h => by
  rw [List.any_cons, Bool.or_eq_false_iff] at h
  have := enc_short (v := v) (by have := h.1; unfold bad at this; simpa using this)
  have := encL_short l ds h.2
  simp [encL, turn_len]
  omega
theorem any_take {α : Type} (p : α → Bool) (l : List α) (i : Nat) (h : l.any p = false) : (l.take i).any p = false := by
 rw [List.any_eq_false] at h ⊢
 exact fun x hx => h x (List.mem_of_mem_take hx)
theorem Encode_1_eq (v : ApiValue) (h : v.S.length ≤ 1048576) : key_Encode_1 v = some (bad v) := by
 unfold key_Encode_1; rw [value_Valid_eq v (by omega)]; rfl
theorem anyBad_eq (l : List ApiValue) (h : Sm l) : slices_ContainsFunc_api_Value_api_Value l = some (l.any bad) := by
  unfold slices_ContainsFunc_api_Value_api_Value slices_IndexFunc_api_Value_api_Value
  have hl := h.len
  have q := loop_search (B := (fun y69 =>
        bif (decide (y69 < (l.length : Int))) then
          Option.bind (getI l y69) fun v79 =>
          Option.bind (key_Encode_1 v79) fun r80 =>
          bif r80 then
            some (Sum.inr (Sum.inr y69))
          else
            some (Sum.inl (w64 (y69 + (1 : Int))))
        else
          some (Sum.inr (Sum.inl ())))) l bad (fun i => .inr (i : Int)) (.inl ()) (fun i hi => by
      show (bif _ then _ else _) = _
      rw [bif_decT (by omega), getI_at hi, bind_some', Encode_1_eq _ (h.get hi), bind_some']
      cases bad l[i]
      · rw [cond_false, w64_succ (by omega)]; rfl
      · rfl) (by
      show (bif _ then _ else _) = _
      rw [bif_decF (by omega)])
  rcases q with ⟨q1, i, _, _, q2⟩ | ⟨q1, q2⟩
  · rw [show (loop _ (0 : Int)) = _ from q2, q1]
    show some (decide ((i : Int) ≥ 0)) = _
    rw [decide_eq_true (by omega)]
  · rw [show (loop _ (0 : Int)) = _ from q2, q1]
    rfl
theorem key_Encode_eq (l : List ApiValue) (ds : List Bool) (h : Sm l) : key_Encode l ds = some (encS l ds) := by
  unfold key_Encode encS
  have hl := h.len
  by_cases he : l.length = ds.length
  rotate_left
  · rw [if_neg he, show ((l.length : Int) != (ds.length : Int)) = true by simp; omega]; rfl
  rw [if_pos he, show ((l.length : Int) != (ds.length : Int)) = false by simp; omega, cond_false, anyBad_eq l h, bind_some']
  cases hb : l.any bad with
  | true => rfl
  | false =>
    rw [cond_false, if_neg (by simp)]
    have hs := encL_short l ds hb
    have q := loop_seq (B := (fun (y97, y98) =>
            bif (decide (y98 < (l.length : Int))) then
              Option.bind (getI l y98) fun v110 =>
              Option.bind (getI ds y98) fun v111 =>
              Option.bind (key_one v110 v111) fun r112 =>
              bif decide ((y97.length + r112.length) * 1 ≤ room) then
              some (Sum.inl ((y97 ++ r112), (w64 (y98 + (1 : Int)))))
              else none
            else
              some (Sum.inr y97))) (fun i => (encL (l.take i) (ds.take i), (i : Int))) l.length (w := encL l ds) ?_ ?_
    · rw [show (loop _ (([] : List UInt8), (0 : Int))) = _ from q, bind_some', bind_some']
      by_cases hlen : (encL l ds).length > 256
      · rw [if_pos hlen, bif_decT (by omega)]
      · rw [if_neg hlen, bif_decF (by omega)]
    · intro i hi
      have h1 := encL_short (l.take i) (ds.take i) (any_take _ _ _ hb)
      have h2 := enc_short (v := l[i]) (by rw [List.any_eq_false] at hb; have := hb _ (List.getElem_mem hi); unfold bad at this; simpa using this)
      rw [List.length_take, Nat.min_eq_left (Nat.le_of_lt hi)] at h1
      show (bif _ then _ else _) = _
      rw [bif_decT (by omega), getI_at hi, bind_some', getI_at (by omega), bind_some', key_one_eq _ _ (h.get hi), bind_some', bif_decT (by rw [room_val, turn_len]; omega), w64_succ (by omega), encL_take l ds i hi (by omega)]
    · show (bif _ then _ else _) = _
      rw [bif_decF (by omega), List.take_length, he, List.take_length]
end Lv
namespace Lv
open Go Go.Proofs
def afterL : List UInt8 → Option (List UInt8)
 | [] => none
 | x :: r => match afterL r with
  | some r' => some (x :: r')
  | none => if x = 255 then none else some [x + 1]
theorem afterL_full : ∀ {q : List UInt8}, (∀ x, x ∈ q → x = 255) → afterL q = none
 | [], _ => rfl
 | x :: q, h => by
  have hq : afterL q = none := afterL_full fun y hy => h y (List.mem_cons_of_mem _ hy)
  have hx : x = 255 := h x (List.mem_cons_self ..)
  simp only [afterL, hq, hx, if_true]
theorem afterL_append : ∀ (p : List UInt8) {q : List UInt8}, (∀ x, x ∈ q → x = 255) → afterL (p ++ q) = afterL p
 | [], q, h => by rw [List.nil_append, afterL_full h]; rfl
 | x :: p, q, h => by simp only [List.cons_append, afterL, afterL_append p h]
theorem afterL_last : ∀ (p : List UInt8) {x : UInt8}, x ≠ 255 → afterL (p ++ [x]) = some (p ++ [x + 1])
 | [], x, h => by simp [afterL, h]
 | y :: p, x, h => by simp only [List.cons_append, afterL, afterL_last p h]
variable [BaseTab]
theorem After_eq (s : List UInt8) (hs : s.length < 4611686018427387904) : key_After s = some (match afterL s with | some a => (a, true) | none => ([], false)) := by
 unfold key_After
 suffices hk : ∀ B : Nat → Option (Nat ⊕ Nat), (∀ y, y ≤ s.length → B y = some (if 0 < y ∧ s[y - 1]? = some 255 then .inl (y - 1) else .inr y)) → ∀ y, y ≤ s.length → ∃ n, n ≤ y ∧ loop B y = some n ∧ (∀ i, n ≤ i → i < y → s[i]? = some 255) ∧ (n = 0 ∨ s[n - 1]? ≠ some 255) by
  refine Exists.elim (hk (fun y106 =>
    Option.bind (α := Bool)
     (bif (decide ((y106 : Int) > (0 : Int))) then
      Option.bind (getS s 0 y106 (w64 ((y106 : Int) - (1 : Int)))) fun v123 =>
      some (v123 == (255 : UInt8))
     else
      some false)
     fun y120 =>
    bif y120 then
     bif decide (0 ≤ (w64 ((y106 : Int) - (1 : Int))) ∧ (w64 ((y106 : Int) - (1 : Int))) ≤ (y106 : Int)) then
     some (Sum.inl ((w64 ((y106 : Int) - (1 : Int))).toNat))
     else none
    else
     some (Sum.inr y106)) ?_ s.length (Nat.le_refl _)) ?_
  ·intro y hy
   show Option.bind (bif _ then _ else _) _ = _
   by_cases h0 : 0 < y
   rotate_left
   ·rw [bif_decF (by omega), bind_some', cond_false, if_neg (fun h => h0 h.1)]
   rw [bif_decT (by omega), w64_id (n := (y : Int) - 1) (by omega) (by omega)]
   have hg : getS s 0 y ((y : Int) - 1) = s[y - 1]? := by
    unfold getS
    rw [if_pos (by omega), Nat.zero_add, show ((y : Int) - 1).toNat = y - 1 by omega]
   rw [hg, List.getElem?_eq_getElem (by omega), bind_some', bind_some']
   by_cases h1 : s[y - 1]'(by omega) = 255
   ·rw [h1, BEq.rfl, cond_true, bif_decT (by omega), if_pos ⟨h0, rfl⟩, show ((y : Int) - 1).toNat = y - 1 by omega]
   ·rw [beq_eq_false_iff_ne.2 h1, cond_false, if_neg (fun h => h1 (Option.some.inj h.2))]
  ·rintro n ⟨h1, h2, h3, h4⟩
   rw [h2, bind_some', bind_some']
   have hsplit : s = s.take n ++ s.drop n := (List.take_append_drop _ _).symm
   have hfull : ∀ x, x ∈ s.drop n → x = 255 := by
    intro x hx
    obtain ⟨i, hi⟩ := List.getElem?_of_mem hx
    rw [List.getElem?_drop] at hi
    have hlt := ltGet hi
    rw [h3 (n + i) (by omega) (by omega)] at hi
    exact (Option.some.inj hi).symm
   have e1 : afterL s = afterL (s.take n) := by
    conv => lhs; rw [hsplit]
    exact afterL_append _ hfull
   rw [e1]
   by_cases h0 : n = 0
   ·subst h0; rfl
   obtain ⟨m, rfl⟩ : ∃ m, n = m + 1 := ⟨n - 1, by omega⟩
   have hm : m < s.length := by omega
   have hx : s[m] ≠ 255 := by
    rcases h4 with h4 | h4
    ·omega
    ·intro e; apply h4; rw [show m + 1 - 1 = m by omega, List.getElem?_eq_getElem hm, e]
   have hg : getS s 0 (m + 1) (m : Int) = some s[m] := by
    unfold getS
    rw [if_pos (by omega), Nat.zero_add, Int.toNat_natCast, List.getElem?_eq_getElem hm]
   rw [beq_eq_false_iff_ne.2 (show ¬ ((m + 1 : Nat) : Int) = 0 by omega), cond_false, w64_id (n := ((m + 1 : Nat) : Int) - 1) (by omega) (by omega), show ((m + 1 : Nat) : Int) - 1 = (m : Int) by omega, hg, bind_some', bind_some', Int.toNat_natCast, bif_decT (by simp; omega)]
   rw [List.take_succ_eq_append_getElem hm, afterL_last _ hx]
   simp only
   congr 2
   rw [List.drop_zero, List.take_set, List.take_succ_eq_append_getElem hm, List.set_append_right _ _ (by simp; omega)]
   have : m - (s.take m).length = 0 := by simp; omega
   rw [this, List.set_cons_zero]
 intro B hB y
 induction y with
 | zero => intro _; exact ⟨0, by omega, loop_end (by rw [hB 0 (by omega), if_neg (by omega)]), fun i _ _ => by omega, .inl rfl⟩
 | succ y ih =>
  intro hy
  have hb := hB (y + 1) hy
  by_cases h : s[y]? = some 255
  ·rw [if_pos ⟨by omega, by simpa using h⟩] at hb
   obtain ⟨n, h1, h2, h3, h4⟩ := ih (by omega)
   refine ⟨n, by omega, (loop_step hb).trans h2, fun i k1 k2 => ?_, h4⟩
   by_cases e : i = y
   ·rw [e]; exact h
   ·exact h3 i k1 (by omega)
  ·rw [if_neg (fun k => h (by simpa using k.2))] at hb
   exact ⟨y + 1, by omega, loop_end hb, fun i _ _ => by omega, .inr (by simpa using h)⟩
end Lv
namespace Lv
open Go Go.Proofs
variable [BaseTab]
def num (l : List UInt8) : UInt64 := l.foldl (fun y b => shl64 y 8 ||| b.toUInt64) 0
theorem shl_or (y : UInt64) (b : UInt8) : shl64 y 8 + b.toUInt64 = shl64 y 8 ||| b.toUInt64 := by
 unfold shl64
 rw [← UInt64.toNat_inj]
 have hb := b.toNat_lt
 have hy := y.toNat_lt
 rw [UInt64.toNat_add, UInt64.toNat_or, UInt64.toNat_ofNat']
 have e : y.toNat * 2 ^ 8 % 2 ^ 64 = (y.toNat % 2 ^ 56) <<< 8 := by rw [Nat.shiftLeft_eq]; omega
 rw [e, ← Nat.shiftLeft_add_eq_or_of_lt (by simpa using hb), Nat.shiftLeft_eq, UInt8.toNat_toUInt64, Nat.mod_eq_of_lt]
 omega
def unesc : List UInt8 → Option (List UInt8 × Nat)
 | [] => none
 | [_] => none
 | x :: y :: r => if x = 0 then (if y = 0 then some ([], 2) else if y = 255 then (unesc r).map (fun p => (0 :: p.1, p.2 + 2)) else none)
  else (unesc (y :: r)).map (fun p => (x :: p.1, p.2 + 1))
def raw (k : Int) (r : List UInt8) : Option (ApiValue × Nat) :=
 if k = 1 then (if 8 ≤ r.length then some (⟨k, num (r.take 8) ^^^ 9223372036854775808, []⟩, 8) else none)
 else if k = 2 then (if 8 ≤ r.length then some (⟨k, num (r.take 8), []⟩, 8) else none)
 else if k = 3 then (if 1 ≤ r.length then some (⟨k, num (r.take 1), []⟩, 1) else none)
 else (unesc r).map (fun p => (⟨k, 0, p.1⟩, p.2))
def decV (k : Int) : List UInt8 → Option (ApiValue × Nat)
 | [] => none
 | f :: r => if f = 0 then some (⟨0, 0, []⟩, 1) else if f = 1 then
   (match raw k r with | none => none | some p => if val p.1 = true then some (p.1, p.2 + 1) else none) else none
def onVal (o : Option (ApiValue × Nat)) : Option (ApiValue × Nat) := match o with | none => none | some p => if val p.1 = true then some (p.1, p.2 + 1) else none
theorem decV_one (k : Int) (r : List UInt8) : decV k (1 :: r) = onVal (raw k r) := by simp only [decV, onVal]; rfl
end Lv
namespace Lv
open Go Go.Proofs
variable [BaseTab]
end Lv
namespace Lv
open Go Go.Proofs
variable [BaseTab]
def decL : List Int → List Bool → List UInt8 → Option (List ApiValue × List UInt8)
 | k :: ks, d :: ds, b => match decV k (turn d b) with
  | none => none
  | some (v, n) => (decL ks ds (b.drop n)).map (fun p => (v :: p.1, p.2))
 | _, _, b => some ([], b)
theorem num_cons_aux (l : List UInt8) : ∀ y : UInt64, (l.foldl (fun y b => shl64 y 8 ||| b.toUInt64) y).toNat = (y.toNat * 256 ^ l.length + l.foldl (fun a b => a * 256 + b.toNat) 0) % 18446744073709551616 := by
 have fold : ∀ (l : List UInt8) (a : Nat), l.foldl (fun a b => a * 256 + b.toNat) a = a * 256 ^ l.length + l.foldl (fun a b => a * 256 + b.toNat) 0 := by
  intro l
  induction l with
  | nil => intro a; simp
  | cons b l ih =>
   intro a
   rw [List.foldl_cons, List.foldl_cons, ih, ih (0 * 256 + b.toNat), List.length_cons, Nat.pow_succ]
   rw [Nat.add_mul, Nat.zero_mul, Nat.zero_add, Nat.mul_assoc, Nat.mul_comm 256 (256 ^ l.length), Nat.add_assoc]
 induction l with
 | nil =>
  intro y
  have := y.toNat_lt
  simp
 | cons b l ih =>
  intro y
  rw [List.foldl_cons, ih, List.foldl_cons, fold l (0 * 256 + b.toNat), ← shl_or]
  have h : (shl64 y 8 + b.toUInt64).toNat = (y.toNat * 256 + b.toNat) % 18446744073709551616 := by
   unfold shl64
   rw [UInt64.toNat_add, UInt64.toNat_ofNat', UInt8.toNat_toUInt64]
   omega
  rw [h, List.length_cons, Nat.pow_succ, Nat.zero_mul, Nat.zero_add]
  rw [← Nat.add_assoc, Nat.add_mod, Nat.mul_mod, Nat.mod_mod, ← Nat.mul_mod, ← Nat.add_mod]
  congr 2
  rw [Nat.add_mul, Nat.mul_assoc, Nat.mul_comm 256 (256 ^ l.length)]
theorem natB_bytesN (n : UInt64) : ∀ k, (bytesN n k).foldl (fun a b => a * 256 + b.toNat) 0 = n.toNat % 256 ^ k := by
 have fold : ∀ (l : List UInt8) (a : Nat), l.foldl (fun a b => a * 256 + b.toNat) a = a * 256 ^ l.length + l.foldl (fun a b => a * 256 + b.toNat) 0 := by
  intro l
  induction l with
  | nil => intro a; simp
  | cons b l ih =>
   intro a
   rw [List.foldl_cons, List.foldl_cons, ih, ih (0 * 256 + b.toNat), List.length_cons, Nat.pow_succ]
   rw [Nat.add_mul, Nat.zero_mul, Nat.zero_add, Nat.mul_assoc, Nat.mul_comm 256 (256 ^ l.length), Nat.add_assoc]
 intro k
 induction k with
 | zero => simp [bytesN, Nat.mod_one]
 | succ k ih =>
  rw [bytesN, List.foldl_cons, fold, bytesN_len, ih, Nat.zero_mul, Nat.zero_add, UInt8.toNat_ofNat']
  have e : (2 : Nat) ^ (8 * k) = 256 ^ k := by rw [Nat.pow_mul]
  have e2 : n.toNat % 256 ^ (k + 1) = n.toNat % 256 ^ k + 256 ^ k * (n.toNat / 256 ^ k % 256) := by rw [Nat.pow_succ, Nat.mod_mul]
  rw [e2, e, show (2 : Nat) ^ 8 = 256 from rfl, Nat.mul_comm, Nat.add_comm]
theorem num_bytes8 (n : UInt64) : num (bytesN n 8) = n := by
 have := n.toNat_lt
 rw [← UInt64.toNat_inj]
 unfold num
 rw [num_cons_aux, natB_bytesN]
 have e : (0 : UInt64).toNat = 0 := rfl
 rw [e]
 omega
theorem unesc_esc : ∀ (s t : List UInt8), unesc (esc s ++ 0 :: 0 :: t) = some (s, (esc s).length + 2)
 | [], t => by simp [esc, unesc]
 | x :: r, t => by
  have ih := unesc_esc r t
  unfold esc
  by_cases hx : x = 0
  ·subst hx
   rw [if_pos rfl]
   show unesc (0 :: 255 :: (esc r ++ 0 :: 0 :: t)) = _
   rw [show unesc (0 :: 255 :: (esc r ++ 0 :: 0 :: t)) = (unesc (esc r ++ 0 :: 0 :: t)).map (fun p => (0 :: p.1, p.2 + 2)) by simp only [unesc, if_true]; rfl, ih]
   rfl
  ·rw [if_neg hx]
   show unesc (x :: (esc r ++ 0 :: 0 :: t)) = _
   cases h : esc r ++ 0 :: 0 :: t with
   | nil => simp at h
   | cons y r' =>
    rw [h] at ih
    simp only [unesc, hx, if_false, ih]
    rfl
theorem xor_back (n m : UInt64) : n ^^^ m ^^^ m = n := by rw [UInt64.xor_assoc, UInt64.xor_self, UInt64.xor_zero]
def fitK (k : Int) (v : ApiValue) : Prop := v.Kind = 0 ∨ v.Kind = k
theorem val_kind {v : ApiValue} (h : val v = true) : 0 ≤ v.Kind ∧ v.Kind ≤ 5 := by
 unfold val at h
 simp only [Bool.or_eq_true, Bool.and_eq_true, beq_iff_eq, decide_eq_true_eq] at h
 omega
theorem val_null {v : ApiValue} (h : val v = true) (k : v.Kind = 0) : v = ⟨0, 0, []⟩ := by
 unfold val at h
 obtain ⟨K, N, S⟩ := v
 simp only at k
 subst k
 simp only [Bool.or_eq_true, Bool.and_eq_true, beq_iff_eq, decide_eq_true_eq] at h
 have : N = 0 ∧ S = [] := by
  rcases h with (((⟨_, h⟩ | ⟨h, _⟩) | ⟨h, _⟩) | ⟨h, _⟩) | ⟨h, _⟩
  ·exact h
  ·omega
  ·omega
  ·omega
  ·omega
 rw [this.1, this.2]
theorem val_num {v : ApiValue} (h : val v = true) (k : v.Kind = 1 ∨ v.Kind = 2 ∨ v.Kind = 3) : v.S = [] ∧ (v.Kind = 3 → v.N.toNat < 2) := by
 unfold val at h
 simp only [Bool.or_eq_true, Bool.and_eq_true, beq_iff_eq, decide_eq_true_eq, UInt64.lt_iff_toNat_lt] at h
 have e : (2 : UInt64).toNat = 2 := rfl
 rw [e] at h
 rcases h with (((⟨h, _⟩ | ⟨h, h2⟩) | ⟨h, h1, h2⟩) | ⟨h, _⟩) | ⟨h, _⟩
 ·omega
 ·exact ⟨h2, fun _ => by omega⟩
 ·exact ⟨h2, fun _ => h1⟩
 ·omega
 ·omega
theorem val_txt {v : ApiValue} (h : val v = true) (k : v.Kind = 4 ∨ v.Kind = 5) : v.N = 0 := by
 unfold val at h
 simp only [Bool.or_eq_true, Bool.and_eq_true, beq_iff_eq, decide_eq_true_eq] at h
 rcases h with (((⟨h, _⟩ | ⟨h, _⟩) | ⟨h, _⟩) | ⟨h, h2, _⟩) | ⟨h, h2, _⟩
 ·omega
 ·omega
 ·omega
 ·exact h2
 ·exact h2
theorem decV_enc (k : Int) (v : ApiValue) (t : List UInt8) (hv : val v = true) (hk : fitK k v) : decV k (enc v ++ t) = some (v, (enc v).length) := by
  by_cases k0 : v.Kind = 0
  · have := val_null hv k0
    subst this
    rfl
  have hk : v.Kind = k := by rcases hk with h | h; · exact absurd h k0
                             · exact h
  subst hk
  have hr := val_kind hv
  have he : enc v = 1 :: body v := by unfold enc; rw [if_neg k0]
  rw [he, List.cons_append, decV_one]
  suffices hraw : raw v.Kind (body v ++ t) = some (v, (body v).length) by
    rw [hraw]; unfold onVal; simp only; rw [if_pos hv]; rfl
  obtain ⟨K, N, S⟩ := v
  simp only at k0 hr
  unfold raw body
  by_cases k1 : K = 1
  · subst k1
    have := (val_num hv (.inl rfl)).1
    simp only at this
    subst this
    simp only [if_true]
    rw [if_pos (by simp [bytesN_len]), List.take_left' (bytesN_len _ _), num_bytes8, xor_back, bytesN_len]
  by_cases k2 : K = 2
  · subst k2
    have := (val_num hv (.inr (.inl rfl))).1
    simp only at this
    subst this
    simp only [show ¬ (2 : Int) = 1 by omega, if_false, if_true]
    rw [if_pos (by simp [bytesN_len]), List.take_left' (bytesN_len _ _), num_bytes8, bytesN_len]
  by_cases k3 : K = 3
  · subst k3
    have := val_num hv (.inr (.inr rfl))
    obtain ⟨h1, h2⟩ := this
    have h2 : N.toNat < 2 := h2 rfl
    simp only at h1
    subst h1
    simp only [show ¬ (3 : Int) = 1 by omega, show ¬ (3 : Int) = 2 by omega, if_false, if_true]
    rw [if_pos (by simp [bytesN_len]), List.take_left' (bytesN_len _ _), bytesN_len]
    have : num (bytesN N 1) = N := by
      rw [← UInt64.toNat_inj]
      unfold num
      rw [num_cons_aux, natB_bytesN]
      have e : (0 : UInt64).toNat = 0 := rfl
      rw [e]
      omega
    rw [this]
  have k45 : K = 4 ∨ K = 5 := by omega
  have := val_txt hv k45
  simp only at this
  subst this
  simp only [k1, k2, k3, k45, if_false, if_true]
  rw [List.append_assoc]
  show (unesc (esc S ++ 0 :: 0 :: t)).map _ = _
  rw [unesc_esc]
  simp
theorem decL_enc : ∀ (l : List ApiValue) (ds : List Bool) (ks : List Int) (t : List UInt8), l.length = ds.length → l.length = ks.length → (∀ v ∈ l, val v = true) → (∀ (i : Nat) (v : ApiValue) (k : Int), l[i]? = some v → ks[i]? = some k → fitK k v) → decL ks ds (encL l ds ++ t) = some (l, t)
 | [], ds, ks, t, h1, h2, _, _ => by
  have e2 : ks = [] := List.eq_nil_of_length_eq_zero (by simpa using h2.symm)
  subst e2
  simp [encL, decL]
 | v :: l, [], ks, t, h1, _, _, _ => by simp at h1
 | v :: l, d :: ds, [], t, _, h2, _, _ => by simp at h2
 | v :: l, d :: ds, k :: ks, t, h1, h2, hv, hf => by
  have ih := decL_enc l ds ks t (by simpa using h1) (by simpa using h2) (fun w hw => hv w (List.mem_cons_of_mem _ hw)) (fun i w k' a b => hf (i + 1) w k' (by simpa using a) (by simpa using b))
  simp only [encL, decL]
  rw [List.append_assoc, turn_append, turn_turn, decV_enc k v _ (hv v (List.mem_cons_self ..)) (hf 0 v k rfl rfl)]
  simp only
  rw [List.drop_left' (turn_len _ _), ih]
  rfl
def letter (c : UInt8) : Bool := decide (97 ≤ c) && decide (c ≤ 122)
def nchar (c : UInt8) : Bool := letter c || c == 95 || (decide (48 ≤ c) && decide (c ≤ 57))
def nameS : List UInt8 → Bool
 | [] => false
 | c :: r => decide (r.length < 16) && (letter c && r.all nchar)
theorem nall (l : List UInt8) : (l.any fun c => !nchar c) = !l.all nchar := by induction l <;> simp_all [List.any_cons, List.all_cons]
theorem value_Name_eq (s : List UInt8) (hs : s.length < 4611686018427387904) : value_Name s = some (nameS s) := by
 unfold value_Name
 cases s with
 | nil => rfl
 | cons c r =>
  have hlen : (c :: r).length = r.length + 1 := rfl
  refine bo (a := decide (r.length ≥ 16)) ?_ ?_
  ·rw [show ((c :: r) == ([] : List UInt8)) = false from rfl, cond_false, hlen]; congr 1; exact decI (by omega)
  by_cases h16 : r.length ≥ 16
  ·rw [bif_decT h16]; simp only [nameS]; rw [decide_eq_false (by omega)]; rfl
  rw [bif_decF h16]
  have e1 : nameS (c :: r) = (letter c && r.all nchar) := by simp only [nameS]; rw [decide_eq_true (by omega)]; rfl
  rw [e1]
  refine lpE (w := if (letter c && r.all nchar) = true then .inl () else .inr false) (nmB fun B hB => ?_) ?_
  rotate_left
  ·cases (letter c && r.all nchar) <;> rfl
  have step : ∀ (i : Nat) (x : UInt8), i < (c :: r).length → (c :: r)[i]? = some x → B (i : Int) = some (if (if i = 0 then !letter x else !nchar x) = true then .inr (.inr false) else .inl ((i + 1 : Nat) : Int)) := by
   intro i x hi hx
   rw [hB]
   show (bif _ then _ else _) = _
   rw [bif_decT (by omega), getI_nat, hx, bind_some', show ((i : Int) == 0) = decide (i = 0) by rw [Bool.eq_iff_iff]; simp, w64_succ (by omega)]
   generalize ((i + 1 : Nat) : Int) = k
   by_cases h0 : i = 0
   ·simp only [h0, decide_true, if_true]
    clear hx
    refine bo (a := letter x) ?_ ?_
    ·revert x; exact u8F (by decide +kernel)
    ·cases letter x <;> rfl
   ·simp only [h0, decide_false, if_false]
    clear hx
    refine bo (a := letter x) ?_ (bo (a := !nchar x) ?_ ?_)
    ·revert x; exact u8F (by decide +kernel)
    ·revert x; exact u8F (by decide +kernel)
    ·cases nchar x <;> rfl
  have s0 := step 0 c (by omega) rfl
  rw [show (0 : Int) = ((0 : Nat) : Int) from rfl]
  cases hc : letter c with
  | false => rw [hc] at s0; exact loop_end s0
  | true =>
   rw [hc] at s0
   rw [loop_step (y' := ((0 + 1 : Nat) : Int)) s0]
   refine (lq3 r (fun c => !nchar c) (.inr false) (.inl ()) (fun i => ((i + 1 : Nat) : Int)) (fun i hi => ?_) ?_ rfl).trans ?_
   ·rw [step (i + 1) r[i] (by omega) (by simp [hi])]
    simp
   ·rw [hB]
    show (bif _ then _ else _) = _
    rw [bif_decF (by omega)]
   ·rw [nall]; cases r.all nchar <;> rfl
theorem ref06_Name_eq (s : List UInt8) (hs : s.length < 4611686018427387904) : ref06_Name s = some (nameS s) := by
 unfold ref06_Name
 cases s with
 | nil => rfl
 | cons c r =>
  have hlen : (c :: r).length = r.length + 1 := rfl
  have e1 : nameS (c :: r) = (decide (r.length < 16) && (letter c && r.all nchar)) := rfl
  rw [e1]
  refine bo (a := !(decide (r.length < 16) && letter c)) ?_ ?_
  ·rw [bif_decF (by omega), show getI (c :: r) 0 = some c from rfl]
   by_cases h16 : r.length < 16
   ·rw [bif_decF (by omega), decide_eq_true h16]
    simp only [bind_some', Bool.true_and]
    clear e1 hlen hs
    revert c; exact u8F (by decide +kernel)
   ·rw [bif_decT (by omega), decide_eq_false h16]; rfl
  by_cases h16 : r.length < 16
  rotate_left
  ·rw [decide_eq_false h16]; rfl
  rw [decide_eq_true h16, Bool.true_and, Bool.true_and]
  cases hc : letter c with
  | false => rfl
  | true =>
   rw [Bool.not_true, cond_false, Bool.true_and]
   refine lpE (w := if r.all nchar = true then .inl () else .inr false) (nmB fun B hB => ?_) ?_
   rotate_left
   ·cases r.all nchar <;> rfl
   refine (lq3 r (fun c => !nchar c) (.inr false) (.inl ()) (fun i => ((i + 1 : Nat) : Int)) (fun i hi => ?_) ?_ rfl).trans ?_
   ·rw [hB]
    show (bif _ then _ else _) = _
    rw [bif_decT (by omega), getI_nat, show (c :: r)[i + 1]? = some r[i] by simp [hi], w64_succ (by omega)]
    generalize ((i + 1 + 1 : Nat) : Int) = k
    generalize r[i] = x
    simp only [bind_some']
    refine bo (a := !nchar x) ?_ ?_
    ·revert x; exact u8F (by decide +kernel)
    ·cases nchar x <;> rfl
   ·rw [hB]
    show (bif _ then _ else _) = _
    rw [bif_decF (by omega)]
   ·rw [nall]; cases r.all nchar <;> rfl
def fitS (c : ApiColumn) (v : ApiValue) : Int :=
 if val v = false then 8 else if v.Kind = 0 then (if c.Nulls = true then 0 else 8) else if v.Kind ≠ c.Kind then 8 else if (v.Kind = 4 ∨ v.Kind = 5) ∧ (v.S.length : Int) > c.Max then 7 else 0
theorem long_eq (k : Int) : value_long k = some (decide (k = 4 ∨ k = 5)) := by
 unfold value_long
 by_cases h : k = 4
 ·subst h; rfl
 ·rw [show (k == 4) = false by simpa using h]
  simp only [cond_false, bind_some', h, false_or]
  congr 1
theorem value_Fits_eq (c : ApiColumn) (v : ApiValue) (h : v.S.length < 4611686018427387904) : value_Fits c v = some (fitS c v) := by
 unfold value_Fits fitS
 rw [value_Valid_eq v h, bind_some']
 cases hv : val v with
 | false => rfl
 | true =>
  simp only [Bool.not_true, cond_false, Bool.true_eq_false, if_false]
  by_cases h0 : v.Kind = 0
  ·rw [show (v.Kind == 0) = true by simpa using h0, if_pos h0]
   cases c.Nulls <;> rfl
  rw [show (v.Kind == 0) = false by simpa using h0, if_neg h0, cond_false]
  by_cases hk : v.Kind = c.Kind
  rotate_left
  ·rw [show (v.Kind != c.Kind) = true by simpa using hk, if_pos hk]; rfl
  rw [show (v.Kind != c.Kind) = false by simpa using hk, if_neg (by simpa using hk), cond_false, long_eq, bind_some']
  by_cases hl : v.Kind = 4 ∨ v.Kind = 5
  ·rw [bif_decT hl, bind_some']
   by_cases hm : (v.S.length : Int) > c.Max
   ·rw [if_pos ⟨hl, hm⟩, bif_decT hm]
   ·rw [if_neg (fun h => hm h.2), bif_decF hm]
  ·rw [bif_decF hl, bind_some', if_neg (fun h => hl h.1)]; rfl
theorem ref06_Fits_eq (c : ApiColumn) (v : ApiValue) (h : v.S.length < 4611686018427387904) : ref06_Fits c v = some (fitS c v) := by
 unfold ref06_Fits fitS
 rw [ref06_Valid_eq v h, bind_some']
 cases hv : val v with
 | false => rfl
 | true =>
  simp only [Bool.not_true, cond_false, Bool.true_eq_false, if_false]
  by_cases h0 : v.Kind = 0
  ·rw [show (v.Kind == 0) = true by simpa using h0, if_pos h0, show (v.Kind != 0) = false by simpa using h0, h0]
   cases c.Nulls <;> rfl
  rw [show (v.Kind == 0) = false by simpa using h0, if_neg h0, show (v.Kind != 0) = true by simpa using h0]
  simp only [cond_false, cond_true, bind_some']
  by_cases hk : v.Kind = c.Kind
  rotate_left
  ·rw [show (v.Kind != c.Kind) = true by simpa using hk, if_pos hk]; rfl
  rw [show (v.Kind != c.Kind) = false by simpa using hk, if_neg (by simpa using hk), cond_false]
  refine bo (a := decide ((v.Kind = 4 ∨ v.Kind = 5) ∧ (v.S.length : Int) > c.Max)) ?_ ?_
  ·by_cases h4 : v.Kind = 4
   ·rw [show (v.Kind == 4) = true by simpa using h4]; simp [h4]
   ·rw [show (v.Kind == 4) = false by simpa using h4]
    by_cases h5 : v.Kind = 5
    ·rw [show (v.Kind == 5) = true by simpa using h5]; simp [h5]
    ·rw [show (v.Kind == 5) = false by simpa using h5]; simp [h4, h5]
  ·by_cases q : (v.Kind = 4 ∨ v.Kind = 5) ∧ (v.S.length : Int) > c.Max
   ·rw [bif_decT q, if_pos q]
   ·rw [bif_decF q, if_neg q]
def colS (c : ApiColumn) : Int :=
 if nameS c.Name = false then 1 else if c.Kind < 1 ∨ c.Kind > 5 then 8 else if (if c.Kind = 4 ∨ c.Kind = 5 then c.Max < 1 ∨ c.Max > 64 else c.Max ≠ 0) then 7 else fitS c c.Default
theorem value_Column_eq (c : ApiColumn) (h : c.Name.length < 4611686018427387904) (h2 : c.Default.S.length < 4611686018427387904) : value_Column c = some (colS c) := by
 unfold value_Column colS
 rw [value_Name_eq _ h, bind_some']
 cases nameS c.Name with
 | false => rfl
 | true =>
  simp only [Bool.not_true, cond_false, Bool.true_eq_false, if_false]
  refine bo (a := decide (c.Kind < 1 ∨ c.Kind > 5)) ?_ ?_
  ·by_cases k1 : c.Kind < 1
   ·rw [bif_decT k1, decide_eq_true (Or.inl k1)]
   ·rw [bif_decF k1]; congr 1; exact decI (by omega)
  by_cases hk : c.Kind < 1 ∨ c.Kind > 5
  ·rw [bif_decT hk, if_pos hk]
  rw [bif_decF hk, if_neg hk]
  simp only [long_eq, bind_some']
  refine bo (a := decide (if c.Kind = 4 ∨ c.Kind = 5 then c.Max < 1 ∨ c.Max > 64 else c.Max ≠ 0)) ?_ ?_
  ·by_cases hl : c.Kind = 4 ∨ c.Kind = 5
   ·simp only [hl, decide_true, cond_true, if_true, Bool.not_true, cond_false]
    by_cases m1 : c.Max < 1
    ·rw [bif_decT m1]; simp [m1]
    ·rw [bif_decF m1]
     by_cases m2 : c.Max > 64
     ·rw [bif_decT m2]; simp [m2]
     ·rw [bif_decF m2]; simp [m1, m2]
   ·simp only [hl, decide_false, cond_false, if_false, Bool.not_false, cond_true]
    congr 1
    by_cases m : c.Max = 0
    ·simp [m]
    ·simp [m]
  by_cases q : (if c.Kind = 4 ∨ c.Kind = 5 then c.Max < 1 ∨ c.Max > 64 else c.Max ≠ 0)
  ·rw [bif_decT q, if_pos q]
  ·rw [bif_decF q, if_neg q, value_Fits_eq _ _ h2, bind_some']
theorem ref06_Column_eq (c : ApiColumn) (h : c.Name.length < 4611686018427387904) (h2 : c.Default.S.length < 4611686018427387904) : ref06_Column c = some (colS c) := by
 unfold ref06_Column colS
 rw [ref06_Name_eq _ h, bind_some']
 cases nameS c.Name with
 | false => rfl
 | true =>
  simp only [Bool.not_true, cond_false, Bool.true_eq_false, if_false]
  refine bo (a := decide (c.Kind < 1 ∨ c.Kind > 5)) ?_ ?_
  ·by_cases k1 : c.Kind < 1
   ·rw [bif_decT k1, decide_eq_true (Or.inl k1)]
   ·rw [bif_decF k1]; congr 1; exact decI (by omega)
  by_cases hk : c.Kind < 1 ∨ c.Kind > 5
  ·rw [bif_decT hk, if_pos hk]
  rw [bif_decF hk, if_neg hk]
  refine bo (a := decide (if c.Kind = 4 ∨ c.Kind = 5 then c.Max < 1 ∨ c.Max > 64 else c.Max ≠ 0)) ?_ ?_
  ·by_cases hl : c.Kind = 4 ∨ c.Kind = 5
   ·rw [bif_decF (by omega), bif_decT (by omega)]
    simp only [hl, if_true]
    by_cases m1 : c.Max < 1
    ·rw [bif_decT m1]; simp [m1]
    ·rw [bif_decF m1]; simp [m1]
   ·rw [bif_decT (by omega)]
    simp only [hl, if_false]
    by_cases m : c.Max = 0
    ·rw [show (c.Max != 0) = false by simpa using m, cond_false, bif_decF (by omega)]; simp [m]
    ·rw [show (c.Max != 0) = true by simpa using m]; simp [m]
  by_cases q : (if c.Kind = 4 ∨ c.Kind = 5 then c.Max < 1 ∨ c.Max > 64 else c.Max ≠ 0)
  ·rw [bif_decT q, if_pos q]
  ·rw [bif_decF q, if_neg q, ref06_Fits_eq _ _ h2, bind_some']
def OkC (c : ApiColumn) : Prop := c.Name.length < 4611686018427387904 ∧ c.Default.S.length < 4611686018427387904
def OkCs (l : List ApiColumn) : Prop := l.length < 4611686018427387904 ∧ ∀ c ∈ l, OkC c
def OkVs (l : List ApiValue) : Prop := l.length < 4611686018427387904 ∧ ∀ v ∈ l, v.S.length < 4611686018427387904
def colsS (l : List ApiColumn) : Bool := decide (1 ≤ l.length ∧ l.length ≤ 24) && l.all fun c => colS c == 0
def fitE (p : ApiColumn × ApiValue) : Option Int := if fitS p.1 p.2 = 0 then none else some (fitS p.1 p.2)
def fitsS (cols : List ApiColumn) (l : List ApiValue) : Int := if colsS cols = false ∨ l.length ≠ cols.length then 1 else ((cols.zip l).findSome? fitE).getD 0
theorem allb (l : List ApiColumn) : (l.any fun c => colS c != 0) = !(l.all fun c => colS c == 0) := by
 induction l with
 | nil => rfl
 | cons x r ih => rw [List.any_cons, List.all_cons, ih]; cases h : (colS x == 0) <;> simp [bne, h]
theorem row_columns_eq (l : List ApiColumn) (h : OkCs l) : row_columns l = some (colsS l) := by
 unfold row_columns
 have hl := h.1
 refine bo (a := colsS l) ?_ rfl
 by_cases h1 : l.length ≥ 1
 rotate_left
 ·rw [bif_decF (by omega), colsS, decide_eq_false (by omega)]; rfl
 rw [bif_decT (by omega)]
 by_cases h2 : l.length ≤ 24
 rotate_left
 ·rw [bif_decF (by omega), colsS, decide_eq_false (by omega)]; rfl
 rw [bif_decT (by omega)]
 refine bo (a := l.any fun c => colS c != 0) ?_ ?_
 ·unfold slices_ContainsFunc_api_Column_api_Column slices_IndexFunc_api_Column_api_Column
  refine bo (lqX l (fun c => colS c != 0) (fun i hi => ?_) ?_) (by rw [idxI_any])
  ·show (bif _ then _ else _) = _
   rw [bif_decT (by omega), getI_at hi, bind_some', row_columns_1, value_Column_eq _ (h.2 _ (List.getElem_mem hi)).1 (h.2 _ (List.getElem_mem hi)).2, bind_some', bind_some', w64_succ (by omega)]
   cases colS l[i] != 0 <;> rfl
  ·show (bif _ then _ else _) = _
   rw [bif_decF (by omega)]
 ·rw [allb, colsS, decide_eq_true ⟨h1, h2⟩, Bool.not_not]; rfl
theorem zipL {α β : Type} {a : List α} {b : List β} (h : b.length = a.length) : (a.zip b).length = a.length := by simp [h]
theorem fse_map (l : List (ApiColumn × ApiValue)) : l.findSome? (fun p => (fitE p).map fun x => (.inr x : Unit ⊕ Int)) = (l.findSome? fitE).map fun x => (.inr x : Unit ⊕ Int) := by
 induction l with
 | nil => rfl
 | cons x r ih => rw [List.findSome?_cons, List.findSome?_cons]; cases fitE x <;> simp [ih]
theorem row_Fits_eq (cols : List ApiColumn) (l : List ApiValue) (h : OkCs cols) (hv : OkVs l) : row_Fits cols l = some (fitsS cols l) := by
 unfold row_Fits fitsS
 have hl := hv.1
 refine bo (a := decide (colsS cols = false ∨ l.length ≠ cols.length)) ?_ ?_
 ·rw [row_columns_eq _ h, bind_some']
  cases colsS cols with
  | false => simp
  | true => rw [Bool.not_true, cond_false, nat_ne]; simp [bne, Bool.beq_eq_decide_eq]
 by_cases q : colsS cols = false ∨ l.length ≠ cols.length
 ·rw [bif_decT q, if_pos q]
 rw [bif_decF q, if_neg q]
 have e : l.length = cols.length := by rw [not_or] at q; simpa using q.2
 have z := zipL (a := cols) (b := l) e
 refine lpE (lq2 (cols.zip l) (fun p => (fitE p).map fun x => (.inr x : Unit ⊕ Int)) (.inl ()) (fun i => (i : Int)) (fun i hi => ?_) ?_ rfl) ?_
 ·show (bif _ then _ else _) = _
  rw [bif_decT (by omega), getI_at (by omega), bind_some', getI_at (by omega), bind_some', value_Fits_eq _ _ (hv.2 _ (List.getElem_mem _)), bind_some', w64_succ (by omega), List.getElem_zip]
  unfold fitE
  by_cases k : fitS cols[i] l[i] = 0
  ·simp [k]
  ·rw [if_neg k, show (fitS cols[i] l[i] != 0) = true by simpa using k]; rfl
 ·show (bif _ then _ else _) = _
  rw [bif_decF (by omega)]
 ·rw [fse_map]
  cases (cols.zip l).findSome? fitE <;> rfl
def putS (v : ApiValue) : List UInt8 :=
 if v.Kind = 0 then [1] else 0 :: (if v.Kind = 1 ∨ v.Kind = 2 then bytesN v.N 8 else if v.Kind = 3 then bytesN v.N 1 else if v.Kind = 4 ∨ v.Kind = 5 then bytesN (u64i v.S.length) 2 ++ v.S else [])
def rowS (l : List ApiValue) : List UInt8 := bytesN (u64i l.length) 1 ++ (l.map putS).flatten
theorem putS_len {v : ApiValue} (h : v.S.length ≤ 64) : (putS v).length ≤ 67 := by
 unfold putS
 repeat' split
 all_goals simp [bytesN_len] <;> omega
theorem flat_len : ∀ {l : List ApiValue}, (∀ v ∈ l, v.S.length ≤ 64) → ((l.map putS).flatten).length ≤ 67 * l.length
 | [], _ => by simp
 | v :: l, h => by
  have h1 := putS_len (h v (by simp))
  have h2 := flat_len (l := l) (fun v hv => h v (by simp [hv]))
  simp only [List.map_cons, List.flatten_cons, List.length_append, List.length_cons]
  omega
theorem u16_len (n : Nat) (h : n < 65536) : [((shr16 (u16i (n : Int)) 8).toUInt8), ((u16i (n : Int)).toUInt8)] = bytesN (u64i (n : Int)) 2 := by
 have e : (u16i (n : Int)).toNat = (u64i (n : Int)).toNat / 2 ^ 0 % 65536 := by
  unfold u16i u64i
  simp
  omega
 rw [u16_hi (u64i (n : Int)) 0 _ e, u16_lo (u64i (n : Int)) 0 _ e]
 rfl
theorem Out_Text_eq (s b : List UInt8) (h : s.length ≤ 65535) (hb : b.length ≤ 1048576) : pack_Out_Text s b = some (true, b ++ (bytesN (u64i s.length) 2 ++ s)) := by
 unfold pack_Out_Text
 rw [bind_some', bif_decF (by omega), Out_U16_eq _ _ (by omega), bind_some', bif_decT (by rw [room_val]; simp; omega), u16_len _ (by omega), List.append_assoc]
theorem k12 (v : ApiValue) : (bif v.Kind == 1 then some (v.Kind == 1) else some (v.Kind == 2)) = some (decide (v.Kind = 1 ∨ v.Kind = 2)) := by
 by_cases k : v.Kind = 1
 ·rw [k]; rfl
 ·rw [beq_eq_false_iff_ne.2 k, cond_false]; congr 1; simp [k, Bool.beq_eq_decide_eq]
theorem k45 (v : ApiValue) : (bif v.Kind == 4 then some (v.Kind == 4) else some (v.Kind == 5)) = some (decide (v.Kind = 4 ∨ v.Kind = 5)) := by
 by_cases k : v.Kind = 4
 ·rw [k]; rfl
 ·rw [beq_eq_false_iff_ne.2 k, cond_false]; congr 1; simp [k, Bool.beq_eq_decide_eq]
theorem num8 (n : UInt64) : bytesN n 1 = [n.toUInt8] := by
 rw [low8]; rfl
theorem row_put_eq (v : ApiValue) (b : List UInt8) (h : v.S.length ≤ 64) (hb : b.length ≤ 1000000) : row_put v b = some (b ++ putS v) := by
 unfold row_put
 refine bo (a := b ++ [if v.Kind = 0 then 1 else 0]) ?_ ?_
 ·unfold pack_Out_Flag_1
  by_cases k : v.Kind = 0
  ·rw [show (v.Kind == 0) = true by simpa using k, cond_true, out_put1 _ _ (by simp; omega), if_pos k]; rfl
  ·rw [show (v.Kind == 0) = false by simpa using k, cond_false, out_put1 _ _ (by simp; omega), if_neg k]; rfl
 rw [k12, bind_some']
 by_cases k1 : v.Kind = 1 ∨ v.Kind = 2
 ·rw [bif_decT k1, Out_U64_eq _ _ (by simp; omega), bind_some', bytes8_eq]
  unfold putS
  rw [if_neg (show ¬ v.Kind = 0 by omega), if_neg (show ¬ v.Kind = 0 by omega), if_pos k1]
  simp
 rw [bif_decF k1]
 by_cases k3 : v.Kind = 3
 ·rw [show (v.Kind == 3) = true by simpa using k3, cond_true]
  unfold pack_Out_U8
  rw [out_put1 _ _ (by simp; omega), bind_some', bind_some']
  unfold putS
  rw [if_neg (show ¬ v.Kind = 0 by omega), if_neg (show ¬ v.Kind = 0 by omega), if_neg k1, if_pos k3, num8]
  simp
 rw [show (v.Kind == 3) = false by simpa using k3, cond_false, k45, bind_some']
 by_cases k4 : v.Kind = 4 ∨ v.Kind = 5
 ·rw [bif_decT k4, Out_Text_eq _ _ (by omega) (by simp; omega), bind_some']
  unfold putS
  rw [if_neg (show ¬ v.Kind = 0 by omega), if_neg (show ¬ v.Kind = 0 by omega), if_neg k1, if_neg k3, if_pos k4]
  simp
 ·rw [bif_decF k4]
  unfold putS
  rw [if_neg k1, if_neg k3, if_neg k4]
  split <;> rfl
theorem rowS_take (l : List ApiValue) (b : List UInt8) (i : Nat) (hi : i < l.length) : b ++ ((l.take (i + 1)).map putS).flatten = (b ++ ((l.take i).map putS).flatten) ++ putS l[i] := by
 rw [List.take_succ_eq_append_getElem hi, List.map_append, List.flatten_append]
 simp
theorem short_take {l : List ApiValue} (h : ∀ v ∈ l, v.S.length ≤ 64) (i : Nat) : ∀ v ∈ l.take i, v.S.length ≤ 64 := fun v hv => h v (List.mem_of_mem_take hv)
theorem row_Encode_eq (cols : List ApiColumn) (l : List ApiValue) (h : OkCs cols) (hv : OkVs l) (hs : fitsS cols l = 0 → ∀ v ∈ l, v.S.length ≤ 64) (h24 : fitsS cols l = 0 → l.length ≤ 24) :
  row_Encode cols l = some (if fitsS cols l ≠ 0 then ([], fitsS cols l) else if (rowS l).length > 512 then ([], 7) else (rowS l, 0)) := by
 unfold row_Encode
 rw [row_Fits_eq cols l h hv, bind_some']
 by_cases q : fitsS cols l = 0
 rotate_left
 ·rw [show (fitsS cols l != 0) = true by simpa using q, cond_true, if_pos q]
 rw [show (fitsS cols l != 0) = false by simpa using q, cond_false, if_neg (by simpa using q)]
 have hs := hs q
 have h24 := h24 q
 have e1 : [u8i (l.length : Int)] = bytesN (u64i l.length) 1 := by
  rw [num8]; congr 1
  unfold u8i u64i
  apply UInt8.toNat_inj.1
  simp
  omega
 refine bo (a := ()) ?_ ?_
 ·unfold pack_Out_U8_1 pack_Out_put
  rw [bif_decT (by rw [room_val]; simp)]; rfl
 rw [e1]
 refine lpA (w := rowS l) (lq1 (fun i => ((i : Int), bytesN (u64i l.length) 1 ++ ((l.take i).map putS).flatten)) l.length (fun i hi => ?_) ?_ (by simp)) ?_
 ·have f := flat_len (short_take hs i)
  have tl : (l.take i).length ≤ 24 := by simp; omega
  show (bif _ then _ else _) = _
  rw [bif_decT (by omega), getI_at hi, bind_some', row_put_eq _ _ (hs _ (List.getElem_mem hi)) (by rw [List.length_append, bytesN_len]; omega), bind_some', w64_succ (by omega), rowS_take l _ i hi]
 ·show (bif _ then _ else _) = _
  rw [bif_decF (by omega), List.take_length]
  rfl
 ·have f := flat_len hs
  refine bo (a := ()) ?_ ?_
  ·unfold pack_Out_Bytes
   rw [bif_decT (by rw [room_val]; unfold rowS; rw [List.length_append, bytesN_len]; omega)]
  ·by_cases z : (rowS l).length > 512
   ·rw [bif_decT (by omega), if_pos z]
   ·rw [bif_decF (by omega), if_neg z]
theorem eqV (v w : ApiValue) : eqApiValue v w = decide (v = w) := by
 cases v; cases w
 simp only [eqApiValue, ApiValue.mk.injEq]
 rw [Bool.eq_iff_iff]
 simp
theorem eqlist_loop {α : Type} [DecidableEq α] (a b : List α) (eq : α → α → Bool) (heq : ∀ x y, eq x y = true ↔ x = y) (hl : a.length = b.length) {B : Int → Option (Int ⊕ (Unit ⊕ Bool))}
  (h : ∀ i (h1 : i < a.length) (h2 : i < b.length), B (i : Int) = some (if eq a[i] b[i] = true then .inl ((i + 1 : Nat) : Int) else .inr (.inr false))) (he : B (a.length : Int) = some (.inr (.inl ()))) :
  bindE (Option.bind (loop B 0) (Sum.elim (fun e => some (Sum.inl e)) (fun e => some (Sum.inr e)))) (fun _ => some true) (fun e => some e) = some (decide (a = b)) := by
 have hd : (∀ i (h1 : i < a.length) (h2 : i < b.length), a[i] = b[i]) ↔ a = b := ⟨fun h => List.ext_getElem hl fun i h1 h2 => h i h1 h2, fun h => by subst h; intros; rfl⟩
 have z : (a.zip b).length = a.length := by simp [hl]
 refine lpE (lq3 (a.zip b) (fun p => !eq p.1 p.2) (.inr false) (.inl ()) (fun i => (i : Int)) (fun i hi => ?_) ?_ rfl) ?_
 ·rw [h i (by omega) (by omega), List.getElem_zip]
  cases eq a[i] b[i] <;> rfl
 ·rw [z]; exact he
 ·by_cases q : (a.zip b).any (fun p => !eq p.1 p.2) = true
  ·rw [if_pos q]
   have : ¬ (∀ i (h1 : i < a.length) (h2 : i < b.length), a[i] = b[i]) := by
    intro k
    rw [List.any_eq_true] at q
    obtain ⟨p, hp, hq⟩ := q
    obtain ⟨i, hi, rfl⟩ := List.mem_iff_getElem.1 hp
    rw [List.getElem_zip] at hq
    have := (heq _ _).2 (k i (by omega) (by omega))
    simp [this] at hq
   rw [decide_eq_false (fun e => this (hd.2 e))]; rfl
  ·rw [if_neg q]
   have : ∀ i (h1 : i < a.length) (h2 : i < b.length), a[i] = b[i] := by
    intro i h1 h2
    rw [List.any_eq_true] at q
    refine (heq _ _).1 ?_
    cases hq : eq a[i] b[i] with
    | true => rfl
    | false =>
     exfalso
     refine q ⟨(a[i], b[i]), ?_, by simp [hq]⟩
     exact List.mem_iff_getElem.2 ⟨i, by omega, by rw [List.getElem_zip]⟩
   rw [decide_eq_true (hd.1 this)]; rfl
theorem slices_Equal_V_eq (a b : List ApiValue) (h : a.length < 4611686018427387904) : slices_Equal_api_Value_api_Value a b = some (decide (a = b)) := by
 unfold slices_Equal_api_Value_api_Value
 rw [nat_ne]
 by_cases hl : a.length = b.length
 rotate_left
 ·rw [show (a.length != b.length) = true by simpa using hl, cond_true, decide_eq_false (fun e => hl (by rw [e]))]
 rw [show (a.length != b.length) = false by simpa using hl, cond_false]
 refine (eqlist_loop a b eqApiValue (fun x y => by rw [eqV]; simp) hl (fun i h1 h2 => ?_) ?_)
 ·show (bif _ then _ else _) = _
  rw [bif_decT (by omega), getI_at h1, bind_some', getI_at h2, bind_some', w64_succ (by omega)]
  cases eqApiValue a[i] b[i] <;> rfl
 ·show (bif _ then _ else _) = _
  rw [bif_decF (by omega)]
theorem firstF_none {α W : Type} {f : Nat → α → Option W} : ∀ {l : List α} {i : Nat}, firstF f i l = none ↔ ∀ j (h : j < l.length), f (i + j) (l[j]'h) = none
 | [], i => by simp [firstF]
 | x :: r, i => by
  rw [firstF]
  cases hf : f i x with
  | some w =>
   simp only [reduceCtorEq, false_iff]
   intro h
   have := h 0 (by simp)
   simp [hf] at this
  | none =>
   simp only
   rw [firstF_none (l := r) (i := i + 1)]
   constructor
   ·intro h j hj
    cases j with
    | zero => simpa using hf
    | succ j => have := h j (by simpa using hj); simpa [Nat.add_assoc, Nat.add_comm 1 j] using this
   ·intro h j hj
    have := h (j + 1) (by simpa using hj)
    simpa [Nat.add_assoc, Nat.add_comm 1 j] using this
def OkX (x : ApiIndex) : Prop := x.Name.length < 4611686018427387904 ∧ x.Parts.length < 4611686018427387904 ∧ x.Extra.length < 4611686018427387904
structure OkT (t : ApiTable) : Prop where
 name : t.Name.length < 4611686018427387904
 cols : OkCs t.Cols
 prim : t.Primary.length < 4611686018427387904
 idxs : t.Indexes.length < 4611686018427387904
 idx : ∀ x ∈ t.Indexes, OkX x
def hasS (l : List Int) (x : Int) : Bool := l.any fun y => y == x
theorem ref17_Has_eq (l : List Int) (x : Int) (h : l.length < 4611686018427387904) : ref17_Has l x = some (hasS l x) := by
 unfold ref17_Has
 refine lpE (lq3 l (fun y => y == x) (.inr true) (.inl ()) (fun i => (i : Int)) (fun i hi => ?_) ?_ rfl) ?_
 ·show (bif _ then _ else _) = _
  rw [bif_decT (by omega), getI_at hi, bind_some', w64_succ (by omega)]
  cases l[i] == x <;> rfl
 ·show (bif _ then _ else _) = _
  rw [bif_decF (by omega)]
 ·unfold hasS; cases (l.any fun y => y == x) <;> rfl
def plE (n : Int) (l : List Int) (i : Nat) (c : Int) : Option Unit := if c < 0 ∨ c ≥ n ∨ hasS (l.take i) c = true then some () else none
def placesS (n : Int) (l : List Int) : Bool := (firstF (plE n l) 0 l).isNone
theorem ref17_places_eq (n : Int) (l : List Int) (h : l.length < 4611686018427387904) : ref17_places n l = some (placesS n l) := by
 unfold ref17_places
 refine lpE (lq5 l (fun i c => (plE n l i c).map fun _ => (.inr false : Unit ⊕ Bool)) (.inl ()) (fun i => (i : Int)) (fun i hi => ?_) ?_ rfl) ?_
 ·show (bif _ then _ else _) = _
  rw [bif_decT (by omega), getI_at hi, w64_succ (by omega)]
  simp only [bind_some']
  refine bo (a := decide (l[i] < 0 ∨ l[i] ≥ n ∨ hasS (l.take i) l[i] = true)) ?_ ?_
  ·by_cases h1 : l[i] < 0
   ·rw [bif_decT h1]; simp [h1]
   rw [bif_decF h1]
   by_cases h2 : l[i] ≥ n
   ·rw [bif_decT h2]; simp [h2]
   rw [bif_decF h2, bif_decT (by omega), Int.toNat_natCast, ref17_Has_eq _ _ (by simp; omega), bind_some']
   simp [h1, h2]
  ·unfold plE
   by_cases q : l[i] < 0 ∨ l[i] ≥ n ∨ hasS (l.take i) l[i] = true
   ·rw [bif_decT q, if_pos q]; rfl
   ·rw [bif_decF q, if_neg q]; rfl
 ·show (bif _ then _ else _) = _
  rw [bif_decF (by omega)]
 ·unfold placesS
  have key : ∀ (r : List Int) (i : Nat), firstF (fun i c => (plE n l i c).map fun _ => (.inr false : Unit ⊕ Bool)) i r = (firstF (plE n l) i r).map fun _ => .inr false := by
   intro r
   induction r with
   | nil => intro i; rfl
   | cons x r ih => intro i; rw [firstF, firstF]; cases plE n l i x <;> simp [ih]
  rw [key]
  cases firstF (plE n l) 0 l <;> rfl
theorem placesS_in {n : Int} {l : List Int} (h : placesS n l = true) : ∀ c ∈ l, 0 ≤ c ∧ c < n := by
 unfold placesS at h
 rw [Option.isNone_iff_eq_none, firstF_none] at h
 intro c hc
 obtain ⟨i, hi, rfl⟩ := List.mem_iff_getElem.1 hc
 have := h i hi
 unfold plE at this
 split at this
 ·cases this
 ·rename_i q; rw [not_or, not_or] at q; omega
theorem placesS_nodup {n : Int} {l : List Int} (h : placesS n l = true) : l.Nodup := by
 unfold placesS at h
 rw [Option.isNone_iff_eq_none, firstF_none] at h
 show List.Pairwise (· ≠ ·) l
 rw [List.pairwise_iff_getElem]
 intro i j hi hj hij e
 have := h j hj
 unfold plE at this
 split at this
 ·cases this
 ·rename_i q
  rw [not_or, not_or] at q
  refine q.2.2 ?_
  unfold hasS
  rw [List.any_eq_true]
  refine ⟨l[i], ?_, by simp [e]⟩
  rw [Nat.zero_add]
  exact List.mem_iff_getElem.2 ⟨i, by simp; omega, by simp⟩
theorem map_ts {α β : Type} (f : α → β) (l : List α) {i : Nat} (hi : i < l.length) : (l.take (i + 1)).map f = (l.take i).map f ++ [f l[i]] := by
 rw [List.take_succ_eq_append_getElem hi, List.map_append]; rfl
def upS (l : List Int) : List ApiPart := l.map fun c => ⟨c, false⟩
theorem ref17_Up_eq (l : List Int) (h : l.length ≤ 1048576) : ref17_Up l = some (upS l) := by
 unfold ref17_Up
 refine lpA (w := upS l) (lq1 (fun i => (upS (l.take i), (i : Int))) l.length (fun i hi => ?_) ?_ rfl) rfl
 ·show (bif _ then _ else _) = _
  rw [bif_decT (by omega), getI_at hi, bind_some', bif_decT (by rw [room_val]; simp [upS]; omega), w64_succ (by omega), show upS (l.take (i + 1)) = _ from map_ts _ l hi]
  rfl
 ·show (bif _ then _ else _) = _
  rw [bif_decF (by omega), List.take_length]
theorem schema_up_eq (l : List Int) (h : l.length ≤ 1048576) : schema_up l = some (upS l) := by
 unfold schema_up
 refine lpA (w := upS l) (lq1 (fun i => (upS (l.take i), (i : Int))) l.length (fun i hi => ?_) ?_ rfl) rfl
 ·show (bif _ then _ else _) = _
  rw [bif_decT (by omega), getI_at hi, bind_some', bif_decT (by rw [room_val]; simp [upS]; omega), w64_succ (by omega), show upS (l.take (i + 1)) = _ from map_ts _ l hi]
  rfl
 ·show (bif _ then _ else _) = _
  rw [bif_decF (by omega), List.take_length]
def colsOf (l : List ApiPart) : List Int := l.map (·.Col)
theorem ref17_Cols_eq (l : List ApiPart) (h : l.length ≤ 1048576) : ref17_Cols l = some (colsOf l) := by
 unfold ref17_Cols
 refine lpA (w := colsOf l) (lq1 (fun i => (colsOf (l.take i), (i : Int))) l.length (fun i hi => ?_) ?_ rfl) rfl
 ·show (bif _ then _ else _) = _
  rw [bif_decT (by omega), getI_at hi, bind_some', bif_decT (by rw [room_val]; simp [colsOf]; omega), w64_succ (by omega), show colsOf (l.take (i + 1)) = _ from map_ts _ l hi]
  rfl
 ·show (bif _ then _ else _) = _
  rw [bif_decF (by omega), List.take_length]
def wideS (c : ApiColumn) (each : Int) : Int := if c.Kind = 1 ∨ c.Kind = 2 then 9 else if c.Kind = 3 then 2 else 3 + each * c.Max
theorem colS_ok {c : ApiColumn} (h : colS c = 0) : nameS c.Name = true ∧ 1 ≤ c.Kind ∧ c.Kind ≤ 5 ∧ (if c.Kind = 4 ∨ c.Kind = 5 then 1 ≤ c.Max ∧ c.Max ≤ 64 else c.Max = 0) ∧ fitS c c.Default = 0 := by
 unfold colS at h
 by_cases h1 : nameS c.Name = false
 ·rw [if_pos h1] at h; cases h
 rw [if_neg h1] at h
 by_cases h2 : c.Kind < 1 ∨ c.Kind > 5
 ·rw [if_pos h2] at h; cases h
 rw [if_neg h2] at h
 by_cases h3 : (if c.Kind = 4 ∨ c.Kind = 5 then c.Max < 1 ∨ c.Max > 64 else c.Max ≠ 0)
 ·rw [if_pos h3] at h; cases h
 rw [if_neg h3] at h
 refine ⟨by simpa using h1, by omega, by omega, ?_, h⟩
 by_cases k : c.Kind = 4 ∨ c.Kind = 5
 ·rw [if_pos k] at h3 ⊢; omega
 ·rw [if_neg k] at h3 ⊢; omega
theorem colS_max {c : ApiColumn} (h : colS c = 0) : 0 ≤ c.Max ∧ c.Max ≤ 64 := by
 have := (colS_ok h).2.2.2.1
 split at this <;> omega
theorem ref17_wide_eq (c : ApiColumn) (each : Int) (hc : 0 ≤ c.Max ∧ c.Max ≤ 64) (he : each = 1 ∨ each = 2) : ref17_wide c each = some (wideS c each) := by
 unfold ref17_wide wideS
 refine bo (a := decide (c.Kind = 1 ∨ c.Kind = 2)) ?_ ?_
 ·by_cases k : c.Kind = 1
  ·rw [k]; rfl
  ·rw [beq_eq_false_iff_ne.2 k, cond_false]; congr 1; simp [k, Bool.beq_eq_decide_eq]
 by_cases k : c.Kind = 1 ∨ c.Kind = 2
 ·rw [bif_decT k, if_pos k]
 rw [bif_decF k, if_neg k]
 by_cases k3 : c.Kind = 3
 ·rw [show (c.Kind == 3) = true by simpa using k3, cond_true, if_pos k3]
 rw [show (c.Kind == 3) = false by simpa using k3, cond_false, if_neg k3]
 have hm : 0 ≤ each * c.Max ∧ each * c.Max ≤ 128 := by rcases he with rfl | rfl <;> omega
 generalize each * c.Max = m at hm ⊢
 rw [w64_id (n := m) (by omega) (by omega), w64_id (by omega) (by omega)]
theorem wideS_le {c : ApiColumn} {each : Int} (hc : 0 ≤ c.Max ∧ c.Max ≤ 64) (he : each = 1 ∨ each = 2) : 0 ≤ wideS c each ∧ wideS c each ≤ 131 := by
 unfold wideS
 have hm : 0 ≤ each * c.Max ∧ each * c.Max ≤ 128 := by rcases he with rfl | rfl <;> omega
 repeat' split
 all_goals omega
theorem sum_bound {α : Type} (f : α → Int) : ∀ {l : List α}, (∀ x ∈ l, 0 ≤ f x ∧ f x ≤ 131) → 0 ≤ (l.map f).sum ∧ (l.map f).sum ≤ 131 * l.length
 | [], _ => by simp
 | x :: l, h => by
  have h1 := h x (by simp)
  have h2 := sum_bound f (l := l) (fun y hy => h y (by simp [hy]))
  simp only [List.map_cons, List.sum_cons, List.length_cons]
  omega
theorem sum_take (l : List Int) (i : Nat) (hi : i < l.length) : (l.take (i + 1)).sum = (l.take i).sum + l[i] := by
 rw [List.take_succ_eq_append_getElem hi, List.sum_append]
 simp only [List.sum_cons, List.sum_nil, Int.add_zero]
def rowMaxS (l : List ApiColumn) : Int := 1 + (l.map fun c => wideS c 1).sum
theorem ref17_RowMax_eq (l : List ApiColumn) (h : l.length ≤ 24) (hc : ∀ c ∈ l, 0 ≤ c.Max ∧ c.Max ≤ 64) : ref17_RowMax l = some (rowMaxS l) := by
 unfold ref17_RowMax
 refine lpA (w := rowMaxS l) (lq1 (fun i => (rowMaxS (l.take i), (i : Int))) l.length (fun i hi => ?_) ?_ rfl) rfl
 ·have b := sum_bound (fun c => wideS c 1) (l := l.take i) (fun c h => wideS_le (hc c (List.mem_of_mem_take h)) (.inl rfl))
  have w := wideS_le (each := 1) (hc _ (List.getElem_mem hi)) (.inl rfl)
  have tl : (l.take i).length ≤ 24 := by simp; omega
  show (bif _ then _ else _) = _
  rw [bif_decT (by omega), getI_at hi, bind_some', ref17_wide_eq _ _ (hc _ (List.getElem_mem hi)) (.inl rfl), bind_some', w64_succ (by omega)]
  have e : rowMaxS (l.take (i + 1)) = rowMaxS (l.take i) + wideS l[i] 1 := by
   unfold rowMaxS
   rw [List.map_take, List.map_take, sum_take _ _ (by simpa using hi)]; simp; omega
  rw [e, w64_id (by unfold rowMaxS; omega) (by unfold rowMaxS; omega)]
 ·show (bif _ then _ else _) = _
  rw [bif_decF (by omega), List.take_length]
def colAt (cols : List ApiColumn) (i : Int) : ApiColumn := (cols[i.toNat]?).getD default
theorem colAt_eq {cols : List ApiColumn} {i : Int} (h : 0 ≤ i ∧ i < cols.length) : getI cols i = some (colAt cols i) := by
 unfold getI colAt
 rw [if_pos h.1]
 have hl : i.toNat < cols.length := by omega
 rw [List.getElem?_eq_getElem hl]; rfl
theorem colAt_mem {cols : List ApiColumn} {i : Int} (h : 0 ≤ i ∧ i < cols.length) : colAt cols i ∈ cols := by
 unfold colAt
 have hl : i.toNat < cols.length := by omega
 rw [List.getElem?_eq_getElem hl]; exact List.getElem_mem hl
def keyMaxS (cols : List ApiColumn) (l : List ApiPart) : Int := (l.map fun p => wideS (colAt cols p.Col) 2).sum
theorem ref17_KeyMax_eq (cols : List ApiColumn) (l : List ApiPart) (h : l.length ≤ 1048576) (hp : ∀ p ∈ l, 0 ≤ p.Col ∧ p.Col < cols.length) (hc : ∀ c ∈ cols, 0 ≤ c.Max ∧ c.Max ≤ 64) : ref17_KeyMax cols l = some (keyMaxS cols l) := by
 unfold ref17_KeyMax
 refine lpA (w := keyMaxS cols l) (lq1 (fun i => (keyMaxS cols (l.take i), (i : Int))) l.length (fun i hi => ?_) ?_ rfl) rfl
 ·have b := sum_bound (fun p : ApiPart => wideS (colAt cols p.Col) 2) (l := l.take i) (fun p h => wideS_le (hc _ (colAt_mem (hp p (List.mem_of_mem_take h)))) (.inr rfl))
  have hq := hp _ (List.getElem_mem hi)
  have w := wideS_le (each := 2) (hc _ (colAt_mem hq)) (.inr rfl)
  have tl : (l.take i).length ≤ 1048576 := by simp; omega
  show (bif _ then _ else _) = _
  rw [bif_decT (by omega), getI_at hi, bind_some', colAt_eq hq, bind_some', ref17_wide_eq _ _ (hc _ (colAt_mem hq)) (.inr rfl), bind_some', w64_succ (by omega)]
  have e : keyMaxS cols (l.take (i + 1)) = keyMaxS cols (l.take i) + wideS (colAt cols l[i].Col) 2 := by
   unfold keyMaxS
   rw [List.map_take, List.map_take, sum_take _ _ (by simpa using hi)]; simp
  rw [e, w64_id (by unfold keyMaxS; omega) (by unfold keyMaxS; omega)]
 ·show (bif _ then _ else _) = _
  rw [bif_decF (by omega), List.take_length]
def indexS (t : ApiTable) (x : ApiIndex) : Int :=
 if x.Parts.length < 1 ∨ x.Parts.length > 4 ∨ placesS t.Cols.length (colsOf x.Parts) = false ∨ placesS t.Cols.length x.Extra = false then 1
 else if (x.Extra.any fun c => hasS (colsOf x.Parts) c || hasS t.Primary c) = true then 1
 else if keyMaxS t.Cols x.Parts > 128 then 7 else 0
theorem parts_in {n : Int} {l : List ApiPart} (h : placesS n (colsOf l) = true) : ∀ p ∈ l, 0 ≤ p.Col ∧ p.Col < n := fun p hp => placesS_in h p.Col (List.mem_map.2 ⟨p, hp, rfl⟩)
theorem ref17_index_eq (t : ApiTable) (x : ApiIndex) (hc : ∀ c ∈ t.Cols, 0 ≤ c.Max ∧ c.Max ≤ 64) (hx : OkX x) (hp : t.Primary.length < 4611686018427387904) : ref17_index t x = some (indexS t x) := by
 unfold ref17_index indexS
 obtain ⟨o1, o2, o3⟩ := hx
 refine bo (a := decide (x.Parts.length < 1 ∨ x.Parts.length > 4 ∨ placesS t.Cols.length (colsOf x.Parts) = false ∨ placesS t.Cols.length x.Extra = false)) ?_ ?_
 ·by_cases h1 : x.Parts.length < 1
  ·rw [bif_decT (by omega), decide_eq_true (.inl h1)]
  rw [bif_decF (by omega)]
  by_cases h2 : x.Parts.length > 4
  ·rw [bif_decT (by omega), decide_eq_true (.inr (.inl h2))]
  rw [bif_decF (by omega), ref17_Cols_eq _ (by omega), bind_some', ref17_places_eq _ _ (by simp [colsOf]; omega), bind_some']
  cases p1 : placesS t.Cols.length (colsOf x.Parts) with
  | false => simp
  | true =>
   rw [Bool.not_true, cond_false, ref17_places_eq _ _ o3, bind_some']
   cases p2 : placesS t.Cols.length x.Extra <;> simp [h1, h2]
 by_cases q : x.Parts.length < 1 ∨ x.Parts.length > 4 ∨ placesS t.Cols.length (colsOf x.Parts) = false ∨ placesS t.Cols.length x.Extra = false
 ·rw [bif_decT q, if_pos q]
 rw [bif_decF q, if_neg q]
 simp only [not_or, Bool.not_eq_false] at q
 refine lpE (lq3 x.Extra (fun c => hasS (colsOf x.Parts) c || hasS t.Primary c) (.inr 1) (.inl ()) (fun i => (i : Int)) (fun i hi => ?_) ?_ rfl) ?_
 ·show (bif _ then _ else _) = _
  rw [bif_decT (by omega), getI_at hi, w64_succ (by omega), ref17_Cols_eq _ (by omega)]
  simp only [bind_some']
  rw [ref17_Has_eq _ _ (by simp [colsOf]; omega), bind_some', ref17_Has_eq _ _ hp]
  cases hasS (colsOf x.Parts) x.Extra[i] <;> cases hasS t.Primary x.Extra[i] <;> rfl
 ·show (bif _ then _ else _) = _
  rw [bif_decF (by omega)]
 ·cases (x.Extra.any fun c => hasS (colsOf x.Parts) c || hasS t.Primary c) with
  | true => rfl
  | false =>
   simp only [Bool.false_eq_true, if_false, Sum.elim_inl]
   rw [ref17_KeyMax_eq _ _ (by omega) (parts_in q.2.2.1) hc, bind_some']
   by_cases k : keyMaxS t.Cols x.Parts > 128
   ·rw [bif_decT k, if_pos k]
   ·rw [bif_decF k, if_neg k]
def colE (l : List ApiColumn) (i : Nat) (c : ApiColumn) : Option Int := if colS c ≠ 0 then some (colS c) else if ((l.take i).any fun d => d.Name == c.Name) = true then some 6 else none
def idxE (t : ApiTable) (i : Nat) (x : ApiIndex) : Option Int :=
 if nameS x.Name = false then some 1 else if ((t.Indexes.take i).any fun y => y.Name == x.Name) = true then some 6 else if indexS t x ≠ 0 then some (indexS t x) else none
def chkS (t : ApiTable) : Int :=
 if nameS t.Name = false then 1 else if t.Cols.length < 1 ∨ t.Cols.length > 24 then 7 else match firstF (colE t.Cols) 0 t.Cols with
 | some e => e
 | none => if t.Primary.length < 1 ∨ t.Primary.length > 4 ∨ placesS t.Cols.length t.Primary = false then 1
  else if (t.Primary.any fun c => (colAt t.Cols c).Nulls) = true then 1
  else if rowMaxS t.Cols > 512 ∨ keyMaxS t.Cols (upS t.Primary) > 128 ∨ t.Indexes.length > 6 then 7
  else match firstF (idxE t) 0 t.Indexes with
   | some e => e
   | none => 0
theorem up_in {n : Int} {l : List Int} (h : placesS n l = true) : ∀ p ∈ upS l, 0 ≤ p.Col ∧ p.Col < n := by
 intro p hp
 obtain ⟨c, hc, rfl⟩ := List.mem_map.1 hp
 exact placesS_in h c hc
theorem firstF_map {α W V : Type} (f : Nat → α → Option W) (g : W → V) : ∀ (l : List α) (i : Nat), firstF (fun i x => (f i x).map g) i l = (firstF f i l).map g
 | [], i => rfl
 | x :: r, i => by rw [firstF, firstF]; cases f i x <;> simp [firstF_map f g r]
theorem cols_of_none {l : List ApiColumn} (h : firstF (colE l) 0 l = none) : ∀ c ∈ l, colS c = 0 := by
 rw [firstF_none] at h
 intro c hc
 obtain ⟨i, hi, rfl⟩ := List.mem_iff_getElem.1 hc
 have := h i hi
 unfold colE at this
 by_cases q : colS l[i] = 0
 ·exact q
 ·rw [if_pos q] at this; cases this
theorem ref17_Check_eq (t : ApiTable) (h : OkT t) : ref17_Check t = some (chkS t) := by
  unfold ref17_Check chkS
  rw [ref06_Name_eq _ h.name, bind_some']
  cases nameS t.Name with
  | false => rfl
  | true =>
  rw [Bool.not_true, cond_false, if_neg (by simp)]
  refine bo (a := decide (t.Cols.length < 1 ∨ t.Cols.length > 24)) ?_ ?_
  · by_cases k : t.Cols.length < 1
    · rw [bif_decT (by omega)]; simp [k]
    · rw [bif_decF (by omega)]; congr 1; exact decI (by omega)
  by_cases q : t.Cols.length < 1 ∨ t.Cols.length > 24
  · rw [bif_decT q, if_pos q]
  rw [bif_decF q, if_neg q]
  refine lpE (lq5 t.Cols (fun i c => (colE t.Cols i c).map fun e => (.inr e : Unit ⊕ Int)) (.inl ()) (fun i => (i : Int)) (fun i hi => ?_) ?_ rfl) ?_
  · have hm := List.getElem_mem hi
    show (bif _ then _ else _) = _
    rw [bif_decT (by omega), getI_at hi, w64_succ (by omega)]
    unfold colE
    refine (?_ : bindE _ _ _ = _)
    simp only [bind_some']
    rw [ref06_Column_eq _ (h.cols.2 _ hm).1 (h.cols.2 _ hm).2, bind_some']
    by_cases k : colS t.Cols[i] = 0
    rotate_left
    · rw [show (colS t.Cols[i] != 0) = true by simpa using k, cond_true, bindE_r, if_pos k]; rfl
    rw [show (colS t.Cols[i] != 0) = false by simpa using k, cond_false, if_neg (by simpa using k)]
    have tl : (t.Cols.take i).length = i := by simp; omega
    have inner := lq3 (y0 := (0 : Int)) (B := (fun y590 : Int =>
                      bif (decide (y590 < (i : Int))) then
                        Option.bind (getI t.Cols y590) fun v596 =>
                        bif (v596.Name == t.Cols[i].Name) then
                          some (Sum.inr (Sum.inr (6 : Int)))
                        else
                          some (Sum.inl (w64 (y590 + (1 : Int))))
                      else
                        some (Sum.inr (Sum.inl ())))) (t.Cols.take i) (fun d => d.Name == t.Cols[i].Name) (.inr 6) (.inl ()) (fun j => (j : Int)) (fun j hj => by
          show (bif _ then _ else _) = _
          rw [bif_decT (by omega), getI_at (by omega), bind_some', w64_succ (by omega), List.getElem_take]
          cases t.Cols[j].Name == t.Cols[i].Name <;> rfl) (by
          show (bif _ then _ else _) = _
          rw [bif_decF (by omega)]) rfl
    cases ha : ((t.Cols.take i).any fun d => d.Name == t.Cols[i].Name) with
    | true =>
      rw [ha] at inner
      rw [inner]; rfl
    | false =>
      rw [ha] at inner
      rw [inner]; rfl
  · show (bif _ then _ else _) = _
    rw [bif_decF (by omega)]
  rw [firstF_map]
  cases hc : firstF (colE t.Cols) 0 t.Cols with
  | some e => rfl
  | none =>
  have hcol := cols_of_none hc
  have hmax : ∀ c ∈ t.Cols, 0 ≤ c.Max ∧ c.Max ≤ 64 := fun c hm => colS_max (hcol c hm)
  simp only [Option.map_none, Option.getD_none, Sum.elim_inl]
  refine bo (a := decide (t.Primary.length < 1 ∨ t.Primary.length > 4 ∨ placesS t.Cols.length t.Primary = false)) ?_ ?_
  · by_cases k : t.Primary.length < 1
    · rw [bif_decT (by omega)]; simp [k]
    rw [bif_decF (by omega)]
    by_cases k2 : t.Primary.length > 4
    · rw [bif_decT (by omega)]; simp [k2]
    rw [bif_decF (by omega), ref17_places_eq _ _ h.prim, bind_some']
    cases placesS t.Cols.length t.Primary <;> simp [k, k2]
  by_cases q2 : t.Primary.length < 1 ∨ t.Primary.length > 4 ∨ placesS t.Cols.length t.Primary = false
  · rw [bif_decT q2, if_pos q2]
  rw [bif_decF q2, if_neg q2]
  simp only [not_or, Bool.not_eq_false] at q2
  refine lpE (lq3 t.Primary (fun c => (colAt t.Cols c).Nulls) (.inr 1) (.inl ()) (fun i => (i : Int)) (fun i hi => ?_) ?_ rfl) ?_
  · show (bif _ then _ else _) = _
    rw [bif_decT (by omega), getI_at hi, bind_some', colAt_eq (placesS_in q2.2.2 _ (List.getElem_mem hi)), bind_some', w64_succ (by omega)]
    cases (colAt t.Cols t.Primary[i]).Nulls <;> rfl
  · show (bif _ then _ else _) = _
    rw [bif_decF (by omega)]
  cases (t.Primary.any fun c => (colAt t.Cols c).Nulls) with
  | true => rfl
  | false =>
  simp only [Bool.false_eq_true, if_false, Sum.elim_inl]
  refine bo (a := decide (rowMaxS t.Cols > 512 ∨ keyMaxS t.Cols (upS t.Primary) > 128 ∨ t.Indexes.length > 6)) ?_ ?_
  · rw [ref17_RowMax_eq _ (by omega) hmax, bind_some']
    by_cases k : rowMaxS t.Cols > 512
    · rw [bif_decT k]; simp [k]
    rw [bif_decF k, ref17_Up_eq _ (by omega), bind_some', ref17_KeyMax_eq _ _ (by simp [upS]; omega) (up_in q2.2.2) hmax, bind_some']
    by_cases k2 : keyMaxS t.Cols (upS t.Primary) > 128
    · rw [bif_decT k2]; simp [k2]
    rw [bif_decF k2]; congr 1; simp only [k, k2, false_or]; exact decI (by omega)
  by_cases q3 : rowMaxS t.Cols > 512 ∨ keyMaxS t.Cols (upS t.Primary) > 128 ∨ t.Indexes.length > 6
  · rw [bif_decT q3, if_pos q3]
  rw [bif_decF q3, if_neg q3]
  refine lpE (lq5 t.Indexes (fun i x => (idxE t i x).map fun e => (.inr e : Unit ⊕ Int)) (.inl ()) (fun i => (i : Int)) (fun i hi => ?_) ?_ rfl) ?_
  · have hm := List.getElem_mem hi
    show (bif _ then _ else _) = _
    rw [bif_decT (by omega), getI_at hi, w64_succ (by omega)]
    unfold idxE
    refine (?_ : bindE _ _ _ = _)
    simp only [bind_some']
    rw [ref06_Name_eq _ (h.idx _ hm).1, bind_some']
    cases hn : nameS t.Indexes[i].Name with
    | false => rfl
    | true =>
    rw [Bool.not_true, cond_false, if_neg (by simp)]
    have tl : (t.Indexes.take i).length = i := by simp; omega
    have inner := lq3 (y0 := (0 : Int)) (B := (fun y874 : Int =>
                                    bif (decide (y874 < (i : Int))) then
                                      Option.bind (getI t.Indexes y874) fun v879 =>
                                      bif (v879.Name == t.Indexes[i].Name) then
                                        some (Sum.inr (Sum.inr (6 : Int)))
                                      else
                                        some (Sum.inl (w64 (y874 + (1 : Int))))
                                    else
                                      some (Sum.inr (Sum.inl ())))) (t.Indexes.take i) (fun d => d.Name == t.Indexes[i].Name) (.inr 6) (.inl ()) (fun j => (j : Int)) (fun j hj => by
          show (bif _ then _ else _) = _
          rw [bif_decT (by omega), getI_at (by omega), bind_some', w64_succ (by omega), List.getElem_take]
          cases t.Indexes[j].Name == t.Indexes[i].Name <;> rfl) (by
          show (bif _ then _ else _) = _
          rw [bif_decF (by omega)]) rfl
    rw [inner]
    cases ha : ((t.Indexes.take i).any fun d => d.Name == t.Indexes[i].Name) with
    | true => rfl
    | false =>
      simp only [Bool.false_eq_true, if_false]
      rw [ref17_index_eq t _ hmax (h.idx _ hm) h.prim]
      by_cases k : indexS t t.Indexes[i] = 0
      · rw [k]; rfl
      · rw [if_pos k]
        refine beE (x := indexS t t.Indexes[i]) ?_ rfl
        refine beY (y := ()) rfl ?_
        rw [bind_some', show (indexS t t.Indexes[i] != 0) = true by simpa using k]; rfl
  · show (bif _ then _ else _) = _
    rw [bif_decF (by omega)]
  rw [firstF_map]
  cases firstF (idxE t) 0 t.Indexes <;> rfl
structure Right (t : ApiTable) : Prop where
 len : 1 ≤ t.Cols.length ∧ t.Cols.length ≤ 24
 col : ∀ c ∈ t.Cols, colS c = 0
 pri : 1 ≤ t.Primary.length ∧ t.Primary.length ≤ 4
 pla : placesS t.Cols.length t.Primary = true
 row : rowMaxS t.Cols ≤ 512
 key : keyMaxS t.Cols (upS t.Primary) ≤ 128
 ixs : t.Indexes.length ≤ 6
 idx : ∀ x ∈ t.Indexes, indexS t x = 0
theorem Right.of {t : ApiTable} (h : chkS t = 0) : Right t := by
 unfold chkS at h
 by_cases h1 : nameS t.Name = false
 ·rw [if_pos h1] at h; cases h
 rw [if_neg h1] at h
 by_cases h2 : t.Cols.length < 1 ∨ t.Cols.length > 24
 ·rw [if_pos h2] at h; cases h
 rw [if_neg h2] at h
 cases h3 : firstF (colE t.Cols) 0 t.Cols with
 | some e =>
  rw [h3] at h
  exfalso
  have : ∀ (l : List ApiColumn) (i : Nat) (e : Int), firstF (colE t.Cols) i l = some e → e ≠ 0 := by
   intro l
   induction l with
   | nil => intro i e h; cases h
   | cons x r ih =>
    intro i e h
    rw [firstF] at h
    cases hx : colE t.Cols i x with
    | none => rw [hx] at h; exact ih _ _ h
    | some e' =>
     rw [hx] at h
     cases h
     unfold colE at hx
     by_cases q : colS x = 0
     ·rw [if_neg (by simpa using q)] at hx
      by_cases q2 : ((t.Cols.take i).any fun d => d.Name == x.Name) = true
      ·rw [if_pos q2] at hx; cases hx; decide
      ·rw [if_neg q2] at hx; cases hx
     ·rw [if_pos q] at hx; cases hx; exact q
  exact this _ _ _ h3 h
 | none =>
 rw [h3] at h
 simp only at h
 by_cases h4 : t.Primary.length < 1 ∨ t.Primary.length > 4 ∨ placesS t.Cols.length t.Primary = false
 ·rw [if_pos h4] at h; cases h
 rw [if_neg h4] at h
 by_cases h5 : (t.Primary.any fun c => (colAt t.Cols c).Nulls) = true
 ·rw [if_pos h5] at h; cases h
 rw [if_neg h5] at h
 by_cases h6 : rowMaxS t.Cols > 512 ∨ keyMaxS t.Cols (upS t.Primary) > 128 ∨ t.Indexes.length > 6
 ·rw [if_pos h6] at h; cases h
 rw [if_neg h6] at h
 simp only [not_or, Bool.not_eq_false] at h2 h4 h6
 refine ⟨by omega, cols_of_none h3, by omega, h4.2.2, by omega, by omega, by omega, fun x hx => ?_⟩
 obtain ⟨i, hi, rfl⟩ := List.mem_iff_getElem.1 hx
 cases h7 : firstF (idxE t) 0 t.Indexes with
 | none =>
  rw [firstF_none] at h7
  have := h7 i hi
  unfold idxE at this
  by_cases q : nameS t.Indexes[i].Name = false
  ·rw [if_pos q] at this; cases this
  rw [if_neg q] at this
  by_cases q2 : ((t.Indexes.take (0 + i)).any fun y => y.Name == t.Indexes[i].Name) = true
  ·rw [if_pos q2] at this; cases this
  rw [if_neg q2] at this
  by_cases q3 : indexS t t.Indexes[i] = 0
  ·exact q3
  ·rw [if_pos q3] at this; cases this
 | some e =>
  rw [h7] at h
  exfalso
  have : ∀ (l : List ApiIndex) (i : Nat) (e : Int), firstF (idxE t) i l = some e → e ≠ 0 := by
   intro l
   induction l with
   | nil => intro i e h; cases h
   | cons x r ih =>
    intro i e h
    rw [firstF] at h
    cases hx : idxE t i x with
    | none => rw [hx] at h; exact ih _ _ h
    | some e' =>
     rw [hx] at h
     cases h
     unfold idxE at hx
     by_cases q : nameS x.Name = false
     ·rw [if_pos q] at hx; cases hx; decide
     rw [if_neg q] at hx
     by_cases q2 : ((t.Indexes.take i).any fun y => y.Name == x.Name) = true
     ·rw [if_pos q2] at hx; cases hx; decide
     rw [if_neg q2] at hx
     by_cases q3 : indexS t x = 0
     ·rw [if_neg (by simpa using q3)] at hx; cases hx
     ·rw [if_pos q3] at hx; cases hx; exact q3
  exact this _ _ _ h7 h
structure RightX (t : ApiTable) (x : ApiIndex) : Prop where
 par : 1 ≤ x.Parts.length ∧ x.Parts.length ≤ 4
 pla : placesS t.Cols.length (colsOf x.Parts) = true
 ext : placesS t.Cols.length x.Extra = true
 key : keyMaxS t.Cols x.Parts ≤ 128
theorem RightX.of {t : ApiTable} {x : ApiIndex} (h : indexS t x = 0) : RightX t x := by
 unfold indexS at h
 by_cases h1 : x.Parts.length < 1 ∨ x.Parts.length > 4 ∨ placesS t.Cols.length (colsOf x.Parts) = false ∨ placesS t.Cols.length x.Extra = false
 ·rw [if_pos h1] at h; cases h
 rw [if_neg h1] at h
 by_cases h2 : (x.Extra.any fun c => hasS (colsOf x.Parts) c || hasS t.Primary c) = true
 ·rw [if_pos h2] at h; cases h
 rw [if_neg h2] at h
 by_cases h3 : keyMaxS t.Cols x.Parts > 128
 ·rw [if_pos h3] at h; cases h
 simp only [not_or, Bool.not_eq_false] at h1
 exact ⟨by omega, h1.2.2.1, h1.2.2.2, by omega⟩
theorem nd_len : ∀ (n : Nat) (l : List Nat), l.Nodup → (∀ x ∈ l, x < n) → l.length ≤ n
 | 0, [], _, _ => by simp
 | 0, x :: l, _, h => absurd (h x (by simp)) (by omega)
 | n + 1, l, hd, h => by
  have h1 := nd_len n (l.erase n) (hd.erase n) (fun x hx => by
   have := (List.Nodup.mem_erase_iff hd).1 hx
   have := h x this.2
   omega)
  have := List.length_erase (a := n) (l := l)
  split at this <;> omega
theorem nodup_len {n : Nat} {l : List Int} (h : placesS n l = true) : l.length ≤ n := by
 have h1 := placesS_in h
 have h2 := placesS_nodup h
 have h3 : (l.map Int.toNat).Nodup := by
  show List.Pairwise (· ≠ ·) _
  rw [List.pairwise_map]
  refine List.Pairwise.imp_of_mem ?_ h2
  intro a b ha hb hab e
  have := h1 a ha; have := h1 b hb
  omega
 have h4 : ∀ x ∈ l.map Int.toNat, x < n := by
  intro x hx
  obtain ⟨c, hc, rfl⟩ := List.mem_map.1 hx
  have := h1 c hc; omega
 have := nd_len n _ h3 h4
 simpa using this
theorem fitS_ok {c : ApiColumn} {v : ApiValue} (h : fitS c v = 0) : val v = true ∧ (v.Kind = 0 ∨ v.Kind = c.Kind) ∧ ((v.Kind = 4 ∨ v.Kind = 5) → (v.S.length : Int) ≤ c.Max) := by
 unfold fitS at h
 by_cases h1 : val v = false
 ·rw [if_pos h1] at h; cases h
 rw [if_neg h1] at h
 have hv : val v = true := by simpa using h1
 by_cases h2 : v.Kind = 0
 ·exact ⟨hv, .inl h2, fun k => by omega⟩
 rw [if_neg h2] at h
 by_cases h3 : v.Kind ≠ c.Kind
 ·rw [if_pos h3] at h; cases h
 rw [if_neg h3] at h
 by_cases h4 : (v.Kind = 4 ∨ v.Kind = 5) ∧ (v.S.length : Int) > c.Max
 ·rw [if_pos h4] at h; cases h
 exact ⟨hv, .inr (by simpa using h3), fun k => by
  rcases Int.lt_or_le c.Max v.S.length with q | q
  ·exact absurd ⟨k, q⟩ h4
  ·exact q⟩
theorem valKind {v : ApiValue} (h : val v = true) : 0 ≤ v.Kind ∧ v.Kind ≤ 5 := by
 unfold val at h
 simp only [Bool.or_eq_true, Bool.and_eq_true, beq_iff_eq, decide_eq_true_eq] at h
 omega
structure Fit (cols : List ApiColumn) (l : List ApiValue) : Prop where
 rc : colsS cols = true
 len : l.length = cols.length
 fit : ∀ i (h1 : i < cols.length) (h2 : i < l.length), fitS cols[i] l[i] = 0
theorem Fit.of {cols : List ApiColumn} {l : List ApiValue} (h : fitsS cols l = 0) : Fit cols l := by
 unfold fitsS at h
 by_cases q : colsS cols = false ∨ l.length ≠ cols.length
 ·rw [if_pos q] at h; cases h
 rw [if_neg q] at h
 simp only [not_or, Bool.not_eq_false, ne_eq, Decidable.not_not] at q
 refine ⟨q.1, q.2, fun i h1 h2 => ?_⟩
 have hn : (cols.zip l).findSome? fitE = none := by
  cases hf : (cols.zip l).findSome? fitE with
  | none => rfl
  | some e =>
   rw [hf] at h
   exfalso
   obtain ⟨p, _, hp⟩ := List.exists_of_findSome?_eq_some hf
   unfold fitE at hp
   by_cases k : fitS p.1 p.2 = 0
   ·rw [if_pos k] at hp; cases hp
   ·rw [if_neg k] at hp; cases hp; exact k h
 rw [List.findSome?_eq_none_iff] at hn
 have := hn (cols[i], l[i]) (List.mem_iff_getElem.2 ⟨i, by simp; omega, by rw [List.getElem_zip]⟩)
 unfold fitE at this
 by_cases k : fitS cols[i] l[i] = 0
 ·exact k
 ·rw [if_neg k] at this; cases this
theorem Fit.to {cols : List ApiColumn} {l : List ApiValue} (h : Fit cols l) : fitsS cols l = 0 := by
 unfold fitsS
 rw [if_neg (by rw [h.rc, h.len]; simp)]
 have hn : (cols.zip l).findSome? fitE = none := by
  rw [List.findSome?_eq_none_iff]
  intro p hp
  obtain ⟨i, hi, rfl⟩ := List.mem_iff_getElem.1 hp
  have hi' : i < cols.length ∧ i < l.length := by have := hi; simp at this; omega
  rw [List.getElem_zip]
  unfold fitE
  rw [if_pos (h.fit i hi'.1 hi'.2)]
 rw [hn]; rfl
theorem Fit.num {cols : List ApiColumn} {l : List ApiValue} (h : Fit cols l) : 1 ≤ cols.length ∧ cols.length ≤ 24 ∧ ∀ c ∈ cols, colS c = 0 := by
 have := h.rc
 unfold colsS at this
 simp only [Bool.and_eq_true, decide_eq_true_eq, List.all_eq_true, beq_iff_eq] at this
 exact ⟨this.1.1, this.1.2, this.2⟩
theorem Fit.val {cols : List ApiColumn} {l : List ApiValue} (h : Fit cols l) : ∀ v ∈ l, val v = true := by
 intro v hv
 obtain ⟨i, hi, rfl⟩ := List.mem_iff_getElem.1 hv
 exact (fitS_ok (h.fit i (by rw [← h.len]; exact hi) hi)).1
theorem Fit.short {cols : List ApiColumn} {l : List ApiValue} (h : Fit cols l) : ∀ v ∈ l, v.S.length ≤ 64 := fun v hv => val_short (h.val v hv)
def vAt (l : List ApiValue) (i : Int) : ApiValue := (l[i.toNat]?).getD default
theorem vAt_eq {l : List ApiValue} {i : Int} (h : 0 ≤ i ∧ i < l.length) : getI l i = some (vAt l i) := by
 unfold getI vAt
 rw [if_pos h.1]
 have hl : i.toNat < l.length := by omega
 rw [List.getElem?_eq_getElem hl]; rfl
theorem vAt_mem {l : List ApiValue} {i : Int} (h : 0 ≤ i ∧ i < l.length) : vAt l i ∈ l := by
 unfold vAt
 have hl : i.toNat < l.length := by omega
 rw [List.getElem?_eq_getElem hl]; exact List.getElem_mem hl
theorem Fit.at {cols : List ApiColumn} {l : List ApiValue} (h : Fit cols l) {i : Int} (hi : 0 ≤ i ∧ i < cols.length) : fitS (colAt cols i) (vAt l i) = 0 := by
 unfold colAt vAt
 have h1 : i.toNat < cols.length := by omega
 have h2 : i.toNat < l.length := by rw [h.len]; exact h1
 rw [List.getElem?_eq_getElem h1, List.getElem?_eq_getElem h2]
 exact h.fit _ h1 h2
def partV (l : List ApiValue) (ps : List ApiPart) : List ApiValue := ps.map fun p => vAt l p.Col
def downs (ps : List ApiPart) : List Bool := ps.map (·.Down)
def nullS (l : List ApiValue) (ps : List ApiPart) : Bool := ps.any fun p => (vAt l p.Col).Kind == 0
def keyS (l : List ApiValue) (ps : List ApiPart) : List UInt8 := encL (partV l ps) (downs ps)
theorem enc_wide {c : ApiColumn} {v : ApiValue} (hc : colS c = 0) (h : fitS c v = 0) : ((enc v).length : Int) ≤ wideS c 2 ∧ ((putS v).length : Int) ≤ wideS c 1 := by
 obtain ⟨h1, h2, h3⟩ := fitS_ok h
 obtain ⟨_, k1, k2, km, _⟩ := colS_ok hc
 have he := esc_len v.S
 have hk := valKind h1
 have hm0 := colS_max hc
 rcases h2 with h0 | hkc
 ·have e1 : enc v = [0] := by unfold enc body; simp [h0]
  have e2 : putS v = [1] := by unfold putS; simp [h0]
  rw [e1, e2]
  unfold wideS
  simp only [List.length_cons, List.length_nil]
  by_cases q : c.Kind = 1 ∨ c.Kind = 2
  ·rw [if_pos q, if_pos q]; omega
  rw [if_neg q, if_neg q]
  by_cases q3 : c.Kind = 3
  ·rw [if_pos q3, if_pos q3]; omega
  ·rw [if_neg q3, if_neg q3]; omega
 ·have wide : ∀ each, wideS c each = if v.Kind = 1 ∨ v.Kind = 2 then 9 else if v.Kind = 3 then 2 else 3 + each * c.Max := by intro each; unfold wideS; rw [hkc]
  rw [wide, wide]
  by_cases q1 : v.Kind = 1
  ·simp [enc, body, putS, q1, bytesN_len]
  by_cases q2 : v.Kind = 2
  ·simp [enc, body, putS, q2, bytesN_len]
  by_cases q3 : v.Kind = 3
  ·simp [enc, body, putS, q3, bytesN_len]
  have q4 : v.Kind = 4 ∨ v.Kind = 5 := by omega
  have hm := h3 q4
  have e1 : enc v = 1 :: (esc v.S ++ [0, 0]) := by unfold enc body; rcases q4 with k | k <;> simp [k]
  have e2 : putS v = 0 :: (bytesN (u64i v.S.length) 2 ++ v.S) := by unfold putS; rcases q4 with k | k <;> simp [k]
  rw [e1, e2, if_neg (show ¬ (v.Kind = 1 ∨ v.Kind = 2) by omega), if_neg q3, if_neg (show ¬ (v.Kind = 1 ∨ v.Kind = 2) by omega), if_neg q3]
  simp only [List.length_cons, List.length_append, bytesN_len, List.length_nil]
  omega
theorem keyS_len {cols : List ApiColumn} {l : List ApiValue} (h : Fit cols l) : ∀ {ps : List ApiPart}, (∀ p ∈ ps, 0 ≤ p.Col ∧ p.Col < cols.length) → ((keyS l ps).length : Int) ≤ keyMaxS cols ps
 | [], _ => by simp [keyS, partV, downs, encL, keyMaxS]
 | p :: ps, hp => by
  have h1 := keyS_len h (ps := ps) (fun q hq => hp q (by simp [hq]))
  have hq := hp p (by simp)
  have h2 := (enc_wide (h.num.2.2 _ (colAt_mem hq)) (h.at hq)).1
  unfold keyS partV downs keyMaxS at h1 ⊢
  simp only [List.map_cons, encL, List.sum_cons, List.length_append, turn_len]
  omega
theorem nobad {cols : List ApiColumn} {l : List ApiValue} (h : Fit cols l) {ps : List ApiPart} (hp : ∀ p ∈ ps, 0 ≤ p.Col ∧ p.Col < cols.length) : (partV l ps).any bad = false := by
 rw [List.any_eq_false]
 intro v hv
 obtain ⟨p, hm, rfl⟩ := List.mem_map.1 hv
 have := h.val _ (vAt_mem (l := l) (by have := hp p hm; rw [h.len]; exact this))
 simp [bad, this]
theorem nullS_take (l : List ApiValue) (ps : List ApiPart) (i : Nat) (hi : i < ps.length) : nullS l (ps.take (i + 1)) = (nullS l (ps.take i) || (vAt l ps[i].Col).Kind == 0) := by
 unfold nullS
 rw [List.take_succ_eq_append_getElem hi, List.any_append]; simp
theorem schema_keyed_eq (t : ApiTable) (ps : List ApiPart) (l : List ApiValue) (hc : OkCs t.Cols) (hv : OkVs l) (hn : ps.length ≤ 1048576) (hp : ∀ p ∈ ps, 0 ≤ p.Col ∧ p.Col < t.Cols.length) (hk : keyMaxS t.Cols ps ≤ 256) :
  schema_keyed t ps l = some (if fitsS t.Cols l ≠ 0 then ([], false, fitsS t.Cols l) else (keyS l ps, nullS l ps, 0)) := by
 unfold schema_keyed
 rw [row_Fits_eq _ _ hc hv, bind_some']
 by_cases q : fitsS t.Cols l = 0
 rotate_left
 ·rw [show (fitsS t.Cols l != 0) = true by simpa using q, cond_true, if_pos q]
 rw [show (fitsS t.Cols l != 0) = false by simpa using q, cond_false, if_neg (by simpa using q)]
 have hf := Fit.of q
 refine lpA (w := (partV l ps, downs ps, nullS l ps)) (lq1 (fun i => (partV l (ps.take i), downs (ps.take i), nullS l (ps.take i), (i : Int))) ps.length (fun i hi => ?_) ?_ rfl) ?_
 ·have hq := hp _ (List.getElem_mem hi)
  have hq' : 0 ≤ ps[i].Col ∧ ps[i].Col < l.length := by rw [hf.len]; exact hq
  show (bif _ then _ else _) = _
  rw [bif_decT (by omega), getI_at hi, bind_some', vAt_eq hq', bind_some', bif_decT (by rw [room_val]; simp [partV]; omega), bif_decT (by rw [room_val]; simp [downs]; omega), w64_succ (by omega), nullS_take l ps i hi,
   show partV l (ps.take (i + 1)) = _ from map_ts _ ps hi, show downs (ps.take (i + 1)) = _ from map_ts _ ps hi]
  cases nullS l (ps.take i) <;> rfl
 ·show (bif _ then _ else _) = _
  rw [bif_decF (by omega), List.take_length]
 ·have hb := nobad hf hp
  have hl := keyS_len hf hp
  have sm : Sm (partV l ps) := ⟨by simp [partV]; omega, fun v hv => by
   obtain ⟨p, hm, rfl⟩ := List.mem_map.1 hv
   have := hf.short _ (vAt_mem (l := l) (by have := hp p hm; rw [hf.len]; exact this))
   omega⟩
  show Option.bind (key_Encode (partV l ps) (downs ps)) _ = _
  rw [key_Encode_eq _ _ sm]
  unfold encS
  rw [if_pos (by simp [partV, downs]), hb, if_neg (by simp), if_neg (by unfold keyS at hl; omega)]
  rfl
theorem schema_Primary_eq (t : ApiTable) (l : List ApiValue) (hc : OkCs t.Cols) (hv : OkVs l) (r : Right t) : schema_Primary t l = some (if fitsS t.Cols l ≠ 0 then ([], fitsS t.Cols l) else (keyS l (upS t.Primary), 0)) := by
 unfold schema_Primary
 rw [schema_up_eq _ (by have := r.pri; omega), bind_some', schema_keyed_eq t _ l hc hv (by have := r.pri; simp [upS]; omega) (up_in r.pla) (by have := r.key; omega), bind_some']
 by_cases q : fitsS t.Cols l = 0
 ·rw [if_neg (by simpa using q), if_neg (by simpa using q)]
 ·rw [if_pos q, if_pos q]
theorem schema_Front_eq (t : ApiTable) (x : ApiIndex) (l : List ApiValue) (hc : OkCs t.Cols) (hv : OkVs l) (r : RightX t x) : schema_Front t x l = some (if fitsS t.Cols l ≠ 0 then ([], false, fitsS t.Cols l) else (keyS l x.Parts, nullS l x.Parts, 0)) := by
 unfold schema_Front
 rw [schema_keyed_eq t _ l hc hv (by have := r.par; omega) (parts_in r.pla) (by have := r.key; omega), bind_some']
def extV (l : List ApiValue) (cs : List Int) : List ApiValue := cs.map (vAt l)
def extC (cols : List ApiColumn) (cs : List Int) : List ApiColumn := cs.map (colAt cols)
theorem schema_extras_eq (t : ApiTable) (x : ApiIndex) (h : x.Extra.length ≤ 1048576) (hp : ∀ c ∈ x.Extra, 0 ≤ c ∧ c < t.Cols.length) : schema_extras t x = some (extC t.Cols x.Extra) := by
 unfold schema_extras
 refine lpA (w := extC t.Cols x.Extra) (lq1 (fun i => (extC t.Cols (x.Extra.take i), (i : Int))) x.Extra.length (fun i hi => ?_) ?_ rfl) rfl
 ·show (bif _ then _ else _) = _
  rw [bif_decT (by omega), getI_at hi, bind_some', colAt_eq (hp _ (List.getElem_mem hi)), bind_some', bif_decT (by rw [room_val]; simp [extC]; omega), w64_succ (by omega), show extC t.Cols (x.Extra.take (i + 1)) = _ from map_ts _ _ hi]
  rfl
 ·show (bif _ then _ else _) = _
  rw [bif_decF (by omega), List.take_length]
theorem ext_fit {cols : List ApiColumn} {l : List ApiValue} (h : Fit cols l) {cs : List Int} (hp : ∀ c ∈ cs, 0 ≤ c ∧ c < cols.length) (h1 : 1 ≤ cs.length) (h24 : cs.length ≤ 24) : Fit (extC cols cs) (extV l cs) := by
 refine ⟨?_, by simp [extV, extC], fun i k1 k2 => ?_⟩
 ·unfold colsS
  rw [decide_eq_true (by simp [extC]; omega), Bool.true_and, List.all_eq_true]
  intro c hc
  obtain ⟨j, hj, rfl⟩ := List.mem_map.1 hc
  simpa using h.num.2.2 _ (colAt_mem (hp j hj))
 ·simp only [extC, extV, List.getElem_map]
  exact h.at (hp _ (List.getElem_mem _))
theorem sum_nd (f : Nat → Int) (hf : ∀ i, 0 ≤ f i) : ∀ (n : Nat) (l : List Nat), l.Nodup → (∀ x ∈ l, x < n) → (l.map f).sum ≤ ((List.range n).map f).sum
 | 0, [], _, _ => by simp
 | 0, x :: l, _, h => absurd (h x (by simp)) (by omega)
 | n + 1, l, hd, h => by
  have h1 := sum_nd f hf n (l.erase n) (hd.erase n) (fun x hx => by
   have := (List.Nodup.mem_erase_iff hd).1 hx
   have := h x this.2
   omega)
  have e : (l.map f).sum ≤ ((l.erase n).map f).sum + f n := by
   clear h1 h hd
   induction l with
   | nil => have := hf n; simp; omega
   | cons x r ih =>
    rw [List.erase_cons]
    by_cases q : x = n
    ·subst q; simp; omega
    ·rw [if_neg (by simpa using q)]
     simp only [List.map_cons, List.sum_cons]
     omega
  rw [List.range_succ, List.map_append, List.sum_append]
  simp only [List.map_cons, List.map_nil, List.sum_cons, List.sum_nil]
  omega
theorem rowS_len {cols : List ApiColumn} {l : List ApiValue} (h : Fit cols l) : ((rowS l).length : Int) ≤ rowMaxS cols := by
 have key : ∀ (cs : List ApiColumn) (vs : List ApiValue), cs.length = vs.length → (∀ i (h1 : i < cs.length) (h2 : i < vs.length), colS cs[i] = 0 ∧ fitS cs[i] vs[i] = 0) → (((vs.map putS).flatten.length : Nat) : Int) ≤ (cs.map fun c => wideS c 1).sum := by
  intro cs
  induction cs with
  | nil => intro vs hl _; cases vs <;> simp at hl ⊢
  | cons c cs ih =>
   intro vs hl hh
   cases vs with
   | nil => simp at hl
   | cons v vs =>
    have h0 := hh 0 (by simp) (by simp)
    have h1 := ih vs (by simpa using hl) (fun i k1 k2 => by have := hh (i + 1) (by simpa using k1) (by simpa using k2); simpa using this)
    have h2 := (enc_wide h0.1 h0.2).2
    simp only [List.getElem_cons_zero] at h2
    simp only [List.map_cons, List.flatten_cons, List.sum_cons, List.length_append]
    omega
 have := key cols l h.len.symm (fun i k1 k2 => ⟨h.num.2.2 _ (List.getElem_mem _), h.fit i k1 k2⟩)
 unfold rowS rowMaxS
 rw [List.length_append, bytesN_len]
 omega
theorem ext_rowMax {cols : List ApiColumn} (hc : ∀ c ∈ cols, colS c = 0) {cs : List Int} (h : placesS cols.length cs = true) : rowMaxS (extC cols cs) ≤ rowMaxS cols := by
 have h1 := placesS_in h
 have h2 := placesS_nodup h
 have h3 : (cs.map Int.toNat).Nodup := by
  show List.Pairwise (· ≠ ·) _
  rw [List.pairwise_map]
  refine List.Pairwise.imp_of_mem ?_ h2
  intro a b ha hb hab e
  have := h1 a ha; have := h1 b hb
  omega
 have h4 : ∀ x ∈ cs.map Int.toNat, x < cols.length := by
  intro x hx
  obtain ⟨c, hc, rfl⟩ := List.mem_map.1 hx
  have := h1 c hc; omega
 have h5 := sum_nd (fun i => if h : i < cols.length then wideS cols[i] 1 else 0) (fun i => by
  split
  ·rename_i hi; exact (wideS_le (colS_max (hc _ (List.getElem_mem hi))) (.inl rfl)).1
  ·exact Int.le_refl 0) cols.length _ h3 h4
 unfold rowMaxS
 have e1 : (cs.map Int.toNat).map (fun i => if h : i < cols.length then wideS cols[i] 1 else 0) = (extC cols cs).map fun c => wideS c 1 := by
  unfold extC
  rw [List.map_map, List.map_map]
  refine List.map_congr_left fun c hm => ?_
  have := h1 c hm
  have hl : c.toNat < cols.length := by omega
  simp only [Function.comp, hl, dite_true, colAt, List.getElem?_eq_getElem hl]
  rfl
 have e2 : (List.range cols.length).map (fun i => if h : i < cols.length then wideS cols[i] 1 else 0) = cols.map fun c => wideS c 1 := by
  apply List.ext_getElem
  ·simp
  ·intro i k1 k2
   have hi : i < cols.length := by simpa using k1
   simp [hi]
 rw [e1, e2] at h5
 omega
def entS (t : ApiTable) (x : ApiIndex) (l : List ApiValue) : ApiPair := ⟨keyS l x.Parts ++ keyS l (upS t.Primary), if x.Extra = [] then [] else rowS (extV l x.Extra)⟩
theorem ok_ext {cols : List ApiColumn} (h : OkCs cols) {cs : List Int} (hp : ∀ c ∈ cs, 0 ≤ c ∧ c < cols.length) (h24 : cs.length ≤ 24) : OkCs (extC cols cs) := ⟨by simp [extC]; omega, fun c hc => by
 obtain ⟨j, hj, rfl⟩ := List.mem_map.1 hc
 exact h.2 _ (colAt_mem (hp j hj))⟩
theorem ok_extV {l : List ApiValue} (h : OkVs l) {cs : List Int} (hp : ∀ c ∈ cs, 0 ≤ c ∧ c < l.length) (h24 : cs.length ≤ 24) : OkVs (extV l cs) := ⟨by simp [extV]; omega, fun c hc => by
 obtain ⟨j, hj, rfl⟩ := List.mem_map.1 hc
 exact h.2 _ (vAt_mem (hp j hj))⟩
theorem schema_Entry_eq (t : ApiTable) (x : ApiIndex) (l : List ApiValue) (hc : OkCs t.Cols) (hv : OkVs l) (r : Right t) (rx : RightX t x) : schema_Entry t x l = some (if fitsS t.Cols l ≠ 0 then (fitsS t.Cols l, ⟨[], []⟩) else (0, entS t x l)) := by
 unfold schema_Entry
 rw [schema_Front_eq t x l hc hv rx]
 by_cases q : fitsS t.Cols l = 0
 rotate_left
 ·rw [if_pos q, if_pos q, bind_some']
  show (bif (fitsS t.Cols l != 0) then _ else _) = _
  rw [show (fitsS t.Cols l != 0) = true by simpa using q, cond_true]
 rw [if_neg (by simpa using q), if_neg (by simpa using q), bind_some']
 show (bif ((0 : Int) != 0) then _ else Option.bind (schema_Primary t l) _) = _
 rw [show ((0 : Int) != 0) = false from rfl, cond_false, schema_Primary_eq t l hc hv r, if_neg (by simpa using q), bind_some']
 have hf := Fit.of q
 have l1 := keyS_len hf (parts_in rx.pla)
 have l2 := keyS_len hf (up_in r.pla)
 have k1 := rx.key
 have k2 := r.key
 show (bif decide ((keyS l x.Parts).length + (keyS l (upS t.Primary)).length ≤ 9223372036854775807) then _ else _) = _
 rw [bif_decT (by omega)]
 have e24 := nodup_len rx.ext
 have hlen := r.len
 have hin := placesS_in rx.ext
 have hin' : ∀ c ∈ x.Extra, 0 ≤ c ∧ c < l.length := fun c h => by rw [hf.len]; exact hin c h
 refine bo (a := (0, entS t x l)) ?_ rfl
 by_cases he : x.Extra = []
 ·rw [bif_decF (by rw [he]; simp)]
  unfold entS
  rw [if_pos he]
 have hpos : 1 ≤ x.Extra.length := by
  cases hx : x.Extra with
  | nil => exact absurd hx he
  | cons a b => simp
 rw [bif_decT (by omega)]
 refine lpA (w := extV l x.Extra) (lq1 (fun i => (extV l (x.Extra.take i), (i : Int))) x.Extra.length (fun i hi => ?_) ?_ rfl) ?_
 ·show (bif _ then _ else _) = _
  rw [bif_decT (by omega), getI_at hi, bind_some', vAt_eq (hin' _ (List.getElem_mem hi)), bind_some', bif_decT (by rw [room_val]; simp [extV]; omega), w64_succ (by omega), show extV l (x.Extra.take (i + 1)) = _ from map_ts _ _ hi]
  rfl
 ·show (bif _ then _ else _) = _
  rw [bif_decF (by omega), List.take_length]
 ·have ef := ext_fit hf hin hpos (by omega)
  have eq := ef.to
  have er := rowS_len ef
  have em := ext_rowMax r.col rx.ext
  have rr := r.row
  rw [schema_extras_eq t x (by omega) hin, bind_some', row_Encode_eq _ _ (ok_ext hc hin (by omega)) (ok_extV hv hin' (by omega)) (fun _ => ef.short) (fun _ => by simp [extV]; omega), if_neg (by simpa using eq), if_neg (by omega), bind_some']
  unfold entS
  rw [if_neg he]
def ptS (k : List UInt8) : ApiSpan := ⟨k, k ++ [0], false⟩
def ownS (tree : Int) (k : List UInt8) : ApiLock := ⟨tree, ptS k, true⟩
def msgS (kind : Int) (k v : List UInt8) : ApiMsg := ApiMsg.mk 0 kind k 0 v 0 0
def opS (tree : Int) (m : ApiMsg) : ForestOp := ⟨1, tree, m⟩
def undS (s : List UInt8) : ApiSpan := match afterL s with
 | some a => ⟨s, a, false⟩
 | none => ⟨s, [], true⟩
abbrev Wk3 : Type := List ForestOp × List ApiLock × List FanProbe
def entO (t : ApiTable) (x : ApiIndex) (l : List ApiValue) : ApiPair := if l = [] then ⟨[], []⟩ else entS t x l
def frontO (x : ApiIndex) (l : List ApiValue) : List UInt8 := if l = [] then [] else keyS l x.Parts
def nullO (x : ApiIndex) (l : List ApiValue) : Bool := if l = [] then false else nullS l x.Parts
def idxOps (t : ApiTable) (x : ApiIndex) (old now : List ApiValue) : Wk3 :=
 if entO t x old = entO t x now then ([], [], []) else
 let del := decide (old ≠ []) && ((entO t x old).Key != (entO t x now).Key)
 let o1 := if del = true then [opS x.Tree (msgS 2 (entO t x old).Key [])] else []
 let l1 := if del = true ∧ x.Ready = true then [ownS x.Tree (entO t x old).Key] else []
 if now = [] then (o1, l1, []) else
 let o2 := o1 ++ [opS x.Tree (msgS 1 (entO t x now).Key (entO t x now).Val)]
 let l2 := if x.Ready = true then l1 ++ [ownS x.Tree (entO t x now).Key] else l1
 if x.Ready = true ∧ x.Unique = true ∧ nullO x now = false ∧ ¬ (old ≠ [] ∧ frontO x old = frontO x now) then (o2, l2 ++ [⟨x.Tree, undS (frontO x now), false⟩], [⟨x.Tree, undS (frontO x now)⟩]) else (o2, l2, [])
def app3 (a b : Wk3) : Wk3 := (a.1 ++ b.1, a.2.1 ++ b.2.1, a.2.2 ++ b.2.2)
def Side (t : ApiTable) (l : List ApiValue) : Prop := OkVs l ∧ (l ≠ [] → fitsS t.Cols l = 0)
theorem emp {α : Type} (l : List α) : decide ((l.length : Int) > 0) = decide (l ≠ []) := by
 refine decI ?_
 cases l <;> simp
theorem Under_eq (s : List UInt8) (h : s.length < 4611686018427387904) : key_Under s = some (undS s) := by
 unfold key_Under undS
 rw [After_eq s h, bind_some']
 cases afterL s <;> rfl
theorem key_short {t : ApiTable} {x : ApiIndex} {l : List ApiValue} (hf : Fit t.Cols l) (r : Right t) (rx : RightX t x) : (keyS l x.Parts).length ≤ 128 ∧ (keyS l (upS t.Primary)).length ≤ 128 ∧ (entS t x l).Key.length ≤ 256 := by
 have l1 := keyS_len hf (parts_in rx.pla)
 have l2 := keyS_len hf (up_in r.pla)
 have k1 := rx.key
 have k2 := r.key
 refine ⟨by omega, by omega, ?_⟩
 show (keyS l x.Parts ++ keyS l (upS t.Primary)).length ≤ 256
 rw [List.length_append]; omega
theorem Point_eq (k : List UInt8) (h : k.length ≤ 1048576) : fan_Point k = some () := by
 unfold fan_Point
 rw [bif_decT (by simp; omega)]
theorem index11_eq (m : ApiMsg) (x : ApiIndex) (p2 : List ForestOp) (p3 : List ApiLock) (p4 : List FanProbe) (hm : m.Key.length ≤ 1048576) (h2 : p2.length ≤ 1000) (h3 : p3.length ≤ 1000) :
  fan_Work_index_1_1 m x p2 p3 p4 = some (if x.Ready = true then p3 ++ [ownS x.Tree m.Key] else p3) := by
 unfold fan_Work_index_1_1
 refine bo (a := ()) ?_ ?_
 ·unfold fan_Work_do_2
  rw [bif_decT (by rw [room_val]; simp; omega)]
 cases x.Ready with
 | false => rfl
 | true =>
  rw [cond_true]
  refine bo (a := ()) ?_ rfl
  unfold fan_Work_own_2
  rw [Point_eq _ hm, bind_some', bif_decT (by rw [room_val]; simp; omega)]
theorem eqPair (a b : ApiPair) : eqApiPair a b = decide (a = b) := by
 cases a; cases b
 simp only [eqApiPair, ApiPair.mk.injEq]
 rw [Bool.eq_iff_iff]
 simp
theorem index2_eq (t : ApiTable) (x : ApiIndex) (old now : List ApiValue) (pa pb : List UInt8) (p4 : List ForestOp) (p5 : List ApiLock) (p6 : List FanProbe) (hc : OkCs t.Cols) (r : Right t) (rx : RightX t x) (ho : Side t old) (hn : Side t now)
  (h4 : p4.length ≤ 900) (h5 : p5.length ≤ 900) (h6 : p6.length ≤ 900) :
  fan_Work_index_2 t x ⟨old, pa⟩ ⟨now, pb⟩ p4 p5 p6 = some (app3 (p4, p5, p6) (idxOps t x old now)) := by
 unfold fan_Work_index_2
 have side : ∀ l, Side t l → l ≠ [] → Fit t.Cols l := fun l h k => Fit.of (h.2 k)
 refine bo (a := (frontO x old, entO t x old)) ?_ ?_
 ·show Option.bind (some ()) _ = _
  rw [bind_some', emp]
  by_cases k : old = []
  ·subst k; rfl
  ·rw [bif_decT k, schema_Entry_eq t x old hc ho.1 r rx, if_neg (by simpa using ho.2 k), bind_some']
   show Option.bind (schema_Front t x old) _ = _
   rw [schema_Front_eq t x old hc ho.1 rx, if_neg (by simpa using ho.2 k), bind_some']
   simp [frontO, entO, k]
 show Option.bind _ _ = _
 refine bo (a := (frontO x now, nullO x now, entO t x now)) ?_ ?_
 ·show Option.bind (some ()) _ = _
  rw [bind_some', emp]
  by_cases k : now = []
  ·subst k; rfl
  ·rw [bif_decT k, schema_Entry_eq t x now hc hn.1 r rx, if_neg (by simpa using hn.2 k), bind_some']
   show Option.bind (schema_Front t x now) _ = _
   rw [schema_Front_eq t x now hc hn.1 rx, if_neg (by simpa using hn.2 k), bind_some']
   simp [frontO, entO, nullO, k]
 show (bif (eqApiPair (entO t x old) (entO t x now)) then _ else _) = _
 have ka : (entO t x old).Key.length ≤ 256 := by
  unfold entO
  by_cases k : old = []
  ·rw [if_pos k]; simp
  ·rw [if_neg k]; exact (key_short (side old ho k) r rx).2.2
 have kz : (entO t x now).Key.length ≤ 256 := by
  unfold entO
  by_cases k : now = []
  ·rw [if_pos k]; simp
  ·rw [if_neg k]; exact (key_short (side now hn k) r rx).2.2
 have kf : (frontO x now).length ≤ 128 := by
  unfold frontO
  by_cases k : now = []
  ·rw [if_pos k]; simp
  ·rw [if_neg k]; exact (key_short (side now hn k) r rx).1
 rw [eqPair]
 unfold idxOps
 by_cases q : entO t x old = entO t x now
 ·rw [bif_decT q, if_pos q]; simp [app3]
 rw [bif_decF q, if_neg q]
 generalize hd : (decide (old ≠ []) && ((entO t x old).Key != (entO t x now).Key)) = del
 refine bo (a := (p4 ++ (if del = true then [opS x.Tree (msgS 2 (entO t x old).Key [])] else []), p5 ++ (if del = true ∧ x.Ready = true then [ownS x.Tree (entO t x old).Key] else []))) ?_ ?_
 ·refine bo (a := del) ?_ ?_
  ·show Option.bind (some ()) _ = _
   rw [bind_some', emp, ← hd]
   by_cases k : old = []
   ·subst k; rfl
   ·rw [bif_decT k, decide_eq_true k, Bool.true_and]
  cases del with
  | false => simp
  | true =>
   rw [cond_true, index11_eq _ _ _ _ _ (by show (entO t x old).Key.length ≤ _; omega) (by omega) (by omega), bind_some']
   cases x.Ready <;> simp [opS, msgS, ownS]
 show Option.bind (some ()) _ = _
 rw [bind_some']
 show (bif (!(decide ((now.length : Int) > 0))) then _ else _) = _
 rw [emp]
 by_cases k : now = []
 ·rw [decide_eq_false (by simpa using k), Bool.not_false, cond_true]
  simp only [k, if_true, app3, List.append_nil]
 rw [decide_eq_true k, Bool.not_true, cond_false]
 simp only [k, if_false]
 have l4 : (p4 ++ (if del = true then [opS x.Tree (msgS 2 (entO t x old).Key [])] else [])).length ≤ 910 := by rw [List.length_append]; split <;> simp <;> omega
 have l5 : (p5 ++ (if del = true ∧ x.Ready = true then [ownS x.Tree (entO t x old).Key] else [])).length ≤ 910 := by rw [List.length_append]; split <;> simp <;> omega
 rw [index11_eq _ _ _ _ _ (by show (entO t x now).Key.length ≤ _; omega) (by omega) (by omega), bind_some']
 generalize hu : decide (x.Ready = true ∧ x.Unique = true ∧ nullO x now = false ∧ ¬ (old ≠ [] ∧ frontO x old = frontO x now)) = u
 have l2 : (if x.Ready = true then (p5 ++ (if del = true ∧ x.Ready = true then [ownS x.Tree (entO t x old).Key] else [])) ++ [ownS x.Tree (entO t x now).Key] else (p5 ++ (if del = true ∧ x.Ready = true then [ownS x.Tree (entO t x old).Key] else []))) = p5 ++ (if x.Ready = true then (if del = true ∧ x.Ready = true then [ownS x.Tree (entO t x old).Key] else []) ++ [ownS x.Tree (entO t x now).Key] else (if del = true ∧ x.Ready = true then [ownS x.Tree (entO t x old).Key] else [])) := by
  split <;> simp
 refine bo (a := u) ?_ ?_
 ·rw [← hu]
  cases x.Ready with
  | false => simp
  | true =>
   cases x.Unique with
   | false => simp
   | true =>
    cases nullO x now with
    | true => simp
    | false =>
     simp only [cond_true, Bool.not_false, true_and]
     show Option.bind (some ()) _ = _
     rw [bind_some', emp]
     by_cases k2 : old = []
     ·rw [bif_decF (by simpa using k2)]; simp [k2]
     ·rw [bif_decT k2]
      congr 1
      by_cases k3 : frontO x old = frontO x now
      ·simp [k3, k2]
      ·simp [k3, k2]
 have l5' : (if x.Ready = true then (p5 ++ (if del = true ∧ x.Ready = true then [ownS x.Tree (entO t x old).Key] else [])) ++ [ownS x.Tree (entO t x now).Key] else (p5 ++ (if del = true ∧ x.Ready = true then [ownS x.Tree (entO t x old).Key] else []))).length ≤ 920 := by
  split
  ·rw [List.length_append]; simp only [List.length_cons, List.length_nil]; omega
  ·omega
 cases u with
 | false =>
  rw [cond_false, if_neg (of_decide_eq_false hu)]
  simp only [app3, List.append_nil, l2]
  rw [List.append_assoc]
  rfl
 | true =>
  rw [cond_true, if_pos (of_decide_eq_true hu)]
  rw [Under_eq _ (by omega), bind_some', bif_decT (by rw [room_val]; simp only [List.length_cons, List.length_nil]; omega), bif_decT (by rw [room_val]; simp only [List.length_cons, List.length_nil]; omega)]
  simp only [app3]
  rw [l2, List.append_assoc p4, List.append_assoc p5]
  rfl
def primS (t : ApiTable) (l : List ApiValue) : List UInt8 := keyS l (upS t.Primary)
def keepS (x : ApiIndex) (b : FanBuilt) (p : List UInt8) : Bool := x.Ready || (b.Any && (ltS p b.Key || p == b.Key))
def stepS (t : ApiTable) (old now : List ApiValue) (p : List UInt8) (w : Wk3) (q : ApiIndex × FanBuilt) : Wk3 := if keepS q.1 q.2 p = true then app3 w (idxOps t q.1 old now) else w
def rowOp (t : ApiTable) (now : List ApiValue) (p : List UInt8) : ForestOp := if now = [] then opS t.Tree (msgS 2 p []) else opS t.Tree (msgS 1 p (rowS now))
def restS (t : ApiTable) (b : List FanBuilt) (old now : List ApiValue) (p : List UInt8) : Wk3 := (t.Indexes.zip b).foldl (stepS t old now p) ([rowOp t now p], [ownS t.Tree p], [])
def priO (t : ApiTable) (old now : List ApiValue) : List UInt8 := if now = [] then primS t old else primS t now
def chgS (t : ApiTable) (b : List FanBuilt) (old now : List ApiValue) : Int × Wk3 :=
 if b.length ≠ t.Indexes.length ∨ (old = [] ∧ now = []) then (1, [], [], [])
 else if old ≠ [] ∧ fitsS t.Cols old ≠ 0 then (fitsS t.Cols old, [], [], [])
 else if now ≠ [] ∧ fitsS t.Cols now ≠ 0 then (fitsS t.Cols now, [], [], [])
 else if now ≠ [] ∧ old ≠ [] ∧ primS t old ≠ primS t now then (1, [], [], [])
 else if old = now then (0, [], [ownS t.Tree (priO t old now)], [])
 else (0, restS t b old now (priO t old now))
theorem idx_len (t : ApiTable) (x : ApiIndex) (old now : List ApiValue) : (idxOps t x old now).1.length ≤ 2 ∧ (idxOps t x old now).2.1.length ≤ 3 ∧ (idxOps t x old now).2.2.length ≤ 1 := by
 unfold idxOps
 by_cases q : entO t x old = entO t x now
 ·rw [if_pos q]; simp
 rw [if_neg q]
 simp only
 have h1 : ∀ (b : Bool), (if b = true then [opS x.Tree (msgS 2 (entO t x old).Key [])] else []).length ≤ 1 := by intro b; cases b <;> simp
 have h2 : ∀ (b : Bool), (if b = true ∧ x.Ready = true then [ownS x.Tree (entO t x old).Key] else []).length ≤ 1 := by intro b; split <;> simp
 by_cases k : now = []
 ·rw [if_pos k]; exact ⟨Nat.le_trans (h1 _) (by omega), Nat.le_trans (h2 _) (by omega), by simp⟩
 rw [if_neg k]
 have h1 := h1 (decide (old ≠ []) && ((entO t x old).Key != (entO t x now).Key))
 have h2 := h2 (decide (old ≠ []) && ((entO t x old).Key != (entO t x now).Key))
 generalize (if (decide (old ≠ []) && ((entO t x old).Key != (entO t x now).Key)) = true then [opS x.Tree (msgS 2 (entO t x old).Key [])] else []) = a at h1
 generalize (if (decide (old ≠ []) && ((entO t x old).Key != (entO t x now).Key)) = true ∧ x.Ready = true then [ownS x.Tree (entO t x old).Key] else []) = b at h2
 split <;> split <;> simp only [List.length_append, List.length_cons, List.length_nil] <;> omega
theorem fold_take {α β : Type} (f : β → α → β) (a : β) (l : List α) (i : Nat) (hi : i < l.length) : (l.take (i + 1)).foldl f a = f ((l.take i).foldl f a) l[i] := by
 rw [List.take_succ_eq_append_getElem hi, List.foldl_append]; rfl
theorem step_len (t : ApiTable) (old now : List ApiValue) (p : List UInt8) : ∀ (l : List (ApiIndex × FanBuilt)) (w : Wk3), (l.foldl (stepS t old now p) w).1.length ≤ w.1.length + 2 * l.length ∧ (l.foldl (stepS t old now p) w).2.1.length ≤ w.2.1.length + 3 * l.length ∧ (l.foldl (stepS t old now p) w).2.2.length ≤ w.2.2.length + l.length
 | [], w => by simp
 | q :: l, w => by
  have h := step_len t old now p l (stepS t old now p w q)
  have k := idx_len t q.1 old now
  have s : (stepS t old now p w q).1.length ≤ w.1.length + 2 ∧ (stepS t old now p w q).2.1.length ≤ w.2.1.length + 3 ∧ (stepS t old now p w q).2.2.length ≤ w.2.2.length + 1 := by
   unfold stepS
   split
   ·simp only [app3, List.length_append]; omega
   ·omega
  rw [List.foldl_cons]
  simp only [List.length_cons]
  omega
theorem read_eq (t : ApiTable) (l : List ApiValue) (hc : OkCs t.Cols) (hv : OkVs l) (r : Right t) : fan_read t l = some (if l = [] then (0, ⟨[], []⟩) else if fitsS t.Cols l ≠ 0 then (fitsS t.Cols l, ⟨l, []⟩) else (0, ⟨l, primS t l⟩)) := by
 unfold fan_read
 by_cases k : l = []
 ·subst k; rfl
 rw [if_neg k, show ((l.length : Int) == 0) = false by rw [len_int]; simpa using k, cond_false, schema_Primary_eq t l hc hv r, bind_some']
 by_cases q : fitsS t.Cols l = 0
 ·rw [if_neg (by simpa using q), if_neg (by simpa using q)]; rfl
 ·rw [if_pos q, if_pos q]
theorem len_ne {a b : Nat} : ((a : Int) != (b : Int)) = decide (a ≠ b) := by rw [nat_ne]; simp [bne, Bool.beq_eq_decide_eq]
theorem prim_short {t : ApiTable} {l : List ApiValue} (hf : Fit t.Cols l) (r : Right t) : (primS t l).length ≤ 128 := by
 have l2 := keyS_len hf (up_in r.pla)
 have k2 := r.key
 unfold primS; omega
theorem fan_loop (t : ApiTable) (b : List FanBuilt) (old now : List ApiValue) (p pa pb : List UInt8) (w : Wk3) (hc : OkCs t.Cols) (r : Right t) (hb : b.length = t.Indexes.length) (ho : Side t old) (hn : Side t now)
  (h4 : w.1.length ≤ 1) (h5 : w.2.1.length ≤ 1) (h6 : w.2.2.length ≤ 1) {B : Int × Wk3 → Option ((Int × Wk3) ⊕ Wk3)}
  (hB : ∀ (i : Nat) (hi : i < t.Indexes.length) (v : Wk3), B ((i : Int), v) = Option.bind (Option.bind (α := Bool) (bif (t.Indexes[i]'hi).Ready then some true else Option.bind (getI b (i : Int)) fun v436 => bif v436.Any then Option.bind (getI b (i : Int)) fun v437 => some (ltS p v437.Key || p == v437.Key) else some false) fun y434 =>
   bif y434 then Option.bind (fan_Work_index_2 t (t.Indexes[i]'hi) ⟨old, pa⟩ ⟨now, pb⟩ v.1 v.2.1 v.2.2) fun x => some (x.1, x.2.1, x.2.2) else some (v.1, v.2.1, v.2.2)) fun x => some (Sum.inl (((i + 1 : Nat) : Int), x.1, x.2.1, x.2.2)))
  (he : ∀ v, B ((t.Indexes.length : Int), v) = some (.inr v)) : loop B ((0 : Int), w) = some ((t.Indexes.zip b).foldl (stepS t old now p) w) := by
 have z : (t.Indexes.zip b).length = t.Indexes.length := by simp [hb]
 have l6 := r.ixs
 refine lq1 (fun i => ((i : Int), ((t.Indexes.zip b).take i).foldl (stepS t old now p) w)) t.Indexes.length (fun i hi => ?_) ?_ rfl
 ·rw [hB i hi, fold_take _ _ _ _ (by omega)]
  generalize hw : ((t.Indexes.zip b).take i).foldl (stepS t old now p) w = v
  have sl := step_len t old now p ((t.Indexes.zip b).take i) w
  rw [hw] at sl
  have tl : ((t.Indexes.zip b).take i).length ≤ 6 := by rw [List.length_take]; omega
  refine bo (a := stepS t old now p v (t.Indexes.zip b)[i]) ?_ rfl
  rw [List.getElem_zip]
  refine bo (a := keepS t.Indexes[i] b[i] p) ?_ ?_
  ·unfold keepS
   cases (t.Indexes[i]).Ready with
   | true => rfl
   | false =>
    rw [cond_false, getI_at (by omega), bind_some']
    cases b[i].Any <;> rfl
  ·unfold stepS
   cases hk : keepS t.Indexes[i] b[i] p with
   | false => simp
   | true =>
    simp only [if_true, cond_true]
    rw [index2_eq t _ old now pa pb v.1 v.2.1 v.2.2 hc r (RightX.of (r.idx _ (List.getElem_mem hi))) ho hn (by omega) (by omega) (by omega), bind_some']
 ·rw [he, List.take_of_length_le (by omega)]
theorem fan_Change_eq (t : ApiTable) (b : List FanBuilt) (old now : List ApiValue) (hc : OkCs t.Cols) (r : Right t) (ho : OkVs old) (hn : OkVs now) : fan_Change t b old now = some (chgS t b old now) := by
 unfold fan_Change chgS
 refine bo (a := decide (b.length ≠ t.Indexes.length ∨ (old = [] ∧ now = []))) ?_ ?_
 ·rw [len_ne]
  by_cases k : b.length = t.Indexes.length
  ·rw [bif_decF (by simpa using k), len_int, len_int]
   simp only [k, ne_eq, not_true_eq_false, false_or]
   cases old <;> cases now <;> simp
  ·rw [bif_decT k]; simp [k]
 by_cases q : b.length ≠ t.Indexes.length ∨ (old = [] ∧ now = [])
 ·rw [bif_decT q, if_pos q]
 rw [bif_decF q, if_neg q]
 rw [read_eq t old hc ho r, bind_some']
 by_cases q1 : old ≠ [] ∧ fitsS t.Cols old ≠ 0
 ·rw [if_pos q1, if_neg q1.1, if_pos q1.2]
  show (bif (fitsS t.Cols old != 0) then _ else _) = _
  rw [show (fitsS t.Cols old != 0) = true by simpa using q1.2, cond_true]
 rw [if_neg q1]
 have so : Side t old := ⟨ho, fun k => by
  rcases Int.lt_trichotomy (fitsS t.Cols old) 0 with h | h | h
  ·exact absurd ⟨k, by omega⟩ q1
  ·exact h
  ·exact absurd ⟨k, by omega⟩ q1⟩
 obtain ⟨pa, hpa⟩ : ∃ pa, (if old = [] then (0, (⟨[], []⟩ : FanSide)) else if fitsS t.Cols old ≠ 0 then (fitsS t.Cols old, ⟨old, []⟩) else (0, ⟨old, primS t old⟩)) = (0, ⟨old, pa⟩) ∧ (old ≠ [] → pa = primS t old) ∧ (old = [] → pa = []) := by
  by_cases k : old = []
  ·exact ⟨[], by simp [k], fun h => absurd k h, fun _ => rfl⟩
  ·exact ⟨primS t old, by simp [k, so.2 k], fun _ => rfl, fun h => absurd h k⟩
 rw [hpa.1]
 show (bif ((0 : Int) != 0) then _ else Option.bind (fan_read t now) _) = _
 rw [show ((0 : Int) != 0) = false from rfl, cond_false, read_eq t now hc hn r, bind_some']
 by_cases q2 : now ≠ [] ∧ fitsS t.Cols now ≠ 0
 ·rw [if_pos q2, if_neg q2.1, if_pos q2.2]
  show (bif (fitsS t.Cols now != 0) then _ else _) = _
  rw [show (fitsS t.Cols now != 0) = true by simpa using q2.2, cond_true]
 rw [if_neg q2]
 have sn : Side t now := ⟨hn, fun k => by
  rcases Int.lt_trichotomy (fitsS t.Cols now) 0 with h | h | h
  ·exact absurd ⟨k, by omega⟩ q2
  ·exact h
  ·exact absurd ⟨k, by omega⟩ q2⟩
 obtain ⟨pb, hpb⟩ : ∃ pb, (if now = [] then (0, (⟨[], []⟩ : FanSide)) else if fitsS t.Cols now ≠ 0 then (fitsS t.Cols now, ⟨now, []⟩) else (0, ⟨now, primS t now⟩)) = (0, ⟨now, pb⟩) ∧ (now ≠ [] → pb = primS t now) ∧ (now = [] → pb = []) := by
  by_cases k : now = []
  ·exact ⟨[], by simp [k], fun h => absurd k h, fun _ => rfl⟩
  ·exact ⟨primS t now, by simp [k, sn.2 k], fun _ => rfl, fun h => absurd h k⟩
 rw [hpb.1]
 show (bif ((0 : Int) != 0) then _ else _) = _
 rw [show ((0 : Int) != 0) = false from rfl, cond_false]
 by_cases q3 : now ≠ [] ∧ old ≠ [] ∧ primS t old ≠ primS t now
 ·rw [if_pos q3]
  refine beE (x := (1, [], [], [])) ?_ rfl
  show Option.bind (some ()) _ = _
  rw [bind_some']
  show (bif (!(decide ((now.length : Int) > 0))) then _ else _) = _
  rw [emp, decide_eq_true q3.1, Bool.not_true, cond_false]
  refine bo (a := true) ?_ rfl
  show Option.bind (some ()) _ = _
  rw [bind_some']
  show (bif (decide ((old.length : Int) > 0)) then _ else _) = _
  rw [emp, bif_decT q3.2.1]
  show some (pa != pb) = _
  rw [hpa.2.1 q3.2.1, hpb.2.1 q3.1]
  congr 1
  simpa using q3.2.2
 rw [if_neg q3]
 have hpr : ∀ (hx : old ≠ [] ∨ now ≠ []), (priO t old now).length ≤ 128 := by
  intro hx
  unfold priO
  by_cases k : now = []
  ·rw [if_pos k]; exact prim_short (Fit.of (so.2 (by simpa [k] using hx))) r
  ·rw [if_neg k]; exact prim_short (Fit.of (sn.2 k)) r
 have hx : old ≠ [] ∨ now ≠ [] := by
  rw [not_or] at q
  by_cases k : old = []
  ·exact .inr fun k2 => q.2 ⟨k, k2⟩
  ·exact .inl k
 have hpr := hpr hx
 refine beY (y := priO t old now) ?_ ?_
 ·show Option.bind (some ()) _ = _
  rw [bind_some']
  show (bif (!(decide ((now.length : Int) > 0))) then some (Sum.inl pa) else _) = _
  rw [emp]
  by_cases k : now = []
  ·have ho' : old ≠ [] := by simpa [k] using hx
   rw [decide_eq_false (by simpa using k), Bool.not_false, cond_true, hpa.2.1 ho', priO, if_pos k]
  ·rw [decide_eq_true k, Bool.not_true, cond_false]
   refine bo (a := false) ?_ ?_
   ·show Option.bind (some ()) _ = _
    rw [bind_some']
    show (bif (decide ((old.length : Int) > 0)) then some (pa != pb) else _) = _
    rw [emp]
    by_cases k2 : old = []
    ·rw [bif_decF (by simpa using k2)]
    ·rw [bif_decT k2, hpa.2.1 k2, hpb.2.1 k]
     congr 1
     have : primS t old = primS t now := Decidable.byContradiction fun h => q3 ⟨k, k2, h⟩
     simpa using this
   ·rw [cond_false]
    show some (Sum.inl pb) = _
    rw [hpb.2.1 k, priO, if_neg k]
 generalize priO t old now = p at hpr ⊢
 refine bo (a := ()) ?_ ?_
 ·unfold fan_Work_own
  rw [Point_eq _ (by omega), bind_some', bif_decT (by rw [room_val]; simp only [List.length_cons, List.length_nil]; omega)]
 rw [slices_Equal_V_eq _ _ ho.1, bind_some']
 by_cases q4 : old = now
 ·rw [bif_decT q4, if_pos q4]; rfl
 rw [bif_decF q4, if_neg q4]
 refine beY (y := [rowOp t now p]) ?_ ?_
 ·show Option.bind (some ()) _ = _
  rw [bind_some']
  show (bif (decide ((now.length : Int) > 0)) then _ else _) = _
  rw [emp]
  by_cases k : now = []
  ·rw [bif_decF (by simpa using k)]
   refine bo (a := ()) ?_ ?_
   ·unfold fan_Work_do
    rw [bif_decT (by rw [room_val]; simp only [List.length_cons, List.length_nil]; omega)]
   ·rw [rowOp, if_pos k]; rfl
  ·rw [bif_decT k]
   have hf := Fit.of (sn.2 k)
   have e1 := rowS_len hf
   have e2 := r.row
   rw [row_Encode_eq _ _ hc hn (fun _ => hf.short) (fun _ => by have := hf.num; rw [hf.len]; omega), if_neg (by simpa using sn.2 k), if_neg (by omega), bind_some']
   show (bif ((0 : Int) != 0) then _ else _) = _
   rw [show ((0 : Int) != 0) = false from rfl, cond_false]
   refine bo (a := ()) ?_ ?_
   ·unfold fan_Work_do
    rw [bif_decT (by rw [room_val]; simp only [List.length_cons, List.length_nil]; omega)]
   ·rw [rowOp, if_neg k]; rfl
 rw [not_or] at q
 refine lpA (w := restS t b old now p) (fan_loop t b old now p pa pb ([rowOp t now p], [ownS t.Tree p], []) hc r (by simpa using q.1) so sn (by simp) (by simp) (by simp) (fun i hi v => ?_) (fun v => ?_)) rfl
 ·have li := r.ixs
  show (bif _ then _ else _) = _
  rw [bif_decT (by omega), getI_at hi, w64_succ (by omega)]
  rfl
 ·show (bif _ then _ else _) = _
  rw [bif_decF (by omega)]
def tA : ApiTable := (ApiTable.mk ([97] : List UInt8) [(ApiColumn.mk ([105, 100] : List UInt8) (1 : Int) (0 : Int) false (ApiValue.mk (1 : Int) (0 : UInt64) ([] : List UInt8))), (ApiColumn.mk ([110] : List UInt8) (1 : Int) (0 : Int) false (ApiValue.mk (1 : Int) (0 : UInt64) ([] : List UInt8)))] [(0 : Int)] [(ApiIndex.mk ([120] : List UInt8) [(ApiPart.mk (1 : Int) false)] ([] : List Int) true true (3 : Int))] (2 : Int))
theorem tA_right : Right tA := Right.of (by decide +kernel)
theorem awake_eq : law19_awake = some true := by
 unfold law19_awake
 rw [bif_decT (by decide)]
 have hc : OkCs tA.Cols := ⟨by decide, by
  intro c hc
  simp only [tA, List.mem_cons, List.not_mem_nil, or_false] at hc
  rcases hc with rfl | rfl <;> exact ⟨by decide, by decide⟩⟩
 have hv : OkVs [(ApiValue.mk (1 : Int) (1 : UInt64) ([] : List UInt8)), (ApiValue.mk (1 : Int) (2 : UInt64) ([] : List UInt8))] := ⟨by decide, by
  intro c hc
  simp only [List.mem_cons, List.not_mem_nil, or_false] at hc
  rcases hc with rfl | rfl <;> decide⟩
 have e := fan_Change_eq tA (List.replicate (1 : Int).toNat (FanBuilt.mk ([] : List UInt8) false)) [] _ hc tA_right ⟨by decide, by simp⟩ hv
 refine bo e ?_
 have key : (chgS tA (List.replicate (1 : Int).toNat (FanBuilt.mk ([] : List UInt8) false)) [] [(ApiValue.mk (1 : Int) (1 : UInt64) ([] : List UInt8)), (ApiValue.mk (1 : Int) (2 : UInt64) ([] : List UInt8))]).1 = 0 ∧ (chgS tA (List.replicate (1 : Int).toNat (FanBuilt.mk ([] : List UInt8) false)) [] [(ApiValue.mk (1 : Int) (1 : UInt64) ([] : List UInt8)), (ApiValue.mk (1 : Int) (2 : UInt64) ([] : List UInt8))]).2.1.length = 2 ∧
  (chgS tA (List.replicate (1 : Int).toNat (FanBuilt.mk ([] : List UInt8) false)) [] [(ApiValue.mk (1 : Int) (1 : UInt64) ([] : List UInt8)), (ApiValue.mk (1 : Int) (2 : UInt64) ([] : List UInt8))]).2.2.1.length = 3 ∧ (chgS tA (List.replicate (1 : Int).toNat (FanBuilt.mk ([] : List UInt8) false)) [] [(ApiValue.mk (1 : Int) (1 : UInt64) ([] : List UInt8)), (ApiValue.mk (1 : Int) (2 : UInt64) ([] : List UInt8))]).2.2.2.length = 1 ∧
  ((chgS tA (List.replicate (1 : Int).toNat (FanBuilt.mk ([] : List UInt8) false)) [] [(ApiValue.mk (1 : Int) (1 : UInt64) ([] : List UInt8)), (ApiValue.mk (1 : Int) (2 : UInt64) ([] : List UInt8))]).2.1[1]?).map (·.Tree) = some 3 := by decide +kernel
 generalize chgS tA (List.replicate (1 : Int).toNat (FanBuilt.mk ([] : List UInt8) false)) [] [(ApiValue.mk (1 : Int) (1 : UInt64) ([] : List UInt8)), (ApiValue.mk (1 : Int) (2 : UInt64) ([] : List UInt8))] = w at key
 obtain ⟨a, o, l, p⟩ := w
 obtain ⟨h1, h2, h3, h4, h5⟩ := key
 simp only at h1 h2 h3 h4 h5
 show Option.bind (bif (a == 0) then bif ((o.length : Int) == 2) then bif ((l.length : Int) == 3) then bif ((p.length : Int) == 1) then _ else _ else _ else _ else _) _ = _
 rw [h1, h2, h3, h4]
 show Option.bind (Option.bind (getI o 1) _) _ = _
 rw [show getI o 1 = o[1]? from by simp [getI]]
 cases ho : o[1]? with
 | none => rw [ho] at h5; cases h5
 | some v =>
  rw [ho] at h5
  simp only [Option.map_some, Option.some.injEq] at h5
  rw [bind_some', h5, show ((3 : Int) == 3) = true from rfl, cond_true, Point_eq _ (by decide)]
  rfl
def shared (l : List ApiLock) : List FanProbe := (l.filter fun x => !x.Own).map fun x => ⟨x.Space, x.Span⟩
structure InvX (x : ApiIndex) (w : Wk3) : Prop where
 ops : ∀ o ∈ w.1, o.Kind = 1 ∧ o.Msg.Key.length ≤ 256 ∧ o.Tree = x.Tree ∧ (x.Ready = false ∨ ownS o.Tree o.Msg.Key ∈ w.2.1)
 own : ∀ l ∈ w.2.1, l.Own = true → l.Span = ptS l.Span.Lo ∧ l.Span.Lo.length ≤ 256
 sh : shared w.2.1 = w.2.2
structure Inv (t : ApiTable) (w : Wk3) : Prop where
 ops : ∀ o ∈ w.1, o.Kind = 1 ∧ o.Msg.Key.length ≤ 256 ∧ (o.Tree = t.Tree ∨ ∃ x ∈ t.Indexes, o.Tree = x.Tree) ∧ (ownS o.Tree o.Msg.Key ∈ w.2.1 ∨ ∃ x ∈ t.Indexes, o.Tree = x.Tree ∧ x.Ready = false)
 own : ∀ l ∈ w.2.1, l.Own = true → l.Span = ptS l.Span.Lo ∧ l.Span.Lo.length ≤ 256
 sh : shared w.2.1 = w.2.2
 ne : w.2.1 ≠ []
theorem shared_app (a b : List ApiLock) : shared (a ++ b) = shared a ++ shared b := by unfold shared; rw [List.filter_append, List.map_append]
theorem Inv.app {t : ApiTable} {x : ApiIndex} {w v : Wk3} (hx : x ∈ t.Indexes) (h : Inv t w) (k : InvX x v) : Inv t (app3 w v) := by
 refine ⟨fun o ho => ?_, fun l hl => ?_, ?_, ?_⟩
 ·rcases List.mem_append.1 ho with ho | ho
  ·obtain ⟨h1, h2, h3, h4⟩ := h.ops o ho
   exact ⟨h1, h2, h3, h4.imp (fun q => List.mem_append.2 (.inl q)) (fun q => q)⟩
  ·obtain ⟨h1, h2, h3, h4⟩ := k.ops o ho
   refine ⟨h1, h2, .inr ⟨x, hx, h3⟩, ?_⟩
   rcases h4 with h4 | h4
   ·exact .inr ⟨x, hx, h3, h4⟩
   ·exact .inl (List.mem_append.2 (.inr h4))
 ·rcases List.mem_append.1 hl with hl | hl
  ·exact h.own l hl
  ·exact k.own l hl
 ·show shared (w.2.1 ++ v.2.1) = w.2.2 ++ v.2.2
  rw [shared_app, h.sh, k.sh]
 ·exact fun e => h.ne (List.append_eq_nil_iff.1 e).1
theorem own_own (n : Int) (k : List UInt8) (hk : k.length ≤ 256) : (ownS n k).Own = true → (ownS n k).Span = ptS (ownS n k).Span.Lo ∧ (ownS n k).Span.Lo.length ≤ 256 := fun _ => ⟨rfl, hk⟩
theorem idx_inv (t : ApiTable) (x : ApiIndex) (old now : List ApiValue) (r : Right t) (rx : RightX t x) (ho : Side t old) (hn : Side t now) : InvX x (idxOps t x old now) := by
 have ka : (entO t x old).Key.length ≤ 256 := by
  unfold entO
  by_cases k : old = []
  ·rw [if_pos k]; simp
  ·rw [if_neg k]; exact (key_short (Fit.of (ho.2 k)) r rx).2.2
 have kz : (entO t x now).Key.length ≤ 256 := by
  unfold entO
  by_cases k : now = []
  ·rw [if_pos k]; simp
  ·rw [if_neg k]; exact (key_short (Fit.of (hn.2 k)) r rx).2.2
 unfold idxOps
 by_cases q : entO t x old = entO t x now
 ·rw [if_pos q]
  exact ⟨fun o h => by simp at h, fun l h => by simp at h, rfl⟩
 rw [if_neg q]
 simp only
 generalize (decide (old ≠ []) && ((entO t x old).Key != (entO t x now).Key)) = del
 generalize hu : undS (frontO x now) = u
 cases hr : x.Ready with
 | false =>
  by_cases k : now = []
  ·rw [if_pos k]
   refine ⟨fun o h => ?_, fun l h => by simp at h, by simp [shared]⟩
   cases del <;> simp at h
   subst h
   exact ⟨rfl, ka, rfl, .inl hr⟩
  ·rw [if_neg k]
   simp only [Bool.false_eq_true, and_false, false_and, if_false]
   refine ⟨fun o h => ?_, fun l h => by simp at h, by simp [shared]⟩
   rcases List.mem_append.1 h with h | h
   ·cases del <;> simp at h
    subst h
    exact ⟨rfl, ka, rfl, .inl hr⟩
   ·simp at h
    subst h
    exact ⟨rfl, kz, rfl, .inl hr⟩
 | true =>
  by_cases k : now = []
  ·rw [if_pos k]
   cases del with
   | false => exact ⟨fun o h => by simp at h, fun l h => by simp at h, by simp [shared]⟩
   | true =>
    simp only [and_self, if_true]
    refine ⟨fun o h => ?_, fun l h => ?_, by simp [shared, ownS]⟩
    ·simp at h; subst h
     exact ⟨rfl, ka, rfl, .inr (by simp [opS, msgS])⟩
    ·simp at h; subst h
     exact own_own _ _ ka
  ·rw [if_neg k]
   have base : ∀ (l1 : List ApiLock), (l1 = (if del = true ∧ (true : Bool) = true then [ownS x.Tree (entO t x old).Key] else [])) → InvX x ((if del = true then [opS x.Tree (msgS 2 (entO t x old).Key [])] else []) ++ [opS x.Tree (msgS 1 (entO t x now).Key (entO t x now).Val)], l1 ++ [ownS x.Tree (entO t x now).Key], []) := by
    intro l1 h1
    subst h1
    refine ⟨fun o h => ?_, fun l h => ?_, ?_⟩
    ·rcases List.mem_append.1 h with h | h
     ·cases del <;> simp at h
      subst h
      exact ⟨rfl, ka, rfl, .inr (by simp [opS, msgS])⟩
     ·simp at h; subst h
      exact ⟨rfl, kz, rfl, .inr (by simp [opS, msgS])⟩
    ·rcases List.mem_append.1 h with h | h
     ·cases del <;> simp at h
      subst h
      exact own_own _ _ ka
     ·simp at h; subst h
      exact own_own _ _ kz
    ·cases del <;> simp [shared, ownS]
   have b := base _ rfl
   rw [if_pos (rfl : (true : Bool) = true)]
   split
   ·refine ⟨fun o h => ?_, fun l h => ?_, ?_⟩
    ·obtain ⟨h1, h2, h3, h4⟩ := b.ops o h
     exact ⟨h1, h2, h3, h4.imp (fun q => q) (fun q => List.mem_append.2 (.inl q))⟩
    ·rcases List.mem_append.1 h with h | h
     ·exact b.own l h
     ·simp at h; subst h; intro e; cases e
    ·show shared (_ ++ [_]) = _
     rw [shared_app, show shared _ = _ from b.sh]
     rfl
   ·exact b
theorem fold_inv (t : ApiTable) (old now : List ApiValue) (p : List UInt8) (r : Right t) (ho : Side t old) (hn : Side t now) : ∀ (l : List (ApiIndex × FanBuilt)) (w : Wk3), (∀ q ∈ l, q.1 ∈ t.Indexes) → Inv t w → Inv t (l.foldl (stepS t old now p) w)
 | [], w, _, h => h
 | q :: l, w, hl, h => by
  rw [List.foldl_cons]
  refine fold_inv t old now p r ho hn l _ (fun x hx => hl x (by simp [hx])) ?_
  have hq := hl q (by simp)
  unfold stepS
  split
  ·exact h.app hq (idx_inv t q.1 old now r (RightX.of (r.idx _ hq)) ho hn)
  ·exact h
theorem chg_inv (t : ApiTable) (b : List FanBuilt) (old now : List ApiValue) (r : Right t) (ho : OkVs old) (hn : OkVs now) : ((chgS t b old now).1 ≠ 0 ∧ (chgS t b old now).2 = ([], [], [])) ∨ ((chgS t b old now).1 = 0 ∧ Inv t (chgS t b old now).2) := by
 unfold chgS
 by_cases q : b.length ≠ t.Indexes.length ∨ (old = [] ∧ now = [])
 ·rw [if_pos q]; exact .inl ⟨by decide, rfl⟩
 rw [if_neg q]
 by_cases q1 : old ≠ [] ∧ fitsS t.Cols old ≠ 0
 ·rw [if_pos q1]; exact .inl ⟨q1.2, rfl⟩
 rw [if_neg q1]
 by_cases q2 : now ≠ [] ∧ fitsS t.Cols now ≠ 0
 ·rw [if_pos q2]; exact .inl ⟨q2.2, rfl⟩
 rw [if_neg q2]
 by_cases q3 : now ≠ [] ∧ old ≠ [] ∧ primS t old ≠ primS t now
 ·rw [if_pos q3]; exact .inl ⟨by decide, rfl⟩
 rw [if_neg q3]
 have so : Side t old := ⟨ho, fun k => Decidable.byContradiction fun h => q1 ⟨k, h⟩⟩
 have sn : Side t now := ⟨hn, fun k => Decidable.byContradiction fun h => q2 ⟨k, h⟩⟩
 have hx : old ≠ [] ∨ now ≠ [] := by
  rw [not_or] at q
  by_cases k : old = []
  ·exact .inr fun k2 => q.2 ⟨k, k2⟩
  ·exact .inl k
 have hpr : (priO t old now).length ≤ 128 := by
  unfold priO
  by_cases k : now = []
  ·rw [if_pos k]; exact prim_short (Fit.of (so.2 (by simpa [k] using hx))) r
  ·rw [if_neg k]; exact prim_short (Fit.of (sn.2 k)) r
 by_cases q4 : old = now
 ·rw [if_pos q4]
  exact .inr ⟨rfl, fun o h => by simp at h, fun l h => by simp at h; subst h; exact own_own _ _ (by omega), rfl, by simp⟩
 rw [if_neg q4]
 refine .inr ⟨rfl, fold_inv t old now _ r so sn _ _ (fun q hq => (List.of_mem_zip hq).1) ⟨fun o h => ?_, fun l h => ?_, ?_, by simp⟩⟩
 ·simp at h; subst h
  unfold rowOp
  split <;> exact ⟨rfl, by show (priO t old now).length ≤ 256; omega, .inl rfl, .inl (by simp [opS, msgS])⟩
 ·simp at h; subst h; exact own_own _ _ (by omega)
 ·rfl
def numX (l : List ApiIndex) (i : Nat) : List ApiIndex := l.mapIdx fun j x => if j < i then { x with Tree := 101 + (j : Int) } else x
theorem numX_len (l : List ApiIndex) (i : Nat) : (numX l i).length = l.length := by simp [numX]
theorem numX_zero (l : List ApiIndex) : numX l 0 = l := by
 apply List.ext_getElem
 ·simp [numX]
 ·intro i h1 h2; simp [numX]
theorem numX_get (l : List ApiIndex) (i j : Nat) (h : j < l.length) : (numX l i)[j]'(by rw [numX_len]; exact h) = if j < i then { l[j] with Tree := 101 + (j : Int) } else l[j] := by simp [numX]
theorem numX_set (l : List ApiIndex) (i : Nat) (h : i < l.length) : (numX l i).set i { l[i] with Tree := 101 + (i : Int) } = numX l (i + 1) := by
 apply List.ext_getElem
 ·simp [numX]
 ·intro j h1 h2
  have hj : j < l.length := by simpa [numX] using h2
  rw [List.getElem_set, numX_get l (i + 1) j hj]
  by_cases e : i = j
  ·subst e; simp
  ·rw [if_neg e, numX_get l i j hj]
   by_cases k : j < i
   ·rw [if_pos k, if_pos (by omega)]
   ·rw [if_neg k, if_neg (by omega)]
def numT (t : ApiTable) : ApiTable := ⟨t.Name, t.Cols, t.Primary, numX t.Indexes t.Indexes.length, 100⟩
theorem numT_mem {t : ApiTable} {x : ApiIndex} (h : x ∈ (numT t).Indexes) : ∃ i, ∃ hi : i < t.Indexes.length, x = { t.Indexes[i] with Tree := 101 + (i : Int) } ∧ (numT t).Indexes[i]? = some x := by
 obtain ⟨i, hi, rfl⟩ := List.mem_iff_getElem.1 h
 have hi' : i < t.Indexes.length := by simpa [numT, numX_len] using hi
 refine ⟨i, hi', ?_, List.getElem?_eq_getElem hi⟩
 have := numX_get t.Indexes t.Indexes.length i hi'
 rw [if_pos hi'] at this
 exact this
theorem numT_right {t : ApiTable} (r : Right t) : Right (numT t) := by
 refine ⟨r.len, r.col, r.pri, r.pla, r.row, r.key, by show (numX _ _).length ≤ 6; rw [numX_len]; exact r.ixs, fun x hx => ?_⟩
 obtain ⟨i, hi, rfl, _⟩ := numT_mem hx
 have := r.idx t.Indexes[i] (List.getElem_mem hi)
 exact this
theorem Copy_eq (t : ApiTable) (r : Right t) : ref17_Copy t = some t.Indexes := by
 unfold ref17_Copy
 have h1 := r.len
 have h2 := r.pri
 have h3 := r.ixs
 rw [bif_decT (by rw [room_val]; simp; omega), bif_decT (by rw [room_val]; simp; omega)]
 refine lpA (w := t.Indexes) (lq1 (fun i => (t.Indexes.take i, (i : Int))) t.Indexes.length (fun i hi => ?_) ?_ rfl) rfl
 ·have rx := RightX.of (r.idx _ (List.getElem_mem hi))
  have k1 := rx.par
  have k2 := nodup_len rx.ext
  show (bif _ then _ else _) = _
  rw [bif_decT (by omega), getI_at hi, bind_some', bif_decT (by rw [room_val]; simp; omega), bif_decT (by rw [room_val]; simp; omega), bif_decT (by rw [room_val]; simp; omega), w64_succ (by omega), List.take_succ_eq_append_getElem hi]
  rfl
 ·show (bif _ then _ else _) = _
  rw [bif_decF (by omega), List.take_length]
theorem lt_cons (x y : UInt8) (a b : List UInt8) : ltS (x :: a) (y :: b) = (decide (x < y) || (x == y && ltS a b)) := by
 by_cases h : x < y
 ·simp [ltS, Op.bytesLess, h]
 ·by_cases k : x = y
  ·subst k; simp [ltS, Op.bytesLess, h]
  ·simp [ltS, Op.bytesLess, h, k]
theorem lt_nil (y : UInt8) (b : List UInt8) : ltS [] (y :: b) = true := by simp [ltS, Op.bytesLess]
theorem lt_not_nil (a : List UInt8) : ltS a [] = false := by cases a <;> simp [ltS, Op.bytesLess]
theorem lt_pre (p a b : List UInt8) : ltS (p ++ a) (p ++ b) = ltS a b := by
 induction p with
 | nil => rfl
 | cons x p ih =>
  rw [List.cons_append, List.cons_append, lt_cons, ih]
  have : ¬ x < x := fun h => absurd (UInt8.lt_iff_toNat_lt.1 h) (by omega)
  simp [this]
theorem lt_trans3 : ∀ {a b c : List UInt8}, ltS a b = true → ltS b c = true → ltS a c = true
 | a, b, [], _, h => by rw [lt_not_nil] at h; cases h
 | a, [], z :: c, h, _ => by rw [lt_not_nil] at h; cases h
 | [], y :: b, z :: c, _, _ => lt_nil _ _
 | x :: a, y :: b, z :: c, h, k => by
  rw [lt_cons] at h k ⊢
  simp only [Bool.or_eq_true, decide_eq_true_eq, Bool.and_eq_true, beq_iff_eq] at h k ⊢
  rcases h with h | ⟨rfl, h⟩
  ·rcases k with k | ⟨rfl, k⟩
   ·exact .inl (UInt8.lt_iff_toNat_lt.2 (Nat.lt_trans (UInt8.lt_iff_toNat_lt.1 h) (UInt8.lt_iff_toNat_lt.1 k)))
   ·exact .inl h
  ·rcases k with k | ⟨rfl, k⟩
   ·exact .inl k
   ·exact .inr ⟨rfl, lt_trans3 h k⟩
theorem lt_iff : ∀ (a b : List UInt8), ltS a b = true ↔ a < b
 | a, [] => by rw [lt_not_nil]; simp
 | [], y :: b => by rw [lt_nil]; simp
 | x :: a, y :: b => by
  rw [lt_cons, List.cons_lt_cons_iff]
  simp only [Bool.or_eq_true, decide_eq_true_eq, Bool.and_eq_true, beq_iff_eq, lt_iff a b]
theorem lt_irr (a : List UInt8) : ltS a a = false := by
 have := lt_pre a [] []
 rw [List.append_nil] at this
 rw [this]; rfl
theorem le_iff (a b : List UInt8) : a ≤ b ↔ ltS b a = false := by
 rw [← List.not_lt, ← lt_iff]
 simp
def putM (k v : List UInt8) : ApiMsg := ApiMsg.mk (0 : UInt64) (1 : Int) k (0 : UInt64) v (0 : Int) (0 : UInt64)
def delM (k : List UInt8) : ApiMsg := ApiMsg.mk (0 : UInt64) (2 : Int) k (0 : UInt64) [] (0 : Int) (0 : UInt64)
theorem apply_put (k key val v : List UInt8) (has : Bool) : ref09_Apply (ApiEntry.mk key has val 0 false []) (putM k v) = some (ApiEntry.mk key true v 0 false []) := by
 unfold ref09_Apply ref09_changed putM
 rfl
theorem apply_del (k key val : List UInt8) (has : Bool) : ref09_Apply (ApiEntry.mk key has val 0 false []) (delM k) = some (ApiEntry.mk key false [] 0 false []) := by
 unfold ref09_Apply ref09_changed delM
 rfl
def msgO (k : List UInt8) : Option (List UInt8) → ApiMsg
 | some v => putM k v
 | none => delM k
def newO (k : List UInt8) : Option (List UInt8) → List ApiEntry
 | some v => [ApiEntry.mk k true v 0 false []]
 | none => []
def injS (k : List UInt8) (o : Option (List UInt8)) : List ApiEntry → List ApiEntry
 | [] => newO k o
 | e :: l => if ltS e.Key k = true then e :: injS k o l else if e.Key = k then newO k o ++ l else newO k o ++ e :: l
def plainE (e : ApiEntry) : Prop := ∃ k v, e = ApiEntry.mk k true v 0 false []
theorem apply_o (k key val : List UInt8) (has : Bool) (o : Option (List UInt8)) : ∃ e, ref09_Apply (ApiEntry.mk key has val 0 false []) (msgO k o) = some e ∧ ref09_Gone e = some o.isNone ∧ (o.isNone = false → [e] = newO key o) := by
 cases o with
 | some v => exact ⟨_, apply_put k key val v has, rfl, fun _ => rfl⟩
 | none => exact ⟨_, apply_del k key val has, rfl, fun h => (by cases h)⟩
theorem msg_kind (k : List UInt8) (o : Option (List UInt8)) : (msgO k o).Kind = 1 ∨ (msgO k o).Kind = 2 := by cases o <;> simp [msgO, putM, delM]
theorem msg_key (k : List UInt8) (o : Option (List UInt8)) : (msgO k o).Key = k := by cases o <;> rfl
theorem inj_cons_lt {e : ApiEntry} {k : List UInt8} {o : Option (List UInt8)} {l : List ApiEntry} (h : ltS e.Key k = true) : injS k o (e :: l) = e :: injS k o l := by
 show (if ltS e.Key k = true then _ else _) = _
 rw [if_pos h]
theorem inj_cons_eq {e : ApiEntry} {k : List UInt8} {o : Option (List UInt8)} {l : List ApiEntry} (h : e.Key = k) : injS k o (e :: l) = newO k o ++ l := by
 show (if ltS e.Key k = true then _ else _) = _
 rw [if_neg (by rw [h, lt_irr]; simp), if_pos h]
theorem inj_cons_gt {e : ApiEntry} {k : List UInt8} {o : Option (List UInt8)} {l : List ApiEntry} (h : ltS e.Key k = false) (h2 : e.Key ≠ k) : injS k o (e :: l) = newO k o ++ e :: l := by
 show (if ltS e.Key k = true then _ else _) = _
 rw [if_neg (by rw [h]; simp), if_neg h2]
abbrev OpK := List UInt8 × Option (List UInt8)
theorem tri (a b : List UInt8) : ltS a b = true ∨ a = b ∨ ltS b a = true := by
 by_cases h : ltS a b = true
 ·exact .inl h
 ·by_cases k : ltS b a = true
  ·exact .inr (.inr k)
  ·exact .inr (.inl (List.le_antisymm ((le_iff a b).2 (by simpa using k)) ((le_iff b a).2 (by simpa using h))))
theorem lt_ne {a b : List UInt8} (h : ltS a b = true) : a ≠ b := by
 rintro rfl
 rw [lt_irr] at h; cases h
theorem lt_asym {a b : List UInt8} (h : ltS a b = true) : ltS b a = false := by
 cases k : ltS b a with
 | false => rfl
 | true => have := lt_trans3 h k; rw [lt_irr] at this; cases this
theorem inj_len (k : List UInt8) (o : Option (List UInt8)) : ∀ l : List ApiEntry, (injS k o l).length ≤ l.length + 1
 | [] => by cases o <;> simp [injS, newO]
 | e :: l => by
  have := inj_len k o l
  unfold injS
  split
  ·simp; omega
  ·split
   ·cases o <;> simp [newO] <;> omega
   ·cases o <;> simp [newO]
theorem room_e {n : Nat} (h : n ≤ 1073741824) (k : Nat) (hk : k ≤ 100) : n * k ≤ room := by
 rw [show room = 140737488355328 from rfl]
 calc n * k ≤ n * 100 := Nat.mul_le_mul_left _ hk
  _ ≤ _ := by omega
theorem gone_plain {e : ApiEntry} (h : plainE e) : ref09_Gone e = some false := by
 obtain ⟨k, v, rfl⟩ := h
 rfl
theorem newO_len (k : List UInt8) (o : Option (List UInt8)) : (newO k o).length ≤ 1 := by cases o <;> simp [newO]
theorem place_eq (k : List UInt8) (o : Option (List UInt8)) (out : List ApiEntry) (h : out.length < 1073741824) :
  (Option.bind (ref09_Apply (ApiEntry.mk (msgO k o).Key false ([] : List UInt8) (0 : UInt64) false ([] : List UInt8)) (msgO k o)) fun r1645 =>
   Option.bind (ref09_Gone r1645) fun r1647 =>
   bif (!r1647) then
    bif decide ((out.length + [r1645].length) * 72 ≤ room) then
    some ((out ++ [r1645]), true)
    else none
   else
    some (out, true)) = some (out ++ newO k o, true) := by
 rw [msg_key]
 obtain ⟨e, h1, h2, h3⟩ := apply_o k k [] false o
 refine bo h1 ?_
 refine bo h2 ?_
 cases o with
 | none => show some (out, true) = some (out ++ [], true); rw [List.append_nil]
 | some v =>
  show (bif decide ((out.length + 1) * 72 ≤ room) then some ((out ++ [e]), true) else none) = _
  rw [bif_decT (room_e (by omega) 72 (by omega)), h3 rfl]
theorem Inject_eq (k : List UInt8) (o : Option (List UInt8)) (l : List ApiEntry) (hp : ∀ e ∈ l, plainE e) (hr : l.Pairwise fun a b => ltS a.Key b.Key = true) (hl : l.length < 1073741824) :
  ref11_Tree_Inject_1 (msgO k o) l = some (injS k o l) := by
 unfold ref11_Tree_Inject_1
 have hk4 : ((msgO k o).Kind == (4 : Int)) = false := by rcases msg_kind k o with h | h <;> rw [h] <;> rfl
 rw [hk4]
 refine lpA (w := injS k o l) (nmB fun B hB => ?_) rfl
 have step4 : ∀ (out : List ApiEntry) (i : Nat) (hi : i < l.length), out.length ≤ i + 1 → l[i].Key ≠ k → B (out, true, (i : Int)) = some (.inl (out ++ [l[i]], true, ((i + 1 : Nat) : Int))) := by
  intro out i hi ho hne
  rw [hB]
  show (bif _ then _ else _) = _
  rw [bif_decT (by omega)]
  have h1 : ((i : Int) == (l.length : Int)) = false := by simp; omega
  refine beY (y := (out ++ [l[i]], true)) ?_ ?_
  ·refine bo (a := (out, true)) rfl ?_
   show (bif ((i : Int) == (l.length : Int)) then _ else _) = _
   rw [h1]
   show Option.bind (getI l i) _ = _
   rw [getI_at hi, bind_some']
   refine bo (a := l[i]) ?_ ?_
   ·refine bo (a := false) ?_ rfl
    show some (l[i].Key == (msgO k o).Key) = _
    rw [msg_key, beq_eq_false_iff_ne.2 hne]
   ·refine bo (gone_plain (hp _ (List.getElem_mem hi))) ?_
    show (bif decide ((out.length + 1) * 72 ≤ room) then _ else _) = _
    rw [bif_decT (room_e (by omega) 72 (by omega))]
  ·show some (Sum.inl (_, _, w64 ((i : Int) + 1))) = _
   rw [w64_succ (by omega)]
 have end6 : ∀ (out : List ApiEntry), B (out, true, (l.length : Int)) = some (.inr out) := by
  intro out
  rw [hB]
  show (bif _ then _ else _) = _
  rw [bif_decT (by omega)]
  have h1 : ((l.length : Int) == (l.length : Int)) = true := by simp
  refine beE (x := out) ?_ rfl
  refine bo (a := (out, true)) rfl ?_
  show (bif ((l.length : Int) == (l.length : Int)) then _ else _) = _
  rw [h1]; rfl
 have end5 : ∀ (out : List ApiEntry), out.length ≤ l.length → B (out, false, (l.length : Int)) = some (.inr (out ++ newO k o)) := by
  intro out ho
  rw [hB]
  show (bif _ then _ else _) = _
  rw [bif_decT (by omega)]
  have h1 : ((l.length : Int) == (l.length : Int)) = true := by simp
  refine beE (x := out ++ newO k o) ?_ rfl
  refine bo (a := (out ++ newO k o, true)) ?_ ?_
  ·refine bo (a := true) ?_ ?_
   ·show (bif ((l.length : Int) == (l.length : Int)) then _ else _) = _
    rw [h1]; rfl
   ·refine bo (a := true) ?_ ?_
    ·show (bif ((l.length : Int) == (l.length : Int)) then _ else _) = _
     rw [h1]; rfl
    ·exact place_eq k o out (by omega)
  ·show (bif ((l.length : Int) == (l.length : Int)) then _ else _) = _
   rw [h1]; rfl
 have step1 : ∀ (out : List ApiEntry) (i : Nat) (hi : i < l.length), out.length ≤ i → ltS l[i].Key k = true → B (out, false, (i : Int)) = some (.inl (out ++ [l[i]], false, ((i + 1 : Nat) : Int))) := by
  intro out i hi ho hlt
  rw [hB]
  show (bif _ then _ else _) = _
  rw [bif_decT (by omega)]
  have h1 : ((i : Int) == (l.length : Int)) = false := by simp; omega
  refine beY (y := (out ++ [l[i]], false)) ?_ ?_
  ·refine bo (a := (out, false)) ?_ ?_
   ·refine bo (a := false) ?_ rfl
    show (bif ((i : Int) == (l.length : Int)) then _ else _) = _
    rw [h1]
    show Option.bind (getI l i) _ = _
    rw [getI_at hi, bind_some', msg_key, hlt]; rfl
   show (bif ((i : Int) == (l.length : Int)) then _ else _) = _
   rw [h1]
   show Option.bind (getI l i) _ = _
   rw [getI_at hi, bind_some']
   refine bo (a := l[i]) ?_ ?_
   ·refine bo (a := false) ?_ rfl
    show some (l[i].Key == (msgO k o).Key) = _
    rw [msg_key, beq_eq_false_iff_ne.2 (lt_ne hlt)]
   ·refine bo (gone_plain (hp _ (List.getElem_mem hi))) ?_
    show (bif decide ((out.length + 1) * 72 ≤ room) then _ else _) = _
    rw [bif_decT (room_e (by omega) 72 (by omega))]
  ·show some (Sum.inl (_, _, w64 ((i : Int) + 1))) = _
   rw [w64_succ (by omega)]
 have step2 : ∀ (out : List ApiEntry) (i : Nat) (hi : i < l.length), out.length ≤ i → l[i].Key = k → B (out, false, (i : Int)) = some (.inl (out ++ newO k o, true, ((i + 1 : Nat) : Int))) := by
  intro out i hi ho he
  rw [hB]
  show (bif _ then _ else _) = _
  rw [bif_decT (by omega)]
  have h1 : ((i : Int) == (l.length : Int)) = false := by simp; omega
  refine beY (y := (out ++ newO k o, true)) ?_ ?_
  ·refine bo (a := (out, true)) ?_ ?_
   ·refine bo (a := true) ?_ ?_
    ·show (bif ((i : Int) == (l.length : Int)) then _ else _) = _
     rw [h1]
     show Option.bind (getI l i) _ = _
     rw [getI_at hi, bind_some', msg_key, he, lt_irr]; rfl
    ·refine bo (a := false) ?_ rfl
     show (bif ((i : Int) == (l.length : Int)) then _ else _) = _
     rw [h1]
     show Option.bind (getI l i) _ = _
     rw [getI_at hi, bind_some', msg_key, he, lt_irr, beq_self_eq_true]; rfl
   show (bif ((i : Int) == (l.length : Int)) then _ else _) = _
   rw [h1]
   show Option.bind (getI l i) _ = _
   rw [getI_at hi, bind_some']
   obtain ⟨key, val, e0⟩ := hp _ (List.getElem_mem hi)
   rw [e0] at he ⊢
   have he : key = k := he
   subst he
   obtain ⟨e, g1, g2, g3⟩ := apply_o key key val true o
   refine bo (a := e) ?_ ?_
   ·refine bo (a := true) ?_ ?_
    ·show some (key == (msgO key o).Key) = _
     rw [msg_key, beq_self_eq_true]
    ·refine bo g1 rfl
   ·refine bo g2 ?_
    cases o with
    | none => show some (Sum.inl (out, true)) = some (Sum.inl (out ++ [], true)); rw [List.append_nil]
    | some v =>
     show (bif decide ((out.length + 1) * 72 ≤ room) then some (Sum.inl ((out ++ [e]), true)) else none) = _
     rw [bif_decT (room_e (by omega) 72 (by omega)), g3 rfl]
  ·show some (Sum.inl (_, _, w64 ((i : Int) + 1))) = _
   rw [w64_succ (by omega)]
 have step3 : ∀ (out : List ApiEntry) (i : Nat) (hi : i < l.length), out.length ≤ i → ltS k l[i].Key = true → B (out, false, (i : Int)) = some (.inl (out ++ newO k o ++ [l[i]], true, ((i + 1 : Nat) : Int))) := by
  intro out i hi ho hgt
  rw [hB]
  show (bif _ then _ else _) = _
  rw [bif_decT (by omega)]
  have h1 : ((i : Int) == (l.length : Int)) = false := by simp; omega
  have hne : l[i].Key ≠ k := fun e => lt_ne hgt e.symm
  refine beY (y := (out ++ newO k o ++ [l[i]], true)) ?_ ?_
  ·refine bo (a := (out ++ newO k o, true)) ?_ ?_
   ·refine bo (a := true) ?_ ?_
    ·show (bif ((i : Int) == (l.length : Int)) then _ else _) = _
     rw [h1]
     show Option.bind (getI l i) _ = _
     rw [getI_at hi, bind_some', msg_key, lt_asym hgt]; rfl
    ·refine bo (a := true) ?_ ?_
     ·show (bif ((i : Int) == (l.length : Int)) then _ else _) = _
      rw [h1]
      show Option.bind (getI l i) _ = _
      rw [getI_at hi, bind_some', msg_key, lt_asym hgt, beq_eq_false_iff_ne.2 hne]; rfl
     ·exact place_eq k o out (by omega)
   show (bif ((i : Int) == (l.length : Int)) then _ else _) = _
   rw [h1]
   show Option.bind (getI l i) _ = _
   rw [getI_at hi, bind_some']
   refine bo (a := l[i]) ?_ ?_
   ·refine bo (a := false) ?_ rfl
    show some (l[i].Key == (msgO k o).Key) = _
    rw [msg_key, beq_eq_false_iff_ne.2 hne]
   ·refine bo (gone_plain (hp _ (List.getElem_mem hi))) ?_
    have := newO_len k o
    show (bif decide (((out ++ newO k o).length + 1) * 72 ≤ room) then _ else _) = _
    rw [bif_decT (room_e (by rw [List.length_append]; omega) 72 (by omega))]
  ·show some (Sum.inl (_, _, w64 ((i : Int) + 1))) = _
   rw [w64_succ (by omega)]
 clear hB
 have run6 : ∀ n i (out : List ApiEntry), i + n = l.length → out.length ≤ i + 1 → (∀ j (hj : j < l.length), i ≤ j → l[j].Key ≠ k) → loop B (out, true, (i : Int)) = some (out ++ l.drop i) := by
  intro n
  induction n with
  | zero =>
   intro i out hi ho hk
   obtain rfl : i = l.length := by omega
   rw [List.drop_length, List.append_nil]
   exact loop_end (end6 out)
  | succ n ih =>
   intro i out hi ho hk
   have hi' : i < l.length := by omega
   rw [loop_step (step4 out i hi' ho (hk i hi' (Nat.le_refl _))), ih (i + 1) (out ++ [l[i]]) (by omega) (by simp; omega) (fun j hj h => hk j hj (by omega)), List.drop_eq_getElem_cons hi']
   simp
 have above : ∀ i (hi : i < l.length), (ltS k l[i].Key = true ∨ l[i].Key = k) → ∀ j (hj : j < l.length), i + 1 ≤ j → l[j].Key ≠ k := by
  intro i hi h j hj hij e
  have h2 := List.pairwise_iff_getElem.1 hr i j hi hj (by omega)
  rw [e] at h2
  rcases h with h | h
  ·have := lt_trans3 h2 h
   rw [lt_irr] at this; cases this
  ·rw [h, lt_irr] at h2; cases h2
 have run5 : ∀ n i (out : List ApiEntry), i + n = l.length → out.length ≤ i → loop B (out, false, (i : Int)) = some (out ++ injS k o (l.drop i)) := by
  intro n
  induction n with
  | zero =>
   intro i out hi ho
   obtain rfl : i = l.length := by omega
   rw [List.drop_length]
   exact loop_end (end5 out ho)
  | succ n ih =>
   intro i out hi ho
   have hi' : i < l.length := by omega
   rw [List.drop_eq_getElem_cons hi']
   have hn := newO_len k o
   rcases tri l[i].Key k with h | h | h
   ·rw [loop_step (step1 out i hi' ho h), ih (i + 1) (out ++ [l[i]]) (by omega) (by simp; omega), inj_cons_lt h]
    simp
   ·rw [loop_step (step2 out i hi' ho h), run6 n (i + 1) _ (by omega) (by simp; omega) (above i hi' (.inr h)), inj_cons_eq h]
    simp
   ·rw [loop_step (step3 out i hi' ho h), run6 n (i + 1) _ (by omega) (by simp; omega) (above i hi' (.inl h)), inj_cons_gt (lt_asym h) (fun e => lt_ne h e.symm)]
    simp
 have := run5 l.length 0 [] (by omega) (by simp)
 simpa using this
def ELr (l : List ApiEntry) : Prop := (∀ e ∈ l, plainE e) ∧ l.Pairwise fun a b => ltS a.Key b.Key = true
theorem new_plain (k : List UInt8) (o : Option (List UInt8)) : ∀ e ∈ newO k o, plainE e ∧ e.Key = k := by
 cases o with
 | none => intro e he; cases he
 | some v =>
  intro e he
  obtain rfl : e = ApiEntry.mk k true v 0 false [] := by simpa [newO] using he
  exact ⟨⟨k, v, rfl⟩, rfl⟩
theorem inj_mem (k : List UInt8) (o : Option (List UInt8)) : ∀ (l : List ApiEntry), ∀ e ∈ injS k o l, e ∈ l ∨ e ∈ newO k o
 | [], e, h => .inr h
 | x :: l, e, h => by
  unfold injS at h
  split at h
  ·rcases List.mem_cons.1 h with rfl | h
   ·exact .inl (by simp)
   ·rcases inj_mem k o l e h with h | h
    ·exact .inl (by simp [h])
    ·exact .inr h
  ·split at h
   ·rcases List.mem_append.1 h with h | h
    ·exact .inr h
    ·exact .inl (by simp [h])
   ·rcases List.mem_append.1 h with h | h
    ·exact .inr h
    ·exact .inl h
theorem inj_EL (k : List UInt8) (o : Option (List UInt8)) : ∀ {l : List ApiEntry}, ELr l → ELr (injS k o l) := by
 intro l h
 refine ⟨fun e he => ?_, ?_⟩
 ·rcases inj_mem k o l e he with h' | h'
  ·exact h.1 e h'
  ·exact (new_plain k o e h').1
 ·have hs := h.2
  clear h
  induction l with
  | nil => cases o <;> simp [injS, newO]
  | cons x l ih =>
   have hx := (List.pairwise_cons.1 hs).1
   have hs' := (List.pairwise_cons.1 hs).2
   have nw : (newO k o).Pairwise fun a b => ltS a.Key b.Key = true := by cases o <;> simp [newO]
   unfold injS
   split
   ·rename_i e
    refine List.pairwise_cons.2 ⟨fun y hy => ?_, ih hs'⟩
    rcases inj_mem k o l y hy with h' | h'
    ·exact hx y h'
    ·rw [(new_plain k o y h').2]; exact e
   ·rename_i e
    split
    ·rename_i e2
     refine List.pairwise_append.2 ⟨nw, hs', fun a ha b hb => ?_⟩
     rw [(new_plain k o a ha).2, ← e2]
     exact hx b hb
    ·rename_i e2
     have e3 : ltS k x.Key = true := by
      rcases tri x.Key k with h | h | h
      ·exact absurd h e
      ·exact absurd h e2
      ·exact h
     refine List.pairwise_append.2 ⟨nw, hs, fun a ha b hb => ?_⟩
     rw [(new_plain k o a ha).2]
     rcases List.mem_cons.1 hb with rfl | hb
     ·exact e3
     ·exact lt_trans3 e3 (hx b hb)
def opF (no : Int) (x : OpK) : ForestOp := ForestOp.mk 1 no (msgO x.1 x.2)
def lkE (l : List ApiEntry) (k : List UInt8) : Option (List UInt8) := (l.find? fun e => e.Key == k).map (·.Val)
theorem lkE_nil (k : List UInt8) : lkE [] k = none := rfl
theorem lkE_cons (e : ApiEntry) (l : List ApiEntry) (k : List UInt8) : lkE (e :: l) k = if e.Key = k then some e.Val else lkE l k := by
 unfold lkE
 rw [List.find?_cons]
 by_cases h : e.Key = k
 ·rw [if_pos h, beq_iff_eq.2 h]; rfl
 ·rw [if_neg h, beq_eq_false_iff_ne.2 h]
theorem lkE_gt {l : List ApiEntry} {k : List UInt8} (h : ∀ e ∈ l, ltS k e.Key = true) : lkE l k = none := by
 induction l with
 | nil => rfl
 | cons e l ih =>
  rw [lkE_cons, if_neg (fun q => lt_ne (h e List.mem_cons_self) q.symm)]
  exact ih fun e he => h e (List.mem_cons_of_mem _ he)
theorem lkE_new (k : List UInt8) (o : Option (List UInt8)) (l : List ApiEntry) (j : List UInt8) (hn : j = k → lkE l k = none) : lkE (newO k o ++ l) j = if j = k then o else lkE l j := by
 cases o with
 | none =>
  show lkE l j = _
  by_cases h : j = k
  ·rw [if_pos h, h, hn h]
  ·rw [if_neg h]
 | some v =>
  show lkE (_ :: l) j = _
  rw [lkE_cons]
  by_cases h : j = k
  ·rw [if_pos h, if_pos h.symm]
  ·rw [if_neg h, if_neg (fun q => h q.symm)]
theorem ELr.tail {e : ApiEntry} {l : List ApiEntry} (h : ELr (e :: l)) : ELr l := ⟨fun x hx => h.1 x (List.mem_cons_of_mem _ hx), (List.pairwise_cons.1 h.2).2⟩
theorem ELr.head {e : ApiEntry} {l : List ApiEntry} (h : ELr (e :: l)) : ∀ x ∈ l, ltS e.Key x.Key = true := (List.pairwise_cons.1 h.2).1
theorem lkE_inj (k : List UInt8) (o : Option (List UInt8)) (j : List UInt8) : ∀ {l : List ApiEntry}, ELr l → lkE (injS k o l) j = if j = k then o else lkE l j
 | [], _ => by
  have := lkE_new k o [] j (fun _ => rfl)
  rw [List.append_nil] at this
  exact this
 | e :: l, h => by
  have ih := lkE_inj k o j h.tail
  by_cases h1 : ltS e.Key k = true
  ·rw [show injS k o (e :: l) = e :: injS k o l from if_pos h1, lkE_cons, lkE_cons, ih]
   by_cases q : e.Key = j
   ·rw [if_pos q, if_pos q, if_neg (fun q2 => lt_ne h1 (q.trans q2))]
   ·rw [if_neg q, if_neg q]
  by_cases h2 : e.Key = k
  ·rw [show injS k o (e :: l) = newO k o ++ l from (if_neg h1).trans (if_pos h2), lkE_new k o l j (fun _ => lkE_gt fun x hx => h2 ▸ h.head x hx), lkE_cons]
   by_cases q : j = k
   ·rw [if_pos q, if_pos q]
   ·rw [if_neg q, if_neg q, if_neg (fun q2 => q (q2.symm.trans h2))]
  ·have h3 : ltS k e.Key = true := by
    rcases tri e.Key k with q | q | q
    ·exact absurd q h1
    ·exact absurd q h2
    ·exact q
   rw [show injS k o (e :: l) = newO k o ++ e :: l from (if_neg h1).trans (if_neg h2)]
   refine lkE_new k o (e :: l) j fun _ => lkE_gt fun x hx => ?_
   rcases List.mem_cons.1 hx with rfl | hx
   ·exact h3
   ·exact lt_trans3 h3 (h.head x hx)
theorem ELr_ext : ∀ {a b : List ApiEntry}, ELr a → ELr b → (∀ k, lkE a k = lkE b k) → a = b
 | [], [], _, _, _ => rfl
 | [], y :: b, _, _, h => by
  have := h y.Key
  rw [lkE_nil, lkE_cons, if_pos rfl] at this
  cases this
 | x :: a, [], _, _, h => by
  have := h x.Key
  rw [lkE_nil, lkE_cons, if_pos rfl] at this
  cases this
 | x :: a, y :: b, ha, hb, h => by
  have hxy : x.Key = y.Key := by
   rcases tri x.Key y.Key with q | q | q
   ·have h1 := h x.Key
    rw [lkE_cons, if_pos rfl, lkE_gt fun e he => ?_] at h1
    ·cases h1
    ·rcases List.mem_cons.1 he with rfl | he
     ·exact q
     ·exact lt_trans3 q (hb.head e he)
   ·exact q
   ·have h1 := h y.Key
    rw [lkE_cons (l := b), if_pos rfl, lkE_gt fun e he => ?_] at h1
    ·cases h1
    ·rcases List.mem_cons.1 he with rfl | he
     ·exact q
     ·exact lt_trans3 q (ha.head e he)
  have hv := h x.Key
  rw [lkE_cons, if_pos rfl, lkE_cons, if_pos hxy.symm] at hv
  have hv2 := Option.some.inj hv
  obtain ⟨k, v, rfl⟩ := ha.1 x List.mem_cons_self
  obtain ⟨k', v', rfl⟩ := hb.1 y List.mem_cons_self
  simp only at hxy hv2
  subst hxy
  subst hv2
  refine congrArg _ (ELr_ext ha.tail hb.tail fun j => ?_)
  have hj := h j
  rw [lkE_cons, lkE_cons] at hj
  by_cases q : k = j
  ·subst q
   rw [lkE_gt ha.head, lkE_gt hb.head]
  ·simp only [if_neg q] at hj
   exact hj
theorem ELr_nil : ELr [] := ⟨fun e h => (by cases h), List.Pairwise.nil⟩
def trL : Nat → List Nat → List Granarylaw19Tree
 | _, [] => []
 | i, b :: r => ⟨100 + (i : Int), b⟩ :: trL (i + 1) r
theorem trL_len : ∀ (i : Nat) (bs : List Nat), (trL i bs).length = bs.length
 | _, [] => rfl
 | i, b :: r => by simp [trL, trL_len (i + 1) r]
theorem trL_get : ∀ (i : Nat) (bs : List Nat) (j : Nat) (h : j < bs.length), (trL i bs)[j]'(by rw [trL_len]; exact h) = ⟨100 + ((i + j : Nat) : Int), bs[j]⟩
 | i, b :: r, 0, _ => rfl
 | i, b :: r, j + 1, h => by
  have := trL_get (i + 1) r j (by simpa using h)
  simp only [trL, List.getElem_cons_succ, this]
  congr 2; omega
theorem trL_app (i : Nat) (bs : List Nat) (b : Nat) : trL i bs ++ [⟨100 + ((i + bs.length : Nat) : Int), b⟩] = trL i (bs ++ [b]) := by
 induction bs generalizing i with
 | nil => simp [trL]
 | cons c bs ih =>
  simp only [trL, List.cons_append, List.length_cons]
  rw [← ih (i + 1)]
  congr 3
  simp only [Granarylaw19Tree.mk.injEq, and_true]; omega
theorem pget_zip {α : Type} {bs : List Nat} {ts : List α} (hn : bs.Nodup) (hl : ts.length = bs.length) {i : Nat} (h : i < bs.length) : pget (bs.zip ts) bs[i] = some (ts[i]'(by omega)) := by
 induction bs generalizing ts i with
 | nil => simp at h
 | cons b bs ih =>
  cases ts with
  | nil => simp at hl
  | cons t ts =>
   have hn' := List.nodup_cons.1 hn
   cases i with
   | zero => simp [pget]
   | succ i =>
    have hi : i < bs.length := by simpa using h
    have hne : ¬ b = bs[i] := fun q => hn'.1 (q ▸ List.getElem_mem hi)
    have := ih hn'.2 (by simpa using hl) hi
    unfold pget at this ⊢
    simp only [List.zip_cons_cons, List.getElem_cons_succ, List.find?_cons, beq_eq_false_iff_ne.2 hne]
    exact this
theorem nd_inj {bs : List Nat} (hn : bs.Nodup) {i j : Nat} (hi : i < bs.length) (hj : j < bs.length) (h : bs[i] = bs[j]) : i = j := by
 have hp := List.pairwise_iff_getElem.1 hn
 rcases Nat.lt_trichotomy i j with q | q | q
 ·exact absurd h (hp i j hi hj q)
 ·exact q
 ·exact absurd h.symm (hp j i hj hi q)
theorem pset_zip {α : Type} {bs : List Nat} {ts : List α} (hn : bs.Nodup) (hl : ts.length = bs.length) {i : Nat} (h : i < bs.length) (x : α) : pset (bs.zip ts) bs[i] x = bs.zip (ts.set i x) := by
 apply List.ext_getElem
 ·simp [pset]
 ·intro j h1 h2
  have hj : j < bs.length := by simp [pset] at h1; omega
  simp only [pset, List.getElem_map, List.getElem_zip, List.getElem_set]
  by_cases q : i = j
  ·subst q; rw [if_pos rfl, if_pos rfl]
  ·rw [if_neg (fun q2 => q (nd_inj hn h hj q2.symm)), if_neg q]
theorem set_mod {α : Type} (f : α → α) (l : List α) (k : Nat) (h : k < l.length) : l.set k (f l[k]) = l.modify k f := by
 apply List.ext_getElem
 ·simp
 ·intro j h1 h2
  rw [List.getElem_set, List.getElem_modify]
  split
  ·rename_i q; subst q; rfl
  ·rfl
abbrev OpT := Nat × OpK
def opT (o : OpT) : ForestOp := opF (100 + (o.1 : Int)) o.2
def runS (ops : List OpT) (ts : List (List ApiEntry)) : List (List ApiEntry) := ops.foldl (fun ts o => ts.modify o.1 (injS o.2.1 o.2.2)) ts
theorem runS_len (ops : List OpT) (ts : List (List ApiEntry)) : (runS ops ts).length = ts.length := by
 unfold runS
 induction ops generalizing ts with
 | nil => rfl
 | cons o ops ih => rw [List.foldl_cons, ih, List.length_modify]
theorem inj_len1 (k : List UInt8) (o : Option (List UInt8)) (l : List ApiEntry) : (injS k o l).length ≤ l.length + 1 := inj_len k o l
def TR (n : Nat) (ts : List (List ApiEntry)) : Prop := ∀ t ∈ ts, ELr t ∧ t.length ≤ n
theorem TR.mod {n : Nat} {ts : List (List ApiEntry)} (h : TR n ts) (i : Nat) (k : List UInt8) (o : Option (List UInt8)) : TR (n + 1) (ts.modify i (injS k o)) := by
 intro t ht
 obtain ⟨j, hj, rfl⟩ := List.mem_iff_getElem.1 ht
 have hj' : j < ts.length := by simpa using hj
 rw [List.getElem_modify]
 obtain ⟨h1, h2⟩ := h _ (List.getElem_mem hj')
 split
 ·exact ⟨inj_EL k o h1, Nat.le_trans (inj_len1 k o _) (by omega)⟩
 ·exact ⟨h1, by omega⟩
theorem TR.run {n : Nat} {ts : List (List ApiEntry)} (h : TR n ts) (ops : List OpT) : TR (n + ops.length) (runS ops ts) := by
 unfold runS
 induction ops generalizing n ts with
 | nil => exact h
 | cons o ops ih =>
  rw [List.foldl_cons, List.length_cons]
  have := ih (h.mod o.1 o.2.1 o.2.2)
  rw [show n + (ops.length + 1) = n + 1 + ops.length by omega]
  exact this
theorem run_eq (bs : List Nat) (ops : List OpT) (ts : List (List ApiEntry)) (n : Nat) (hn : bs.Nodup) (hl : ts.length = bs.length) (hb : bs.length ≤ 1000) (ho : ops.length ≤ 1000) (hi : ∀ o ∈ ops, o.1 < bs.length) (ht : TR n ts) (hs : n ≤ 100000) :
  law19_run (trL 0 bs) (ops.map opT) (bs.zip ts) = some (bs.zip (runS ops ts), true) := by
 unfold law19_run
 refine lpE (w := .inl (bs.zip (runS ops ts))) (lq1 (fun i => (bs.zip (runS (ops.take i) ts), (i : Int))) ops.length (fun i hlt => ?_) ?_ rfl) rfl
 ·show (bif _ then _ else _) = _
  rw [bif_decT (by rw [List.length_map]; omega)]
  have hlen := runS_len (ops.take i) ts
  have hT : TR (n + i) (runS (ops.take i) ts) := by
   have := ht.run (ops.take i)
   rw [List.length_take, Nat.min_eq_left (by omega)] at this
   exact this
  have hj := hi _ (List.getElem_mem hlt)
  have hstep : runS (ops.take (i + 1)) ts = (runS (ops.take i) ts).modify ops[i].1 (injS ops[i].2.1 ops[i].2.2) := by
   unfold runS
   rw [List.take_succ_eq_append_getElem hlt, List.foldl_append]; rfl
  generalize hg : runS (ops.take i) ts = gs at hlen hT hstep
  refine beY (y := bs.zip (runS (ops.take (i + 1)) ts)) ?_ ?_
  ·refine bo (a := (bs.zip (runS (ops.take (i + 1)) ts), true)) ?_ rfl
   refine bo (lq1 (w := (bs.zip (runS (ops.take (i + 1)) ts), true)) (fun k => (if ops[i].1 < k then bs.zip (runS (ops.take (i + 1)) ts) else bs.zip gs, decide (ops[i].1 < k), (k : Int))) bs.length (fun k hk => ?_) ?_ (by rw [if_neg (by omega), decide_eq_false (by omega)]; rfl)) rfl
   ·show (bif _ then _ else _) = _
    rw [bif_decT (by rw [trL_len]; omega)]
    have gk : getI (trL 0 bs) (k : Int) = some ⟨100 + (k : Int), bs[k]⟩ := by
     rw [getI_at (by rw [trL_len]; exact hk), trL_get 0 bs k hk, Nat.zero_add]
    have go : getI (ops.map opT) (i : Int) = some (opT ops[i]) := by rw [getI_at (by rw [List.length_map]; exact hlt), List.getElem_map]
    by_cases q : ops[i].1 = k
    ·refine bo (a := (bs.zip (runS (ops.take (i + 1)) ts), true)) ?_ ?_
     ·refine bo gk ?_
      refine bo go ?_
      refine bt (by show ((100 + (k : Int)) == (100 + (ops[i].1 : Int))) = true; rw [q]; simp) ?_
      refine bo gk ?_
      refine bo go ?_
      rw [if_neg (by omega)]
      have hkg : k < gs.length := by omega
      refine bo (pget_zip hn (by omega) hk) ?_
      obtain ⟨e1, e2⟩ := hT _ (List.getElem_mem hkg)
      refine bo (Inject_eq ops[i].2.1 ops[i].2.2 gs[k] e1.1 e1.2 (by omega)) ?_
      show some (pset _ bs[k] _, true) = _
      rw [pset_zip hn (by omega) hk, hstep, q, ← set_mod _ gs k hkg]
     ·rw [w64_succ (by omega), if_pos (by omega), show decide (ops[i].1 < k + 1) = true by simp; omega]
    ·refine bo (a := (if ops[i].1 < k then bs.zip (runS (ops.take (i + 1)) ts) else bs.zip gs, decide (ops[i].1 < k))) ?_ ?_
     ·refine bo gk ?_
      refine bo go ?_
      refine bf (by show ((100 + (k : Int)) == (100 + (ops[i].1 : Int))) = false; simp; omega) rfl
     ·rw [w64_succ (by omega)]
      by_cases q2 : ops[i].1 < k
      ·rw [if_pos q2, if_pos (by omega), show decide (ops[i].1 < k + 1) = true by simp; omega, show decide (ops[i].1 < k) = true by simp; omega]
      ·rw [if_neg q2, if_neg (by omega), show decide (ops[i].1 < k + 1) = false by simp; omega, show decide (ops[i].1 < k) = false by simp; omega]
   ·show (bif _ then _ else _) = _
    rw [bif_decF (by rw [trL_len]; omega), if_pos hj, decide_eq_true hj]
  ·rw [w64_succ (by omega)]
 ·show (bif _ then _ else _) = _
  rw [bif_decF (by rw [List.length_map]; omega), List.take_length]
section
variable (key val : List ApiValue → List UInt8) (kp : List ApiValue → Bool)
def SJ (rows : List (List ApiValue)) : List ApiEntry := rows.foldl (fun M l => if kp l = true then injS (key l) (some (val l)) M else M) []
theorem SJ_snoc (rows : List (List ApiValue)) (l : List ApiValue) : SJ key val kp (rows ++ [l]) = if kp l = true then injS (key l) (some (val l)) (SJ key val kp rows) else SJ key val kp rows := by
 unfold SJ; rw [List.foldl_append]; rfl
theorem snoc_ind {α : Type} {P : List α → Prop} (h0 : P []) (h1 : ∀ l x, P l → P (l ++ [x])) : ∀ l, P l := by
 intro l
 rw [← List.reverse_reverse l]
 induction l.reverse with
 | nil => exact h0
 | cons x l ih => rw [List.reverse_cons]; exact h1 _ _ ih
theorem SJ_ok (rows : List (List ApiValue)) : ELr (SJ key val kp rows) ∧ (SJ key val kp rows).length ≤ rows.length := by
 induction rows using snoc_ind with
 | h0 => exact ⟨ELr_nil, Nat.le_refl _⟩
 | h1 l x ih =>
  rw [SJ_snoc, List.length_append, List.length_singleton]
  split
  ·exact ⟨inj_EL _ _ ih.1, Nat.le_trans (inj_len1 _ _ _) (by omega)⟩
  ·exact ⟨ih.1, by omega⟩
theorem SJ_lk (rows : List (List ApiValue)) (hd : rows.Pairwise fun a b => key a ≠ key b) (k v : List UInt8) : lkE (SJ key val kp rows) k = some v ↔ ∃ l ∈ rows, kp l = true ∧ key l = k ∧ val l = v := by
 induction rows using snoc_ind with
 | h0 => simp [SJ, lkE_nil]
 | h1 r x ih =>
  obtain ⟨h1, _, h3⟩ := List.pairwise_append.1 hd
  have ih := ih h1
  rw [SJ_snoc]
  by_cases hx : kp x = true
  ·rw [if_pos hx, lkE_inj _ _ _ (SJ_ok key val kp r).1]
   by_cases q : k = key x
   ·rw [if_pos q]
    constructor
    ·intro h
     exact ⟨x, by simp, hx, q.symm, Option.some.inj h⟩
    ·rintro ⟨l, hl, _, h5, h6⟩
     rcases List.mem_append.1 hl with hl | hl
     ·exact absurd (h5.trans q) (h3 l hl x (by simp))
     ·simp only [List.mem_singleton] at hl
      subst hl; rw [h6]
   ·rw [if_neg q, ih]
    constructor
    ·rintro ⟨l, hl, h⟩; exact ⟨l, List.mem_append.2 (.inl hl), h⟩
    ·rintro ⟨l, hl, h4, h5, h6⟩
     rcases List.mem_append.1 hl with hl | hl
     ·exact ⟨l, hl, h4, h5, h6⟩
     ·simp only [List.mem_singleton] at hl
      subst hl; exact absurd h5.symm q
  ·rw [if_neg hx, ih]
   constructor
   ·rintro ⟨l, hl, h⟩; exact ⟨l, List.mem_append.2 (.inl hl), h⟩
   ·rintro ⟨l, hl, h4, h5, h6⟩
    rcases List.mem_append.1 hl with hl | hl
    ·exact ⟨l, hl, h4, h5, h6⟩
    ·simp only [List.mem_singleton] at hl
     subst hl; exact absurd h4 hx
variable {key val kp}
theorem SJ_same {a b : List (List ApiValue)} (ha : a.Pairwise fun a b => key a ≠ key b) (hb : b.Pairwise fun a b => key a ≠ key b) (h : ∀ l, kp l = true → (l ∈ a ↔ l ∈ b)) : SJ key val kp a = SJ key val kp b := by
 refine ELr_ext (SJ_ok key val kp a).1 (SJ_ok key val kp b).1 fun k => Option.ext fun v => ?_
 rw [SJ_lk key val kp a ha, SJ_lk key val kp b hb]
 constructor
 ·rintro ⟨l, hl, h1, h2⟩; exact ⟨l, (h l h1).1 hl, h1, h2⟩
 ·rintro ⟨l, hl, h1, h2⟩; exact ⟨l, (h l h1).2 hl, h1, h2⟩
theorem SJ_change {rows R rows' : List (List ApiValue)} {old now : List ApiValue} {t' : List ApiEntry} (hd : rows.Pairwise fun a b => key a ≠ key b) (hd' : rows'.Pairwise fun a b => key a ≠ key b) (hm : ∀ l, l ∈ rows ↔ l ∈ R ∨ (old ≠ [] ∧ l = old)) (hm' : ∀ l, l ∈ rows' ↔ l ∈ R ∨ (now ≠ [] ∧ l = now))
  (ho : old ≠ [] → ∀ l ∈ R, key l ≠ key old) (hn : now ≠ [] → ∀ l ∈ R, key l ≠ key now) (kn : now ≠ [] → kp now = true) (hE : ELr t')
  (hF : ∀ k, lkE t' k = if now ≠ [] ∧ k = key now then some (val now) else if old ≠ [] ∧ k = key old then none else lkE (SJ key val kp rows) k) : t' = SJ key val kp rows' := by
 refine ELr_ext hE (SJ_ok key val kp rows').1 fun k => Option.ext fun v => ?_
 rw [hF, SJ_lk key val kp rows' hd']
 by_cases h1 : now ≠ [] ∧ k = key now
 ·rw [if_pos h1]
  constructor
  ·intro h; exact ⟨now, (hm' now).2 (.inr ⟨h1.1, rfl⟩), kn h1.1, h1.2.symm, Option.some.inj h⟩
  ·rintro ⟨l, hl, _, h3, h4⟩
   rcases (hm' l).1 hl with q | ⟨_, q⟩
   ·exact absurd (h3.trans h1.2) (hn h1.1 l q)
   ·rw [← q, h4]
 rw [if_neg h1]
 by_cases h2 : old ≠ [] ∧ k = key old
 ·rw [if_pos h2]
  constructor
  ·intro h; cases h
  ·rintro ⟨l, hl, _, h3, h4⟩
   rcases (hm' l).1 hl with q | ⟨q1, q⟩
   ·exact absurd (h3.trans h2.2) (ho h2.1 l q)
   ·exact absurd ⟨q1, by rw [← q, h3]⟩ h1
 rw [if_neg h2, SJ_lk key val kp rows hd]
 constructor
 ·rintro ⟨l, hl, h3, h4, h5⟩
  rcases (hm l).1 hl with q | ⟨q1, q⟩
  ·exact ⟨l, (hm' l).2 (.inl q), h3, h4, h5⟩
  ·exact absurd ⟨q1, by rw [← q, h4]⟩ h2
 ·rintro ⟨l, hl, h3, h4, h5⟩
  rcases (hm' l).1 hl with q | ⟨q1, q⟩
  ·exact ⟨l, (hm l).2 (.inl q), h3, h4, h5⟩
  ·exact absurd ⟨q1, by rw [← q, h4]⟩ h1
end
theorem turn_ne {d : Bool} {b : List UInt8} (h : b ≠ []) : turn d b ≠ [] := by
 cases d with
 | false => exact h
 | true => simpa [turn] using h
theorem keyS_ne (l : List ApiValue) {ps : List ApiPart} (h : ps ≠ []) : keyS l ps ≠ [] := by
 cases ps with
 | nil => exact absurd rfl h
 | cons p ps =>
  show turn p.Down (enc (vAt l p.Col)) ++ _ ≠ []
  intro q
  exact turn_ne (by unfold enc; simp) (List.append_eq_nil_iff.1 q).1
theorem keyS_dec {cols : List ApiColumn} {l : List ApiValue} (h : Fit cols l) {ps : List ApiPart} (hp : ∀ p ∈ ps, 0 ≤ p.Col ∧ p.Col < cols.length) (t : List UInt8) :
  decL (ps.map fun p => (colAt cols p.Col).Kind) (downs ps) (keyS l ps ++ t) = some (partV l ps, t) := by
 refine decL_enc (partV l ps) (downs ps) _ t (by simp [partV, downs]) (by simp [partV]) (fun v hv => ?_) (fun i v k h1 h2 => ?_)
 ·obtain ⟨p, hp1, rfl⟩ := List.mem_map.1 hv
  have := hp p hp1
  exact h.val _ (vAt_mem ⟨this.1, by rw [h.len]; exact this.2⟩)
 ·simp only [partV, List.getElem?_map, Option.map_eq_some_iff] at h1 h2
  obtain ⟨p, q1, rfl⟩ := h1
  obtain ⟨p', q2, rfl⟩ := h2
  rw [q1] at q2
  cases q2
  have hf := h.at (hp p (List.mem_of_getElem? q1))
  exact (fitS_ok hf).2.1
theorem entKey_inj {t : ApiTable} {x : ApiIndex} (rx : RightX t x) {l m : List ApiValue} (hl : Fit t.Cols l) (hm : Fit t.Cols m) (h : (entS t x l).Key = (entS t x m).Key) : primS t l = primS t m := by
 have hp := parts_in rx.pla
 have h1 := keyS_dec hl hp (keyS l (upS t.Primary))
 have h2 := keyS_dec hm hp (keyS m (upS t.Primary))
 rw [show keyS l x.Parts ++ keyS l (upS t.Primary) = keyS m x.Parts ++ keyS m (upS t.Primary) from h, h2] at h1
 simp only [Option.some.injEq, Prod.mk.injEq] at h1
 exact h1.2.symm
theorem entKey_ne {t : ApiTable} {x : ApiIndex} (rx : RightX t x) (l : List ApiValue) : (entS t x l).Key ≠ [] := by
 intro q
 have := (List.append_eq_nil_iff.1 (show keyS l x.Parts ++ _ = [] from q)).1
 exact keyS_ne l (by intro h; have := rx.par; rw [h] at this; simp at this) this
def applyK (os : List OpK) (t : List ApiEntry) : List ApiEntry := os.foldl (fun t o => injS o.1 o.2 t) t
theorem applyK_ok (os : List OpK) : ∀ {t : List ApiEntry}, ELr t → ELr (applyK os t) := by
 unfold applyK
 induction os with
 | nil => intro t h; exact h
 | cons o os ih => intro t h; exact ih (inj_EL _ _ h)
def dX (t : ApiTable) (x : ApiIndex) (old now : List ApiValue) : List OpK :=
 if entO t x old = entO t x now then [] else
 (if (decide (old ≠ []) && ((entO t x old).Key != (entO t x now).Key)) = true then [((entO t x old).Key, none)] else []) ++ (if now = [] then [] else [((entO t x now).Key, some (entO t x now).Val)])
theorem idxOps_dX (t : ApiTable) (x : ApiIndex) (old now : List ApiValue) (j : Nat) (hx : x.Tree = 100 + (j : Int)) : (idxOps t x old now).1 = ((dX t x old now).map fun o => ((j, o) : OpT)).map opT := by
 unfold idxOps dX
 by_cases q : entO t x old = entO t x now
 ·rw [if_pos q, if_pos q]; rfl
 rw [if_neg q, if_neg q]
 simp only
 generalize (decide (old ≠ []) && ((entO t x old).Key != (entO t x now).Key)) = del
 by_cases k : now = []
 ·rw [if_pos k, if_pos k]
  cases del with
  | false => rfl
  | true => simp only [if_true, List.append_nil, List.map_cons, List.map_nil, opT, opF, opS, hx]; rfl
 ·rw [if_neg k, if_neg k]
  have : ∀ (c : Prop) [Decidable c] (o : List ForestOp) (a b : List ApiLock) (d : List FanProbe), (if c then (o, a, d) else (o, b, ([] : List FanProbe))).1 = o := by intro c _ o a b d; split <;> rfl
  rw [this]
  cases del with
  | false => simp only [Bool.false_eq_true, if_false, List.nil_append, List.map_cons, List.map_nil, opT, opF, opS, hx]; rfl
  | true => simp only [if_true, List.singleton_append, List.map_cons, List.map_nil, opT, opF, opS, hx]; rfl
theorem dX_lk {t : ApiTable} {x : ApiIndex} (rx : RightX t x) {old now : List ApiValue} (hne : old ≠ [] ∨ now ≠ []) {M : List ApiEntry} (hM : ELr M) (hold : old ≠ [] → lkE M (entS t x old).Key = some (entS t x old).Val) (k : List UInt8) :
  lkE (applyK (dX t x old now) M) k = if now ≠ [] ∧ k = (entS t x now).Key then some (entS t x now).Val else if old ≠ [] ∧ k = (entS t x old).Key then none else lkE M k := by
 have eo : old ≠ [] → entO t x old = entS t x old := fun h => if_neg h
 have en : now ≠ [] → entO t x now = entS t x now := fun h => if_neg h
 have zo : old = [] → entO t x old = ⟨[], []⟩ := fun h => if_pos h
 have zn : now = [] → entO t x now = ⟨[], []⟩ := fun h => if_pos h
 have no := entKey_ne rx old
 have nn := entKey_ne rx now
 unfold dX
 by_cases q : entO t x old = entO t x now
 ·rw [if_pos q]
  show lkE M k = _
  by_cases h1 : old = []
  ·exfalso
   have h2 : now ≠ [] := hne.resolve_left (fun h => h h1)
   rw [zo h1, en h2] at q
   exact nn (congrArg ApiPair.Key q).symm
  by_cases h2 : now = []
  ·exfalso
   rw [zn h2, eo h1] at q
   exact no (congrArg ApiPair.Key q)
  rw [eo h1, en h2] at q
  have := hold h1
  by_cases h3 : k = (entS t x now).Key
  ·rw [if_pos ⟨h2, h3⟩, h3, ← q, this]
  ·rw [if_neg (fun h => h3 h.2), if_neg (fun h => h3 (by rw [h.2, q]))]
 rw [if_neg q]
 by_cases h1 : old = []
 ·have h2 : now ≠ [] := hne.resolve_left (fun h => h h1)
  rw [if_neg (by simp [h1]), if_neg h2, en h2]
  show lkE (injS _ _ M) k = _
  rw [lkE_inj _ _ _ hM]
  by_cases h3 : k = (entS t x now).Key
  ·rw [if_pos h3, if_pos ⟨h2, h3⟩]
  ·rw [if_neg h3, if_neg (fun h => h3 h.2), if_neg (fun h => h.1 h1)]
 rw [eo h1]
 by_cases h2 : now = []
 ·rw [zn h2, if_pos (by simp [h1, no]), if_pos h2]
  show lkE (injS (entS t x old).Key none M) k = _
  rw [lkE_inj _ _ _ hM]
  by_cases h3 : k = (entS t x old).Key
  ·rw [if_pos h3, if_neg (fun h => h.1 h2), if_pos ⟨h1, h3⟩]
  ·rw [if_neg h3, if_neg (fun h => h.1 h2), if_neg (fun h => h3 h.2)]
 rw [en h2, if_neg h2]
 by_cases h4 : (entS t x old).Key = (entS t x now).Key
 ·rw [if_neg (by simp [h4])]
  show lkE (injS _ _ M) k = _
  rw [lkE_inj _ _ _ hM]
  by_cases h3 : k = (entS t x now).Key
  ·rw [if_pos h3, if_pos ⟨h2, h3⟩]
  ·rw [if_neg h3, if_neg (fun h => h3 h.2), if_neg (fun h => h3 (by rw [h.2, h4]))]
 ·rw [if_pos (by simp [h1, h4])]
  show lkE (injS (entS t x now).Key (some (entS t x now).Val) (injS (entS t x old).Key none M)) k = _
  rw [lkE_inj _ _ _ (inj_EL _ _ hM), lkE_inj _ _ _ hM]
  by_cases h3 : k = (entS t x now).Key
  ·rw [if_pos h3, if_pos ⟨h2, h3⟩]
  ·rw [if_neg h3]
   by_cases h5 : k = (entS t x old).Key
   ·rw [if_pos h5, if_neg (fun h => h3 h.2), if_pos ⟨h1, h5⟩]
   ·rw [if_neg h5, if_neg (fun h => h3 h.2), if_neg (fun h => h5 h.2)]
def xAt (t : ApiTable) (j : Nat) : ApiIndex := (t.Indexes[j]?).getD default
def bAt (b : List FanBuilt) (j : Nat) : FanBuilt := (b[j]?).getD default
def keyJ (t : ApiTable) : Nat → List ApiValue → List UInt8
 | 0, l => primS t l
 | j + 1, l => (entS t (xAt t j) l).Key
def valJ (t : ApiTable) : Nat → List ApiValue → List UInt8
 | 0, l => rowS l
 | j + 1, l => (entS t (xAt t j) l).Val
def kpJ (t : ApiTable) (b : List FanBuilt) : Nat → List ApiValue → Bool
 | 0, _ => true
 | j + 1, l => keepS (xAt t j) (bAt b j) (primS t l)
def TS (t : ApiTable) (b : List FanBuilt) (rows : List (List ApiValue)) : List (List ApiEntry) := (List.range (t.Indexes.length + 1)).map fun j => SJ (keyJ t j) (valJ t j) (kpJ t b j) rows
theorem TS_len (t : ApiTable) (b : List FanBuilt) (rows : List (List ApiValue)) : (TS t b rows).length = t.Indexes.length + 1 := by simp [TS]
theorem TS_get (t : ApiTable) (b : List FanBuilt) (rows : List (List ApiValue)) (j : Nat) (h : j < t.Indexes.length + 1) : (TS t b rows)[j]'(by rw [TS_len]; exact h) = SJ (keyJ t j) (valJ t j) (kpJ t b j) rows := by simp [TS]
theorem TS_TR (t : ApiTable) (b : List FanBuilt) (rows : List (List ApiValue)) : TR rows.length (TS t b rows) := by
 intro x hx
 obtain ⟨j, _, rfl⟩ := List.mem_map.1 hx
 exact SJ_ok _ _ _ rows
theorem xAt_mem {t : ApiTable} {j : Nat} (h : j < t.Indexes.length) : xAt t j = t.Indexes[j] := by unfold xAt; rw [List.getElem?_eq_getElem h]; rfl
theorem keyJ_inj {t : ApiTable} (r : Right t) {j : Nat} (hj : j < t.Indexes.length + 1) {l m : List ApiValue} (hl : Fit t.Cols l) (hm : Fit t.Cols m) (h : keyJ t j l = keyJ t j m) : primS t l = primS t m := by
 cases j with
 | zero => exact h
 | succ j =>
  have hj' : j < t.Indexes.length := by omega
  have rx : RightX t (xAt t j) := by rw [xAt_mem hj']; exact RightX.of (r.idx _ (List.getElem_mem hj'))
  exact entKey_inj rx hl hm h
def zipO (t : ApiTable) (old now : List ApiValue) (p : List UInt8) : Nat → List (ApiIndex × FanBuilt) → List OpT
 | _, [] => []
 | i, q :: r => (if keepS q.1 q.2 p = true then (dX t q.1 old now).map (fun o => ((i + 1, o) : OpT)) else []) ++ zipO t old now p (i + 1) r
theorem step_zip (t : ApiTable) (old now : List ApiValue) (p : List UInt8) : ∀ (l : List (ApiIndex × FanBuilt)) (i : Nat) (w : Wk3), (∀ k (h : k < l.length), (l[k]).1.Tree = 100 + ((i + 1 + k : Nat) : Int)) → (l.foldl (stepS t old now p) w).1 = w.1 ++ (zipO t old now p i l).map opT
 | [], i, w, _ => by simp [zipO]
 | q :: r, i, w, h => by
  have h0 := h 0 (by simp)
  have ih := step_zip t old now p r (i + 1) (stepS t old now p w q) (fun k hk => by have := h (k + 1) (by simpa using hk); simp only [List.getElem_cons_succ] at this; rw [this]; congr 2; omega)
  rw [List.foldl_cons, ih, zipO, List.map_append, ← List.append_assoc]
  congr 1
  unfold stepS
  split
  ·show w.1 ++ (idxOps t q.1 old now).1 = _
   rw [idxOps_dX t q.1 old now (i + 1) (by simpa using h0)]
  ·simp
theorem zipO_lt (t : ApiTable) (old now : List ApiValue) (p : List UInt8) : ∀ (l : List (ApiIndex × FanBuilt)) (i : Nat), ∀ o ∈ zipO t old now p i l, o.1 < i + 1 + l.length
 | [], i, o, h => by cases h
 | q :: r, i, o, h => by
  rcases List.mem_append.1 h with h | h
  ·split at h
   ·obtain ⟨x, _, rfl⟩ := List.mem_map.1 h
    simp
   ·cases h
  ·have := zipO_lt t old now p r (i + 1) o h
   simp only [List.length_cons]; omega
theorem dX_len (t : ApiTable) (x : ApiIndex) (old now : List ApiValue) : (dX t x old now).length ≤ 2 := by
 unfold dX
 repeat' split
 all_goals simp
theorem zipO_len (t : ApiTable) (old now : List ApiValue) (p : List UInt8) : ∀ (l : List (ApiIndex × FanBuilt)) (i : Nat), (zipO t old now p i l).length ≤ 2 * l.length
 | [], i => by simp [zipO]
 | q :: r, i => by
  have ih := zipO_len t old now p r (i + 1)
  have := dX_len t q.1 old now
  simp only [zipO, List.length_append, List.length_cons]
  split
  ·rw [List.length_map]; omega
  ·simp; omega
theorem runS_app (a b : List OpT) (ts : List (List ApiEntry)) : runS (a ++ b) ts = runS b (runS a ts) := by unfold runS; rw [List.foldl_append]
theorem runS_one (j : Nat) (os : List OpK) : ∀ ts : List (List ApiEntry), runS (os.map fun o => ((j, o) : OpT)) ts = ts.modify j (applyK os) := by
 induction os with
 | nil =>
  intro ts
  show ts = ts.modify j (fun t => t)
  apply List.ext_getElem
  ·simp
  ·intro i h1 h2; rw [List.getElem_modify]; split <;> rfl
 | cons o os ih =>
  intro ts
  show runS (os.map fun o => ((j, o) : OpT)) (ts.modify j (injS o.1 o.2)) = _
  rw [ih]
  apply List.ext_getElem
  ·simp
  ·intro i h1 h2
   rw [List.getElem_modify, List.getElem_modify, List.getElem_modify]
   split <;> rfl
def effO (t : ApiTable) (old now : List ApiValue) (p : List UInt8) (q : ApiIndex × FanBuilt) (M : List ApiEntry) : List ApiEntry := if keepS q.1 q.2 p = true then applyK (dX t q.1 old now) M else M
theorem run_zip (t : ApiTable) (old now : List ApiValue) (p : List UInt8) : ∀ (l : List (ApiIndex × FanBuilt)) (i : Nat) (ts : List (List ApiEntry)) (j : Nat) (hj : j < ts.length),
  (runS (zipO t old now p i l) ts)[j]'(by rw [runS_len]; exact hj) = if h : i + 1 ≤ j ∧ j - (i + 1) < l.length then effO t old now p (l[j - (i + 1)]'h.2) ts[j] else ts[j]
 | [], i, ts, j, hj => by rw [dif_neg (by simp)]; rfl
 | q :: r, i, ts, j, hj => by
  have e1 : ∀ ts' : List (List ApiEntry), runS (zipO t old now p i (q :: r)) ts' = runS (zipO t old now p (i + 1) r) (ts'.modify (i + 1) (effO t old now p q)) := by
   intro ts'
   rw [zipO, runS_app]
   congr 1
   by_cases hk : keepS q.1 q.2 p = true
   ·rw [if_pos hk, runS_one]
    congr 1
    funext M; unfold effO; rw [if_pos hk]
   ·rw [if_neg hk]
    show ts' = _
    apply List.ext_getElem
    ·simp
    ·intro a h1 h2
     rw [List.getElem_modify]
     split
     ·unfold effO; rw [if_neg hk]
     ·rfl
  have ih := run_zip t old now p r (i + 1) (ts.modify (i + 1) (effO t old now p q)) j (by simpa using hj)
  have e2 : (runS (zipO t old now p i (q :: r)) ts)[j]'(by rw [runS_len]; exact hj) = (runS (zipO t old now p (i + 1) r) (ts.modify (i + 1) (effO t old now p q)))[j]'(by rw [runS_len]; simpa using hj) := by
   congr 1
   exact e1 ts
  rw [e2, ih]
  by_cases hji : i + 1 = j
  ·subst hji
   rw [dif_neg (by omega), dif_pos (by simp), List.getElem_modify, if_pos rfl]
   simp
  ·by_cases h2 : i + 1 + 1 ≤ j ∧ j - (i + 1 + 1) < r.length
   ·rw [dif_pos h2, dif_pos ⟨by omega, by simp; omega⟩, List.getElem_modify, if_neg hji]
    have : j - (i + 1) = (j - (i + 1 + 1)) + 1 := by omega
    simp only [this, List.getElem_cons_succ]
   ·rw [dif_neg h2, dif_neg (by simp only [List.length_cons]; omega), List.getElem_modify, if_neg hji]
structure Chg (t : ApiTable) (b : List FanBuilt) (old now : List ApiValue) : Prop where
 len : b.length = t.Indexes.length
 ne : old ≠ [] ∨ now ≠ []
 fo : old ≠ [] → Fit t.Cols old
 fn : now ≠ [] → Fit t.Cols now
 pr : old ≠ [] → now ≠ [] → primS t old = primS t now
theorem chgS_ok {t : ApiTable} {b : List FanBuilt} {old now : List ApiValue} (h : Chg t b old now) : chgS t b old now = if old = now then (0, [], [ownS t.Tree (priO t old now)], []) else (0, restS t b old now (priO t old now)) := by
 unfold chgS
 rw [if_neg (fun q => q.elim (fun q => q h.len) (fun q => h.ne.elim (fun k => k q.1) (fun k => k q.2))), if_neg (fun q => q.2 (h.fo q.1).to), if_neg (fun q => q.2 (h.fn q.1).to), if_neg (fun q => q.2.2 (h.pr q.2.1 q.1))]
structure Num (t : ApiTable) : Prop where
 zero : t.Tree = 100
 idx : ∀ k (h : k < t.Indexes.length), (t.Indexes[k]).Tree = 101 + (k : Int)
theorem chg_trees {t : ApiTable} (r : Right t) (hN : Num t) {b : List FanBuilt} {old now : List ApiValue} (h : Chg t b old now) {rows R rows' : List (List ApiValue)} (fr : ∀ l ∈ rows, Fit t.Cols l) (fr' : ∀ l ∈ rows', Fit t.Cols l)
  (hd : rows.Pairwise fun a b => primS t a ≠ primS t b) (hd' : rows'.Pairwise fun a b => primS t a ≠ primS t b) (hm : ∀ l, l ∈ rows ↔ l ∈ R ∨ (old ≠ [] ∧ l = old)) (hm' : ∀ l, l ∈ rows' ↔ l ∈ R ∨ (now ≠ [] ∧ l = now)) (hR : ∀ l ∈ R, primS t l ≠ priO t old now) :
  ∃ ops : List OpT, (chgS t b old now).2.1 = ops.map opT ∧ (∀ o ∈ ops, o.1 < t.Indexes.length + 1) ∧ ops.length ≤ 13 ∧ runS ops (TS t b rows) = TS t b rows' := by
 have po : old ≠ [] → primS t old = priO t old now := by
  intro k
  unfold priO
  by_cases q : now = []
  ·rw [if_pos q]
  ·rw [if_neg q]; exact h.pr k q
 have pn : now ≠ [] → primS t now = priO t old now := by
  intro k
  unfold priO
  rw [if_neg k]
 have hdJ : ∀ j, j < t.Indexes.length + 1 → ∀ rs : List (List ApiValue), (∀ l ∈ rs, Fit t.Cols l) → (rs.Pairwise fun a b => primS t a ≠ primS t b) → rs.Pairwise fun a b => keyJ t j a ≠ keyJ t j b := by
  intro j hj rs hf hp
  refine List.Pairwise.imp_of_mem (fun {a b} ha hb q q2 => q (keyJ_inj r hj (hf a ha) (hf b hb) q2)) hp
 rw [chgS_ok h]
 by_cases q : old = now
 ·rw [if_pos q]
  refine ⟨[], rfl, fun o ho => (by cases ho), by simp, ?_⟩
  show TS t b rows = _
  refine List.map_congr_left fun j hj => ?_
  have hj' : j < t.Indexes.length + 1 := List.mem_range.1 hj
  exact SJ_same (hdJ j hj' rows fr hd) (hdJ j hj' rows' fr' hd') fun l _ => by rw [hm, hm', q]
 rw [if_neg q]
 have hzl : (t.Indexes.zip b).length = t.Indexes.length := by rw [List.length_zip, h.len, Nat.min_self]
 have ixs := r.ixs
 have hz : ∀ k (hk : k < (t.Indexes.zip b).length), ((t.Indexes.zip b)[k]).1.Tree = 100 + ((0 + 1 + k : Nat) : Int) := by
  intro k hk
  rw [List.getElem_zip]
  have := hN.idx k (by omega)
  rw [this]; omega
 refine ⟨((0, (priO t old now, if now = [] then none else some (rowS now))) : OpT) :: zipO t old now (priO t old now) 0 (t.Indexes.zip b), ?_, fun o ho => ?_, ?_, ?_⟩
 ·show (restS t b old now (priO t old now)).1 = _
  unfold restS
  rw [step_zip t old now _ _ 0 _ hz]
  show rowOp t now (priO t old now) :: _ = opT _ :: _
  congr 1
  unfold rowOp opT opF opS
  rw [hN.zero]
  by_cases k : now = []
  ·rw [if_pos k, if_pos k]; rfl
  ·rw [if_neg k, if_neg k]; rfl
 ·rcases List.mem_cons.1 ho with rfl | ho
  ·simp
  ·have := zipO_lt t old now _ _ 0 o ho
   omega
 ·have := zipO_len t old now (priO t old now) (t.Indexes.zip b) 0
  simp only [List.length_cons]; omega
 ·have e0 : ∀ (o : OpT) (l : List OpT) (ts : List (List ApiEntry)), runS (o :: l) ts = runS l (ts.modify o.1 (injS o.2.1 o.2.2)) := fun o l ts => rfl
  rw [e0]
  apply List.ext_getElem
  ·rw [runS_len, List.length_modify, TS_len, TS_len]
  ·intro j h1 h2
   have hj : j < t.Indexes.length + 1 := by rw [TS_len] at h2; exact h2
   have hJ := hdJ j hj rows fr hd
   have hJ' := hdJ j hj rows' fr' hd'
   have hRo : old ≠ [] → ∀ l ∈ R, keyJ t j l ≠ keyJ t j old := fun k l hl q => hR l hl ((keyJ_inj r hj (fr l ((hm l).2 (.inl hl))) (h.fo k) q).trans (po k))
   have hRn : now ≠ [] → ∀ l ∈ R, keyJ t j l ≠ keyJ t j now := fun k l hl q => hR l hl ((keyJ_inj r hj (fr l ((hm l).2 (.inl hl))) (h.fn k) q).trans (pn k))
   rw [run_zip t old now _ (t.Indexes.zip b) 0 _ j (by rw [List.length_modify, TS_len]; exact hj), TS_get t b rows' j hj]
   cases j with
   | zero =>
    rw [dif_neg (by omega), List.getElem_modify, if_pos rfl, TS_get t b rows 0 hj]
    refine SJ_change hJ hJ' hm hm' hRo hRn (fun _ => rfl) (inj_EL _ _ (SJ_ok _ _ _ rows).1) fun k => ?_
    rw [lkE_inj _ _ _ (SJ_ok _ _ _ rows).1]
    simp only
    by_cases k1 : now = []
    ·have k2 : old ≠ [] := h.ne.resolve_right (fun z => z k1)
     have e : keyJ t 0 old = priO t old now := po k2
     rw [if_pos k1, e]
     by_cases k3 : k = priO t old now
     ·rw [if_pos k3, if_neg (fun z => z.1 k1), if_pos ⟨k2, k3⟩]
     ·rw [if_neg k3, if_neg (fun z => z.1 k1), if_neg (fun z => k3 z.2)]
    ·have e : keyJ t 0 now = priO t old now := pn k1
     rw [if_neg k1, e]
     by_cases k3 : k = priO t old now
     ·rw [if_pos k3, if_pos ⟨k1, k3⟩]; rfl
     ·rw [if_neg k3, if_neg (fun z => k3 z.2), if_neg (fun z => k3 (by rw [z.2]; exact po z.1))]
   | succ j =>
    have hj' : j < t.Indexes.length := by omega
    have hbj : j < b.length := by rw [h.len]; exact hj'
    rw [dif_pos ⟨by omega, by rw [hzl]; omega⟩, List.getElem_modify, if_neg (by omega), TS_get t b rows (j + 1) hj]
    have eq : (t.Indexes.zip b)[j + 1 - (0 + 1)]'(by rw [hzl]; omega) = (xAt t j, bAt b j) := by
     simp only [show j + 1 - (0 + 1) = j by omega]
     rw [List.getElem_zip, xAt_mem hj']
     unfold bAt
     rw [List.getElem?_eq_getElem hbj]; rfl
    rw [eq]
    have rx : RightX t (xAt t j) := by rw [xAt_mem hj']; exact RightX.of (r.idx _ (List.getElem_mem hj'))
    unfold effO
    by_cases kk : keepS (xAt t j) (bAt b j) (priO t old now) = true
    ·rw [if_pos kk]
     have kpo : old ≠ [] → kpJ t b (j + 1) old = true := fun z => by show keepS _ _ _ = true; rw [po z]; exact kk
     have kpn : now ≠ [] → kpJ t b (j + 1) now = true := fun z => by show keepS _ _ _ = true; rw [pn z]; exact kk
     refine SJ_change hJ hJ' hm hm' hRo hRn kpn (applyK_ok _ (SJ_ok _ _ _ rows).1) fun k => ?_
     exact dX_lk rx h.ne (SJ_ok _ _ _ rows).1 (fun z => (SJ_lk _ _ _ rows hJ _ _).2 ⟨old, (hm old).2 (.inr ⟨z, rfl⟩), kpo z, rfl, rfl⟩) k
    ·rw [if_neg kk]
     refine SJ_same hJ hJ' fun l hl => ?_
     rw [hm, hm']
     have no : ¬ (old ≠ [] ∧ l = old) := fun z => kk (by rw [← po z.1, ← z.2]; exact hl)
     have nn : ¬ (now ≠ [] ∧ l = now) := fun z => kk (by rw [← pn z.1, ← z.2]; exact hl)
     simp [no, nn]
theorem eqE_rfl (e : ApiEntry) : eqApiEntry e e = true := by cases e; simp [eqApiEntry]
theorem EntriesR (l : List ApiEntry) (h : l.length ≤ 1000) : raw_Entries l l = some true := by
 unfold raw_Entries
 refine bf (by simp) ?_
 refine lpE (w := .inl ()) (lq1 (fun i => (i : Int)) l.length (fun i hi => ?_) ?_ rfl) rfl
 ·show (bif _ then _ else _) = _
  rw [bif_decT (by omega)]
  refine bo (getI_at hi) ?_
  refine bo (getI_at hi) ?_
  refine bf (by rw [eqE_rfl]; rfl) ?_
  rw [w64_succ (by omega)]
 ·show (bif _ then _ else _) = _
  rw [bif_decF (by omega)]
theorem loopD_seq {Y Z : Type} {G : (Y → Option Z) → Y → Option Z} {r : Z} (N : Nat) (I : Nat → Y → Prop) (hstep : ∀ i y ρ, i < N → I i y → (∀ y', I (i + 1) y' → ρ y' = some r) → G ρ y = some r) (hend : ∀ y ρ, I N y → G ρ y = some r)
  (F : Nat) (hF : N + 1 ≤ F) (y : Y) (h0 : I 0 y) : loopD G F y = some r := by
 have key : ∀ d i F y, i + d = N → I i y → d + 1 ≤ F → loopD G F y = some r := by
  intro d
  induction d with
  | zero =>
   intro i F y h1 h2 h3
   obtain ⟨F, rfl⟩ : ∃ F', F = F' + 1 := ⟨F - 1, by omega⟩
   obtain rfl : i = N := by omega
   exact hend y _ h2
  | succ d ih =>
   intro i F y h1 h2 h3
   obtain ⟨F, rfl⟩ : ∃ F', F = F' + 1 := ⟨F - 1, by omega⟩
   exact hstep i y _ (by omega) h2 fun y' hy => ih (i + 1) F y' (by omega) hy (by omega)
 exact key N 0 F y (by omega) h0 hF
def PreI (idx : List ApiIndex) (i : Nat) (y : (List (Nat × List ApiEntry)) × (List Granarylaw19Tree) × Int × (List ApiIndex)) : Prop :=
 ∃ bs : List Nat, bs.Nodup ∧ bs.length = i + 1 ∧ y = (bs.zip (List.replicate (i + 1) []), trL 0 bs, (i : Int), numX idx i)
theorem preI_step {idx : List ApiIndex} {i b : Nat} (hi : i < idx.length) (h6 : idx.length ≤ 6) {bs : List Nat} (hn : bs.Nodup) (hl : bs.length = i + 1) (hb : b ∉ (bs.zip (List.replicate (i + 1) ([] : List ApiEntry))).map Prod.fst) :
  PreI idx (i + 1) (bs.zip (List.replicate (i + 1) []) ++ [(b, [])], trL 0 bs ++ [(⟨w64 ((101 : Int) + (i : Int)), b⟩ : Granarylaw19Tree)], w64 ((i : Int) + 1), (numX idx i).set i { (idx[i]) with Tree := 101 + (i : Int) }) := by
 have hb' : b ∉ bs := by
  intro h
  refine hb ?_
  rw [List.map_fst_zip (by rw [List.length_replicate, hl]; exact Nat.le_refl _)]
  exact h
 refine ⟨bs ++ [b], List.nodup_append.2 ⟨hn, by simp, fun x hx y hy hxy => by simp at hy; subst hy; exact hb' (hxy ▸ hx)⟩, by simp [hl], ?_⟩
 rw [numX_set idx i hi, w64_succ (by omega)]
 have e1 : (bs ++ [b]).zip (List.replicate (i + 1 + 1) ([] : List ApiEntry)) = bs.zip (List.replicate (i + 1) []) ++ [(b, [])] := by
  rw [List.replicate_succ', List.zip_append (by simp [hl])]; rfl
 have e2 : trL 0 (bs ++ [b]) = trL 0 bs ++ [(⟨w64 ((101 : Int) + (i : Int)), b⟩ : Granarylaw19Tree)] := by
  rw [← trL_app 0 bs b, hl, w64_id (by omega) (by omega)]
  congr 3; omega
 rw [e1, e2]
theorem TS_empty (t : ApiTable) (b : List FanBuilt) : TS t b [] = List.replicate (t.Indexes.length + 1) [] := by
 apply List.ext_getElem
 ·simp [TS]
 ·intro j h1 h2
  rw [TS_get t b [] j (by rw [TS_len] at h1; exact h1), List.getElem_replicate]; rfl
theorem numT_num (t : ApiTable) : Num (numT t) := by
 refine ⟨rfl, fun k hk => ?_⟩
 have hk' : k < t.Indexes.length := by simpa [numT, numX_len] using hk
 have := numX_get t.Indexes t.Indexes.length k hk'
 rw [if_pos hk'] at this
 exact congrArg ApiIndex.Tree this
theorem cpsI {Y R : Type} {f : (Y → Option R) → Option R} {k : Y → Option R} {r : Option R} (h : f k = r) : cps f k = r := h
theorem chg_zero {t : ApiTable} {b : List FanBuilt} {old now : List ApiValue} (h0 : (chgS t b old now).1 = 0) : Chg t b old now := by
 unfold chgS at h0
 by_cases q : b.length ≠ t.Indexes.length ∨ (old = [] ∧ now = [])
 ·rw [if_pos q] at h0; cases h0
 rw [if_neg q] at h0
 by_cases q1 : old ≠ [] ∧ fitsS t.Cols old ≠ 0
 ·rw [if_pos q1] at h0; exact absurd h0 q1.2
 rw [if_neg q1] at h0
 by_cases q2 : now ≠ [] ∧ fitsS t.Cols now ≠ 0
 ·rw [if_pos q2] at h0; exact absurd h0 q2.2
 rw [if_neg q2] at h0
 by_cases q3 : now ≠ [] ∧ old ≠ [] ∧ primS t old ≠ primS t now
 ·rw [if_pos q3] at h0; cases h0
 refine ⟨Decidable.byContradiction fun z => q (.inl z), ?_, fun z => Fit.of (Decidable.byContradiction fun w => q1 ⟨z, w⟩), fun z => Fit.of (Decidable.byContradiction fun w => q2 ⟨z, w⟩), fun z1 z2 => Decidable.byContradiction fun w => q3 ⟨z2, z1, w⟩⟩
 by_cases z : old = []
 ·exact .inr fun w => q (.inr ⟨z, w⟩)
 ·exact .inl z
theorem dX_len1 (t : ApiTable) (x : ApiIndex) (now : List ApiValue) : (dX t x [] now).length ≤ 1 := by
 unfold dX
 split
 ·simp
 ·rw [if_neg (by simp)]
  split <;> simp
theorem zipO_len1 (t : ApiTable) (now : List ApiValue) (p : List UInt8) : ∀ (l : List (ApiIndex × FanBuilt)) (i : Nat), (zipO t [] now p i l).length ≤ l.length
 | [], i => by simp [zipO]
 | q :: r, i => by
  have ih := zipO_len1 t now p r (i + 1)
  have := dX_len1 t q.1 now
  simp only [zipO, List.length_append, List.length_cons]
  split
  ·rw [List.length_map]; omega
  ·simp; omega
theorem one_ok {T : ApiTable} (r : Right T) (hN : Num T) {b : List FanBuilt} {bs : List Nat} (hn : bs.Nodup) (hl : bs.length = T.Indexes.length + 1) {old now : List ApiValue} (h : Chg T b old now) {rows rows' : List (List ApiValue)} (hr : rows = if old = [] then [] else [old]) (hr' : rows' = if now = [] then [] else [now]) :
  law19_run (trL 0 bs) (chgS T b old now).2.1 (bs.zip (TS T b rows)) = some (bs.zip (TS T b rows'), true) := by
 have m : ∀ (o : List ApiValue) (rs : List (List ApiValue)), rs = (if o = [] then [] else [o]) → (∀ l, l ∈ rs ↔ l ∈ ([] : List (List ApiValue)) ∨ (o ≠ [] ∧ l = o)) ∧ (rs.Pairwise fun a b => primS T a ≠ primS T b) ∧ rs.length ≤ 1 := by
  intro o rs e
  by_cases q : o = []
  ·rw [if_pos q] at e; subst e; simp [q]
  ·rw [if_neg q] at e; subst e; simp [q]
 obtain ⟨m1, m2, m3⟩ := m old rows hr
 obtain ⟨m1', m2', m3'⟩ := m now rows' hr'
 have ixs := r.ixs
 have f1 : ∀ l ∈ rows, Fit T.Cols l := by
  intro l hl
  rcases (m1 l).1 hl with q | ⟨q1, q⟩
  ·cases q
  ·rw [q]; exact h.fo q1
 have f2 : ∀ l ∈ rows', Fit T.Cols l := by
  intro l hl
  rcases (m1' l).1 hl with q | ⟨q1, q⟩
  ·cases q
  ·rw [q]; exact h.fn q1
 obtain ⟨ops, e1, e2, e3, e4⟩ := chg_trees r hN h (rows := rows) (R := []) (rows' := rows') f1 f2 m2 m2' m1 m1' (fun l hl => (by cases hl))
 rw [e1, run_eq bs ops (TS T b rows) rows.length hn (by rw [TS_len, hl]) (by omega) (by omega) (fun o ho => by rw [hl]; exact e2 o ho) (TS_TR T b rows) (by omega), e4]
theorem FanBack_true (t : ApiTable) (b : List FanBuilt) (old now : List ApiValue) (ht : OkT t) (ho : OkVs old) (hn : OkVs now) : law19_FanBack t b old now = some true := by
 unfold law19_FanBack
 refine bo awake_eq ?_
 refine bf rfl ?_
 refine bo (ref17_Check_eq t ht) ?_
 by_cases hc : chkS t = 0
 rotate_left
 ·exact bt (by simpa using hc) rfl
 refine bf (by simp [hc]) ?_
 have r := Right.of hc
 have l6 := r.ixs
 refine bo (Copy_eq t r) ?_
 refine dem_of fun b0 _ => cpsI ?_
 refine loopD_seq t.Indexes.length (PreI t.Indexes) (fun i y ρ hi hI hρ => ?_) (fun y ρ hI => ?_) 1000 (by omega) _ ⟨[b0], by simp, rfl, by rw [numX_zero]; rfl⟩
 ·obtain ⟨bs, h1, h2, rfl⟩ := hI
  show (bif _ then _ else _) = _
  rw [bif_decT (by rw [numX_len]; omega)]
  have e : (numX t.Indexes i)[i]'(by rw [numX_len]; exact hi) = t.Indexes[i] := by rw [numX_get _ _ _ hi, if_neg (by omega)]
  refine bo (getI_at (by rw [numX_len]; exact hi)) ?_
  refine dem_of fun b1 hb1 => ?_
  refine gt (by rw [trL_len, h2, show room = 140737488355328 from rfl]; simp; omega) ?_
  refine hρ _ ?_
  have := preI_step hi l6 h1 h2 hb1
  rw [e, Int.toNat_natCast]
  rw [w64_id (by omega) (by omega)] at this ⊢
  exact this
 ·obtain ⟨bs, h1, h2, rfl⟩ := hI
  show (bif _ then _ else _) = _
  rw [bif_decF (by rw [numX_len]; omega)]
  have r' := numT_right r
  have hN := numT_num t
  have hcT : OkCs (numT t).Cols := ht.cols
  have hiT : (numT t).Indexes.length = t.Indexes.length := numX_len _ _
  have hlT : bs.length = (numT t).Indexes.length + 1 := by rw [h2, hiT]
  have eT : List.replicate (t.Indexes.length + 1) ([] : List ApiEntry) = TS (numT t) b [] := by
   rw [TS_empty, hiT]
  have vn : OkVs [] := ⟨by simp, fun v hv => (by cases hv)⟩
  rw [eT]
  have q1 := fan_Change_eq (numT t) b [] old hcT r' vn ho
  have q2 := fan_Change_eq (numT t) b old now hcT r' ho hn
  have q3 := fan_Change_eq (numT t) b now old hcT r' hn ho
  have q4 := fan_Change_eq (numT t) b old [] hcT r' ho vn
  refine bo q1 ?_
  refine bo q2 ?_
  refine bo q3 ?_
  refine bo q4 ?_
  refine bo (a := decide ((chgS (numT t) b [] old).1 ≠ 0 ∨ (chgS (numT t) b old now).1 ≠ 0 ∨ (chgS (numT t) b now old).1 ≠ 0 ∨ (chgS (numT t) b old []).1 ≠ 0 ∨ old = [] ∨ now = [])) ?_ ?_
  ·have bx : ∀ x : Int, (x != 0) = decide (x ≠ 0) := fun x => by simp [bne, Bool.beq_eq_decide_eq]
   rw [bx, bx, bx, bx, len_int, len_int]
   by_cases z1 : (chgS (numT t) b [] old).1 ≠ 0
   ·refine gt z1 (congrArg some (decide_eq_true ?_).symm); simp [z1]
   refine gf z1 ?_
   by_cases z2 : (chgS (numT t) b old now).1 ≠ 0
   ·refine gt z2 (congrArg some (decide_eq_true ?_).symm); simp [z2]
   refine gf z2 ?_
   by_cases z3 : (chgS (numT t) b now old).1 ≠ 0
   ·refine gt z3 (congrArg some (decide_eq_true ?_).symm); simp [z3]
   refine gf z3 ?_
   by_cases z4 : (chgS (numT t) b old []).1 ≠ 0
   ·refine gt z4 (congrArg some (decide_eq_true ?_).symm); simp [z4]
   refine gf z4 ?_
   cases old with
   | nil => exact bt rfl (congrArg some (decide_eq_true (by simp)).symm)
   | cons a old =>
    refine bf rfl ?_
    cases now with
    | nil => exact congrArg some (decide_eq_true (by simp)).symm
    | cons c now => exact congrArg some (decide_eq_false (by simp only [not_or, ne_eq]; exact ⟨z1, z2, z3, z4, by simp, by simp⟩)).symm
  by_cases hq : (chgS (numT t) b [] old).1 ≠ 0 ∨ (chgS (numT t) b old now).1 ≠ 0 ∨ (chgS (numT t) b now old).1 ≠ 0 ∨ (chgS (numT t) b old []).1 ≠ 0 ∨ old = [] ∨ now = []
  ·exact bt (decide_eq_true hq) rfl
  refine bf (decide_eq_false hq) ?_
  simp only [not_or, ne_eq, Decidable.not_not] at hq
  obtain ⟨z1, z2, z3, z4, z5, z6⟩ := hq
  have c1 := chg_zero z1
  have c2 := chg_zero z2
  have c3 := chg_zero z3
  have c4 := chg_zero z4
  have o1 := one_ok r' hN h1 hlT c1 (rows := []) (rows' := [old]) rfl (if_neg z5).symm
  have o2 := one_ok r' hN h1 hlT c2 (rows := [old]) (rows' := [now]) (if_neg z5).symm (if_neg z6).symm
  have o3 := one_ok r' hN h1 hlT c3 (rows := [now]) (rows' := [old]) (if_neg z6).symm (if_neg z5).symm
  have o4 := one_ok r' hN h1 hlT c4 (rows := [old]) (rows' := []) (if_neg z5).symm rfl
  have lT := TS_len (numT t) b [old]
  have lE := TS_len (numT t) b []
  have tT := TS_TR (numT t) b [old]
  have hroom : room = 140737488355328 := rfl
  refine bo o1 ?_
  refine bf rfl ?_
  have gk : ∀ k (hk : k < bs.length), getI (trL 0 bs) (k : Int) = some ⟨100 + (k : Int), bs[k]⟩ := fun k hk => by
   rw [getI_at (by rw [trL_len]; exact hk), trL_get 0 bs k hk, Nat.zero_add]
  refine lpA (w := TS (numT t) b [old]) (lq1 (fun i => ((TS (numT t) b [old]).take i, (i : Int))) bs.length (fun i hi => ?_) ?_ rfl) ?_
  ·show (bif _ then _ else _) = _
   rw [bif_decT (by rw [trL_len]; omega)]
   refine bo (gk i hi) ?_
   refine bo (pget_zip h1 (by omega) hi) ?_
   refine gt (by rw [hroom, List.length_take]; simp; omega) ?_
   rw [w64_succ (by omega), List.take_succ_eq_append_getElem (by omega)]
  ·show (bif _ then _ else _) = _
   rw [bif_decF (by rw [trL_len]; omega), List.take_of_length_le (by omega)]
  refine bo (a := (bs.zip (TS (numT t) b [old]), false)) (bo o2 (bf rfl (bo o3 rfl))) ?_
  refine bf rfl ?_
  refine lpE (w := .inl ()) (lq1 (fun i => (i : Int)) bs.length (fun i hi => ?_) ?_ rfl) ?_
  ·show (bif _ then _ else _) = _
   rw [bif_decT (by rw [trL_len]; omega)]
   refine bo (gk i hi) ?_
   refine bo (pget_zip h1 (by omega) hi) ?_
   refine bo (getI_at (by omega)) ?_
   have := (tT _ (List.getElem_mem (show i < (TS (numT t) b [old]).length by omega))).2
   refine bo (EntriesR _ (by simp at this; omega)) ?_
   refine bf rfl ?_
   rw [w64_succ (by omega)]
  ·show (bif _ then _ else _) = _
   rw [bif_decF (by rw [trL_len]; omega)]
  refine bo o4 ?_
  refine bf rfl ?_
  refine lpE (w := .inl ()) (lq1 (fun i => (i : Int)) bs.length (fun i hi => ?_) ?_ rfl) ?_
  ·show (bif _ then _ else _) = _
   rw [bif_decT (by rw [trL_len]; omega)]
   refine bo (gk i hi) ?_
   refine bo (pget_zip h1 (by omega) hi) ?_
   have e : (TS (numT t) b [])[i]'(by omega) = [] := by
    have : ∀ (l : List (List ApiEntry)) (n : Nat) (h : l = List.replicate n []) (i : Nat) (hi : i < l.length), l[i] = [] := by
     intro l n h i hi
     subst h
     exact List.getElem_replicate _
    exact this _ _ (TS_empty _ _) i _
   rw [e]
   refine bf rfl ?_
   rw [w64_succ (by omega)]
  ·show (bif _ then _ else _) = _
   rw [bif_decF (by rw [trL_len]; omega)]
  have inv1 := chg_inv (numT t) b [] old r' vn ho
  have inv2 := chg_inv (numT t) b old now r' ho hn
  have k1 : 0 < (chgS (numT t) b [] old).2.2.1.length := by
   rcases inv1 with ⟨q, _⟩ | ⟨_, q⟩
   ·exact absurd z1 q
   ·exact List.length_pos_iff.2 q.ne
  have k2 : 0 < (chgS (numT t) b old now).2.2.1.length := by
   rcases inv2 with ⟨q, _⟩ | ⟨_, q⟩
   ·exact absurd z2 q
   ·exact List.length_pos_iff.2 q.ne
  have k3 : (chgS (numT t) b [] old).2.1.length ≤ (numT t).Indexes.length + 1 := by
   rw [chgS_ok c1, if_neg (fun q => z5 q.symm)]
   show (restS _ _ _ _ _).1.length ≤ _
   unfold restS
   have hzl : ((numT t).Indexes.zip b).length = (numT t).Indexes.length := by rw [List.length_zip, c1.len, Nat.min_self]
   rw [step_zip (numT t) [] old _ _ 0 _ (fun k hk => by
    rw [List.getElem_zip]
    have := hN.idx k (by omega)
    rw [this]; omega)]
   have := zipO_len1 (numT t) old (priO (numT t) [] old) ((numT t).Indexes.zip b) 0
   rw [List.length_append, List.length_map]
   simp only [List.length_cons, List.length_nil]; omega
  refine bo (a := true) ?_ rfl
  have ew : w64 (((chgS (numT t) b [] old).2.1.length : Int) - ((numX t.Indexes t.Indexes.length).length : Int)) = ((chgS (numT t) b [] old).2.1.length : Int) - ((numX t.Indexes t.Indexes.length).length : Int) := by
   rw [numX_len]
   exact w64_id (by omega) (by omega)
  show (bif decide (((chgS (numT t) b [] old).2.2.1.length : Int) ≥ w64 (((chgS (numT t) b [] old).2.1.length : Int) - ((numX t.Indexes t.Indexes.length).length : Int))) then some (decide (((chgS (numT t) b old now).2.2.1.length : Int) > 0)) else some false) = some true
  rw [ew, numX_len]
  exact gt (by omega) (congrArg some (decide_eq_true (by omega)))
end Lv
namespace Lv
open Go
variable [BaseTab]
omit [BaseTab] in
theorem lenB12 {R k n : Nat} (hR : R ≤ 140737488355328) (hk : 0 < k) (h : n * k ≤ R) : n < 4611686018427387904 := by
 have h1 : n * 1 ≤ n * k := Nat.mul_le_mul_left _ hk
 omega
omit [BaseTab] in
theorem okVs12 {R k : Nat} (hR : R ≤ 140737488355328) (hk : 0 < k) {l : List ApiValue} (h : l.length * k ≤ R ∧ ∀ y ∈ l, okApiValue R y) : OkVs l := by
 refine ⟨lenB12 hR hk h.1, fun c hc => ?_⟩
 have := (h.2 c hc).2.2.1
 omega
omit [BaseTab] in
theorem okT12 {R : Nat} (hR : R ≤ 140737488355328) {t : ApiTable} (h : okApiTable R t) : OkT t := by
 obtain ⟨h1, h2, h3, h4, h5, _⟩ := h
 have q2 := h2.1
 have q3 := h3.1
 have q4 := h4.1
 refine ⟨by omega, ⟨by omega, fun c hc => ?_⟩, by omega, by omega, fun x hx => ?_⟩
 ·obtain ⟨k1, k2, k3, k4, k5, _⟩ := h2.2 c hc
  exact ⟨by omega, by have := k5.2.2.1; omega⟩
 ·obtain ⟨k1, k2, k3, _⟩ := h4.2 x hx
  have q2 := k2.1
  have q3 := k3.1
  exact ⟨by omega, by omega, by omega⟩
end Lv
