/- Part of the proof of a law. -/
import Derived.Test.YtihhhgaaagefgaaDoorXAll
import Derived.Test.YtihhhgaaagefgaaDoorGwPlain
import Derived.Lib.ValidLaws
import Derived.Test.YtihhhgaaagefgaaDoorGwQ
import Derived.Lib.ParseIntBTie
import Derived.Lib.ParseIntBCases
import Derived.KernelRfl
/- Plain laws of layer 07: values that are right. -/
namespace Lv
open Go Go.Proofs
set_option linter.unusedVariables false
set_option linter.unusedSimpArgs false
set_option linter.unusedSectionVars false
set_option maxRecDepth 100000
variable [BaseTab]
def val (v : ApiValue) : Bool :=
 (v.Kind == 0 && (v.N == 0 && v.S == [])) || ((v.Kind == 1 || v.Kind == 2) && v.S == []) || (v.Kind == 3 && (decide (v.N < 2) && v.S == [])) ||
 (v.Kind == 4 && (v.N == 0 && decide (v.S.length ≤ 64))) || (v.Kind == 5 && (v.N == 0 && (decide (v.S.length ≤ 64) && Go.Lib.validD v.S)))
theorem value_Valid_eq (v : ApiValue) (h : v.S.length < 4611686018427387904) : value_Valid v = some (val v) := by
 have e1 : validF v.S = some (Go.Lib.validD v.S) := by unfold validF; rw [if_pos (by omega)]
 have e2 : ((v.S.length : Int) ≤ 64) = (v.S.length ≤ 64) := propext (by omega)
 have e3 : (v.N ≤ 1) = (v.N < 2) := propext (by rw [UInt64.le_iff_toNat_le, UInt64.lt_iff_toNat_lt]; show _ ≤ 1 ↔ _ < 2; omega)
 obtain ⟨K, N, S⟩ := v
 unfold value_Valid val
 simp only [e1, e2, e3, eqApiValue, Bool.and_true] at *
 by_cases k0 : K = 0
 ·subst k0; simp
 by_cases k1 : K = 1
 ·subst k1; simp
 by_cases k2 : K = 2
 ·subst k2; simp
 by_cases k3 : K = 3
 ·subst k3; by_cases hN : N < 2 <;> simp [hN]
 by_cases k4 : K = 4
 ·subst k4; cases hN : (N == 0) <;> simp [hN]
 by_cases k5 : K = 5
 ·subst k5; cases hN : (N == 0) <;> by_cases hS : S.length ≤ 64 <;> simp [hN, hS]
 simp [beq_eq_false_iff_ne.2 k0, beq_eq_false_iff_ne.2 k1, beq_eq_false_iff_ne.2 k2, beq_eq_false_iff_ne.2 k3, beq_eq_false_iff_ne.2 k4, beq_eq_false_iff_ne.2 k5]
def utfB (s : List UInt8) (i n : Int) : Int × Int → Option ((Int × Int) ⊕ (Int ⊕ Bool)) := fun (y1265, y1266) =>
                      bif (decide (y1266 < n)) then
                        Option.bind (getI s (w64 (i + y1266))) fun v1279 =>
                        Option.bind (α := Bool)
                          (bif (decide ((v1279.toNat : Int) < (128 : Int))) then
                            some true
                          else
                            some (decide ((v1279.toNat : Int) ≥ (192 : Int))))
                          fun y1281 =>
                        bif y1281 then
                          some (Sum.inr (Sum.inr false))
                        else
                          some (Sum.inl ((w64 ((w64 ((w64 (y1265 * (64 : Int))) + (v1279.toNat : Int))) - (128 : Int))), (w64 (y1266 + (1 : Int)))))
                      else
                        some (Sum.inr (Sum.inl y1265))
theorem utf_more (s : List UInt8) (i : Nat) (n k c : Int) (b : UInt8) (hk : 0 ≤ k) (hn : k < n) (hn4 : n ≤ 4) (hi : i + k.toNat < s.length) (hs : s.length < 4611686018427387904) (hc : 0 ≤ c ∧ c < 4294967296) (hb : s.getD (i + k.toNat) 0 = b) :
  loop (utfB s i n) (c, k) = if b.toNat / 64 = 2 then loop (utfB s i n) (c * 64 + (b.toNat : Int) - 128, k + 1) else some (.inr false) := by
 have hg : getI s (w64 ((i : Int) + k)) = some b := by
  rw [w64_id (by omega) (by omega)]
  unfold getI
  rw [if_pos (by omega), show ((i : Int) + k).toNat = i + k.toNat by omega, List.getElem?_eq_getElem hi]
  rw [List.getD_eq_getElem?_getD, List.getElem?_eq_getElem hi] at hb
  exact congrArg some hb
 have hlt := b.toNat_lt
 by_cases h : b.toNat / 64 = 2
 ·rw [if_pos h]
  refine loop_step ?_
  show (bif (decide (k < n)) then _ else _) = _
  rw [decide_eq_true hn, cond_true, hg, bind_some', bif_decF (show ¬ ((b.toNat : Int) < 128) by omega), bind_some', bif_decF (show ¬ ((b.toNat : Int) ≥ 192) by omega)]
  rw [w64_id (n := c * 64) (by omega) (by omega), w64_id (n := c * 64 + _) (by omega) (by omega), w64_id (n := c * 64 + _ - _) (by omega) (by omega), w64_id (n := k + 1) (by omega) (by omega)]
 ·rw [if_neg h]
  refine loop_end ?_
  show (bif (decide (k < n)) then _ else _) = _
  rw [decide_eq_true hn, cond_true, hg, bind_some']
  by_cases h2 : b.toNat < 128
  ·rw [bif_decT (show ((b.toNat : Int) < 128) by omega), bind_some', cond_true]
  ·rw [bif_decF (show ¬ ((b.toNat : Int) < 128) by omega), bind_some', bif_decT (show ((b.toNat : Int) ≥ 192) by omega)]
theorem utf_end (s : List UInt8) (i : Nat) (n c : Int) : loop (utfB s i n) (c, n) = some (.inl c) := by
 refine loop_end ?_
 show (bif (decide (n < n)) then _ else _) = _
 rw [bif_decF (show ¬ (n < n) by omega)]
def utfN (l : List UInt8) : Nat :=
 if (Go.Lib.decodeN l.length (l.getD 0 0).toNat (l.getD 1 0).toNat (l.getD 2 0).toNat (l.getD 3 0).toNat).1 = 65533 ∧ (Go.Lib.decodeN l.length (l.getD 0 0).toNat (l.getD 1 0).toNat (l.getD 2 0).toNat (l.getD 3 0).toNat).2 = 1 then 0
 else (Go.Lib.decodeN l.length (l.getD 0 0).toNat (l.getD 1 0).toNat (l.getD 2 0).toNat (l.getD 3 0).toNat).2
theorem validD_utfN (l : List UInt8) (hne : l ≠ []) : Go.Lib.validD l = if utfN l = 0 then false else Go.Lib.validD (l.drop (utfN l)) := by
 have hw := Go.Lib.decodeL_width l
 have hl : 0 < l.length := List.length_pos_iff.2 hne
 rw [Go.Lib.validD_step l hne, Go.Lib.decodeL_N]
 rw [Go.Lib.decodeL_N] at hw
 unfold utfN
 split
 ·simp
 ·rw [if_neg (by omega)]
theorem utfN_1 (l : List UInt8) (h : (l.getD 0 0).toNat < 128) : utfN l = 1 := by
 unfold utfN Go.Lib.decodeN
 rw [if_pos h]
 simp only
 rw [if_neg (by omega)]
theorem utfN_bad (l : List UInt8) (h : (128 ≤ (l.getD 0 0).toNat ∧ (l.getD 0 0).toNat < 194) ∨ 245 ≤ (l.getD 0 0).toNat) : utfN l = 0 := by
 unfold utfN
 have := (l.getD 0 0).toNat_lt
 rw [Go.Lib.decodeN_bad _ _ _ _ _ (by omega)]
 rfl
theorem utfN_2 (l : List UInt8) (h : 194 ≤ (l.getD 0 0).toNat ∧ (l.getD 0 0).toNat < 224) : utfN l = if 1 < l.length ∧ (l.getD 1 0).toNat / 64 = 2 then 2 else 0 := by
 unfold utfN Go.Lib.decodeN
 repeat' split
 all_goals first | rfl | (exfalso; omega) | (simp only at *; omega)
theorem utfN_3 (l : List UInt8) (h : 224 ≤ (l.getD 0 0).toNat ∧ (l.getD 0 0).toNat < 240) : utfN l = if (2 < l.length ∧ (l.getD 1 0).toNat / 64 = 2 ∧ (l.getD 2 0).toNat / 64 = 2) ∧ 2048 ≤ (l.getD 0 0).toNat % 16 * 4096 + (l.getD 1 0).toNat % 64 * 64 + (l.getD 2 0).toNat % 64 ∧ ((l.getD 0 0).toNat % 16 * 4096 + (l.getD 1 0).toNat % 64 * 64 + (l.getD 2 0).toNat % 64 < 55296 ∨ 57344 ≤ (l.getD 0 0).toNat % 16 * 4096 + (l.getD 1 0).toNat % 64 * 64 + (l.getD 2 0).toNat % 64) then 3 else 0 := by
 unfold utfN Go.Lib.decodeN
 repeat' split
 all_goals first | rfl | (exfalso; omega) | (simp only at *; omega)
theorem utfN_4 (l : List UInt8) (h : 240 ≤ (l.getD 0 0).toNat ∧ (l.getD 0 0).toNat < 245) : utfN l = if (3 < l.length ∧ (l.getD 1 0).toNat / 64 = 2 ∧ (l.getD 2 0).toNat / 64 = 2 ∧ (l.getD 3 0).toNat / 64 = 2) ∧ 65536 ≤ (l.getD 0 0).toNat % 8 * 262144 + (l.getD 1 0).toNat % 64 * 4096 + (l.getD 2 0).toNat % 64 * 64 + (l.getD 3 0).toNat % 64 ∧ (l.getD 0 0).toNat % 8 * 262144 + (l.getD 1 0).toNat % 64 * 4096 + (l.getD 2 0).toNat % 64 * 64 + (l.getD 3 0).toNat % 64 ≤ 1114111 then 4 else 0 := by
 unfold utfN Go.Lib.decodeN
 repeat' split
 all_goals first | rfl | (exfalso; omega) | (simp only at *; omega)
theorem decI {p q : Prop} [Decidable p] [Decidable q] (h : p ↔ q) : decide p = decide q := decide_eq_decide.2 h
noncomputable def utfT (p0 : List UInt8) (y1079 y1207 y1208 y1209 : Int) : Option (Int ⊕ (Unit ⊕ Bool)) :=
              bif (decide ((w64 (y1079 + y1207)) > (p0.length : Int))) then
                some (Sum.inr (Sum.inr false))
              else
                bindE (Y := Int) (E := Bool)
                  (Option.bind (α := Int ⊕ Bool) (loop (utfB p0 y1079 y1207) (y1209, (1 : Int)))
                    (Sum.elim (fun e => some (Sum.inl e)) (fun e => some (Sum.inr e))))
                  (fun y1256 =>
                    Option.bind (α := Bool)
                      (bif (decide (y1256 < y1208)) then
                        some true
                      else
                        bif (decide (y1256 > (1114111 : Int))) then
                          some true
                        else
                          bif (decide (y1256 ≥ (55296 : Int))) then
                            some (decide (y1256 < (57344 : Int)))
                          else
                            some false)
                      fun y1289 =>
                    bif y1289 then
                      some (Sum.inr (Sum.inr false))
                    else
                      some (Sum.inl (w64 (y1079 + y1207))))
                  (fun e => some (Sum.inr (Sum.inr e)))
theorem utfT_all {s : List UInt8} {i n : Nat} {m c c' : Int} (hn : n ≤ 4) (hs : s.length < 4611686018427387904) (hi : i + n ≤ s.length) (h : loop (utfB s i n) (c, 1) = some (.inl c')) :
  utfT s i n m c = some (if c' < m ∨ c' > 1114111 ∨ (55296 ≤ c' ∧ c' < 57344) then .inr (.inr false) else .inl ((i + n : Nat) : Int)) := by
 unfold utfT
 rw [w64_id (n := (i : Int) + n) (by omega) (by omega), bif_decF (show ¬ ((i : Int) + n > (s.length : Int)) by omega), h, bind_some', Sum.elim_inl, bindE_l]
 by_cases h1 : c' < m
 ·rw [bif_decT h1, bind_some', cond_true, if_pos (.inl h1)]
 rw [bif_decF h1]
 by_cases h2 : c' > 1114111
 ·rw [bif_decT h2, bind_some', cond_true, if_pos (.inr (.inl h2))]
 rw [bif_decF h2]
 by_cases h3 : c' ≥ 55296
 ·rw [bif_decT h3, bind_some']
  by_cases h4 : c' < 57344
  ·rw [bif_decT h4, if_pos (.inr (.inr ⟨h3, h4⟩))]
  ·rw [bif_decF h4, if_neg (by omega)]; rfl
 ·rw [bif_decF h3, bind_some', cond_false, if_neg (by omega)]; rfl
theorem utfT_no {s : List UInt8} {i n : Nat} {m c : Int} (hn : n ≤ 4) (hs : s.length < 4611686018427387904) (hi : i + n ≤ s.length) (h : loop (utfB s i n) (c, 1) = some (.inr false)) :
  utfT s i n m c = some (.inr (.inr false)) := by
 unfold utfT
 rw [w64_id (n := (i : Int) + n) (by omega) (by omega), bif_decF (show ¬ ((i : Int) + n > (s.length : Int)) by omega), h, bind_some', Sum.elim_inr, bindE_r]
theorem utfT_short {s : List UInt8} {i n : Nat} {m c : Int} (hn : n ≤ 4) (hs : s.length < 4611686018427387904) (hi : i ≤ s.length) (hi : ¬ i + n ≤ s.length) : utfT s i n m c = some (.inr (.inr false)) := by
 unfold utfT
 rw [w64_id (n := (i : Int) + n) (by omega) (by omega), bif_decT (show ((i : Int) + n > (s.length : Int)) by omega)]
theorem ref06_utf8_eq (s : List UInt8) (hs : s.length < 4611686018427387904) : ref06_utf8 s = some (Go.Lib.validD s) := by
 unfold ref06_utf8
 refine Eq.trans (congrArg (fun x => bindE (Y := Unit) (E := Bool) (Option.bind (α := Unit ⊕ Bool) x (Sum.elim (fun e => some (Sum.inl e)) (fun e => some (Sum.inr e)))) (fun _ => some true) (fun e => some e))
  (loop_by (fun y : Int => ∃ i : Nat, y = i ∧ i ≤ s.length) (fun y => s.length - y.toNat) (fun y => if Go.Lib.validD (s.drop y.toNat) = true then .inl () else .inr false) ?_ 0 ⟨0, rfl, by omega⟩)) ?_
 ·rintro y ⟨i, rfl, hi⟩
  rcases Nat.lt_or_ge i s.length with hlt | hge
  rotate_left
  ·right
   have : i = s.length := by omega
   subst this
   simp only [ltI, Nat.lt_irrefl, decide_false, cond_false, Int.toNat_natCast, List.drop_length, Go.Lib.validD_nil, if_true]
  have hne : s.drop i ≠ [] := by intro e; have := congrArg List.length e; simp at this; omega
  have hv := validD_utfN (s.drop i) hne
  have hlen : (s.drop i).length = s.length - i := by simp
  have hd : ∀ k, (s.drop i).getD k 0 = s.getD (i + k) 0 := fun k => Go.Lib.getD_dropU s i k
  have hg : getI s (i : Int) = some (s.getD i 0) := by
   rw [getI_at hlt, List.getD_eq_getElem?_getD, List.getElem?_eq_getElem hlt]; rfl
  have hb := (s.getD i 0).toNat_lt
  -- what a round must show
  suffices hB : ∀ B : Option (Int ⊕ (Unit ⊕ Bool)), B = some (if utfN (s.drop i) = 0 then .inr (.inr false) else .inl ((i + utfN (s.drop i) : Nat) : Int)) → utfN (s.drop i) ≤ s.length - i →
    (∃ y', B = some (.inl y') ∧ (∃ j : Nat, y' = j ∧ j ≤ s.length) ∧ s.length - y'.toNat < s.length - ((i : Int)).toNat ∧ (if Go.Lib.validD (s.drop y'.toNat) = true then Sum.inl () else Sum.inr false) = (if Go.Lib.validD (s.drop ((i : Int)).toNat) = true then Sum.inl () else Sum.inr false)) ∨ B = some (.inr (if Go.Lib.validD (s.drop ((i : Int)).toNat) = true then .inl () else .inr false)) by
   have hle : utfN (s.drop i) ≤ s.length - i := by
    rcases Nat.lt_or_ge (s.getD i 0).toNat 128 with c1 | c1
    ·rw [utfN_1 _ (by rw [hd]; exact c1)]; omega
    rcases Nat.lt_or_ge (s.getD i 0).toNat 194 with c2 | c2
    ·rw [utfN_bad _ (by rw [hd, Nat.add_zero]; omega)]; omega
    rcases Nat.lt_or_ge (s.getD i 0).toNat 224 with c3 | c3
    ·rw [utfN_2 _ (by rw [hd, Nat.add_zero]; omega)]; split <;> omega
    rcases Nat.lt_or_ge (s.getD i 0).toNat 240 with c4 | c4
    ·rw [utfN_3 _ (by rw [hd, Nat.add_zero]; omega)]; split <;> omega
    rcases Nat.lt_or_ge (s.getD i 0).toNat 245 with c5 | c5
    ·rw [utfN_4 _ (by rw [hd, Nat.add_zero]; omega)]; split <;> omega
    ·rw [utfN_bad _ (by rw [hd, Nat.add_zero]; omega)]; omega
   refine hB _ ?_ hle
   rw [ltI, decide_eq_true hlt, cond_true, hg, bind_some']
   have d0 := hd 0
   rw [Nat.add_zero] at d0
   have d1 := hd 1
   have d2 := hd 2
   have d3 := hd 3
   have b1 := (s.getD (i + 1) 0).toNat_lt
   have b2 := (s.getD (i + 2) 0).toNat_lt
   have b3 := (s.getD (i + 3) 0).toNat_lt
   rcases Nat.lt_or_ge (s.getD i 0).toNat 128 with c1 | c1
   ·have hu := utfN_1 (s.drop i) (by rw [d0]; exact c1)
    rw [hu, bif_decT (show ((s.getD i 0).toNat : Int) < 128 by omega), bindE_l]
    refine (utfT_all (n := 1) (by omega) hs (by omega) (utf_end s i 1 _)).trans ?_
    rw [if_neg (by omega), if_neg (by omega)]
   rw [bif_decF (show ¬ (((s.getD i 0).toNat : Int) < 128) by omega)]
   rcases Nat.lt_or_ge (s.getD i 0).toNat 194 with c2 | c2
   ·have hu := utfN_bad (s.drop i) (by rw [d0]; omega)
    rw [hu, bif_decF (show ¬ (((s.getD i 0).toNat : Int) ≥ 194) by omega), bind_some', cond_false, bif_decF (show ¬ (((s.getD i 0).toNat : Int) ≥ 224) by omega), bind_some', cond_false, bif_decF (show ¬ (((s.getD i 0).toNat : Int) ≥ 240) by omega), bind_some', cond_false]
    rfl
   rw [bif_decT (show (((s.getD i 0).toNat : Int) ≥ 194) by omega), bind_some']
   rcases Nat.lt_or_ge (s.getD i 0).toNat 224 with c3 | c3
   ·have hu := utfN_2 (s.drop i) (by rw [d0]; omega)
    rw [d1, hlen] at hu
    rw [bif_decT (show (((s.getD i 0).toNat : Int) < 224) by omega), bindE_l]
    show utfT s i (2 : Nat) 128 _ = _
    by_cases hn : i + 2 ≤ s.length
    ·rw [w64_id (n := ((s.getD i 0).toNat : Int) - 192) (by omega) (by omega)]
     have q := utf_more s i 2 1 (((s.getD i 0).toNat : Int) - 192) (s.getD (i + 1) 0) (by omega) (by omega) (by omega) (by omega) hs (by omega) rfl
     by_cases t1 : (s.getD (i + 1) 0).toNat / 64 = 2
     ·rw [if_pos t1] at q
      refine (utfT_all (n := 2) (by omega) hs (by omega) (q.trans (utf_end s i 2 _))).trans ?_
      rw [hu, if_pos (show 1 < s.length - i ∧ (s.getD (i + 1) 0).toNat / 64 = 2 by omega)]
      split
      ·exfalso; omega
      ·rfl
     ·rw [if_neg t1] at q
      refine (utfT_no (n := 2) (by omega) hs (by omega) q).trans ?_
      rw [show utfN (s.drop i) = 0 by rw [hu]; exact if_neg (by omega)]
      rfl
    ·rw [show utfN (s.drop i) = 0 by rw [hu]; exact if_neg (by omega)]
     exact utfT_short (by omega) hs hi hn
   rw [bif_decF (show ¬ (((s.getD i 0).toNat : Int) < 224) by omega), bif_decT (show (((s.getD i 0).toNat : Int) ≥ 224) by omega), bind_some']
   rcases Nat.lt_or_ge (s.getD i 0).toNat 240 with c4 | c4
   ·have hu := utfN_3 (s.drop i) (by rw [d0]; omega)
    rw [d0, d1, d2, hlen] at hu
    rw [bif_decT (show (((s.getD i 0).toNat : Int) < 240) by omega), bindE_l]
    show utfT s i (3 : Nat) 2048 _ = _
    by_cases hn : i + 3 ≤ s.length
    ·rw [w64_id (n := ((s.getD i 0).toNat : Int) - 224) (by omega) (by omega)]
     have q := utf_more s i 3 1 (((s.getD i 0).toNat : Int) - 224) (s.getD (i + 1) 0) (by omega) (by omega) (by omega) (by omega) hs (by omega) rfl
     by_cases t1 : (s.getD (i + 1) 0).toNat / 64 = 2
     ·rw [if_pos t1] at q
      have q2 := utf_more s i 3 2 ((((s.getD i 0).toNat : Int) - 224) * 64 + ((s.getD (i + 1) 0).toNat : Int) - 128) (s.getD (i + 2) 0) (by omega) (by omega) (by omega) (by omega) hs (by omega) rfl
      by_cases t2 : (s.getD (i + 2) 0).toNat / 64 = 2
      ·rw [if_pos t2] at q2
       refine (utfT_all (n := 3) (by omega) hs (by omega) (q.trans (q2.trans (utf_end s i 3 _)))).trans ?_
       split
       ·rw [show utfN (s.drop i) = 0 by rw [hu]; exact if_neg (by omega)]
        rfl
       ·rw [show utfN (s.drop i) = 3 by rw [hu]; exact if_pos (by omega)]
        rfl
      ·rw [if_neg t2] at q2
       refine (utfT_no (n := 3) (by omega) hs (by omega) (q.trans q2)).trans ?_
       rw [show utfN (s.drop i) = 0 by rw [hu]; exact if_neg (by omega)]
       rfl
     ·rw [if_neg t1] at q
      refine (utfT_no (n := 3) (by omega) hs (by omega) q).trans ?_
      rw [show utfN (s.drop i) = 0 by rw [hu]; exact if_neg (by omega)]
      rfl
    ·rw [show utfN (s.drop i) = 0 by rw [hu]; exact if_neg (by omega)]
     exact utfT_short (by omega) hs hi hn
   rw [bif_decF (show ¬ (((s.getD i 0).toNat : Int) < 240) by omega), bif_decT (show (((s.getD i 0).toNat : Int) ≥ 240) by omega), bind_some']
   rcases Nat.lt_or_ge (s.getD i 0).toNat 245 with c5 | c5
   ·have hu := utfN_4 (s.drop i) (by rw [d0]; omega)
    rw [d0, d1, d2, d3, hlen] at hu
    rw [bif_decT (show (((s.getD i 0).toNat : Int) < 245) by omega), bindE_l]
    show utfT s i (4 : Nat) 65536 _ = _
    by_cases hn : i + 4 ≤ s.length
    ·rw [w64_id (n := ((s.getD i 0).toNat : Int) - 240) (by omega) (by omega)]
     have q := utf_more s i 4 1 (((s.getD i 0).toNat : Int) - 240) (s.getD (i + 1) 0) (by omega) (by omega) (by omega) (by omega) hs (by omega) rfl
     by_cases t1 : (s.getD (i + 1) 0).toNat / 64 = 2
     ·rw [if_pos t1] at q
      have q2 := utf_more s i 4 2 ((((s.getD i 0).toNat : Int) - 240) * 64 + ((s.getD (i + 1) 0).toNat : Int) - 128) (s.getD (i + 2) 0) (by omega) (by omega) (by omega) (by omega) hs (by omega) rfl
      by_cases t2 : (s.getD (i + 2) 0).toNat / 64 = 2
      ·rw [if_pos t2] at q2
       have q3 := utf_more s i 4 3 (((((s.getD i 0).toNat : Int) - 240) * 64 + ((s.getD (i + 1) 0).toNat : Int) - 128) * 64 + ((s.getD (i + 2) 0).toNat : Int) - 128) (s.getD (i + 3) 0) (by omega) (by omega) (by omega) (by omega) hs (by omega) rfl
       by_cases t3 : (s.getD (i + 3) 0).toNat / 64 = 2
       ·rw [if_pos t3] at q3
        refine (utfT_all (n := 4) (by omega) hs (by omega) (q.trans (q2.trans (q3.trans (utf_end s i 4 _))))).trans ?_
        split
        ·rw [show utfN (s.drop i) = 0 by rw [hu]; exact if_neg (by omega)]
         rfl
        ·rw [show utfN (s.drop i) = 4 by rw [hu]; exact if_pos (by omega)]
         rfl
       ·rw [if_neg t3] at q3
        refine (utfT_no (n := 4) (by omega) hs (by omega) (q.trans (q2.trans q3))).trans ?_
        rw [show utfN (s.drop i) = 0 by rw [hu]; exact if_neg (by omega)]
        rfl
      ·rw [if_neg t2] at q2
       refine (utfT_no (n := 4) (by omega) hs (by omega) (q.trans q2)).trans ?_
       rw [show utfN (s.drop i) = 0 by rw [hu]; exact if_neg (by omega)]
       rfl
     ·rw [if_neg t1] at q
      refine (utfT_no (n := 4) (by omega) hs (by omega) q).trans ?_
      rw [show utfN (s.drop i) = 0 by rw [hu]; exact if_neg (by omega)]
      rfl
    ·rw [show utfN (s.drop i) = 0 by rw [hu]; exact if_neg (by omega)]
     exact utfT_short (by omega) hs hi hn
   ·have hu := utfN_bad (s.drop i) (by rw [d0]; omega)
    rw [hu, bif_decF (show ¬ (((s.getD i 0).toNat : Int) < 245) by omega)]
    rfl
  intro B hB hle
  rw [Int.toNat_natCast, hv]
  by_cases h0 : utfN (s.drop i) = 0
  ·right; rw [hB, if_pos h0, if_pos h0]; rfl
  ·left
   rw [if_neg h0] at hB
   refine ⟨_, hB, ⟨_, rfl, by omega⟩, by rw [Int.toNat_natCast]; omega, ?_⟩
   rw [Int.toNat_natCast, if_neg h0, List.drop_drop]
 ·simp only [Int.toNat_zero, List.drop_zero]
  by_cases h : Go.Lib.validD s = true
  ·rw [h]; rfl
  ·rw [if_neg h, Bool.eq_false_iff.2 h]; rfl
theorem ref06_Valid_eq (v : ApiValue) (h : v.S.length < 4611686018427387904) : ref06_Valid v = some (val v) := by
 have e1 := ref06_utf8_eq v.S h
 have e2 : ((v.S.length : Int) ≤ 64) = (v.S.length ≤ 64) := propext (by omega)
 obtain ⟨K, N, S⟩ := v
 unfold ref06_Valid val
 simp only [e1, e2, Bool.and_true] at *
 by_cases k0 : K = 0
 ·subst k0; cases hN : (N == 0) <;> simp [hN]
 by_cases k1 : K = 1
 ·subst k1; simp
 by_cases k2 : K = 2
 ·subst k2; simp
 by_cases k3 : K = 3
 ·subst k3; by_cases hN : N < 2 <;> simp [hN]
 by_cases k4 : K = 4
 ·subst k4; cases hN : (N == 0) <;> simp [hN]
 by_cases k5 : K = 5
 ·subst k5; cases hN : (N == 0) <;> by_cases hS : S.length ≤ 64 <;> simp [hN, hS, e1]
 simp [beq_eq_false_iff_ne.2 k0, beq_eq_false_iff_ne.2 k1, beq_eq_false_iff_ne.2 k2, beq_eq_false_iff_ne.2 k3, beq_eq_false_iff_ne.2 k4, beq_eq_false_iff_ne.2 k5]
end Lv
/- Plain laws of layer 07: keys of values, keys of lists. -/
namespace Lv
open Go Go.Proofs
set_option linter.unusedVariables false
set_option linter.unusedSimpArgs false
set_option linter.unusedSectionVars false
set_option maxRecDepth 100000
variable [BaseTab]
end Lv
/- Plain laws of layer 07: the program's keys and the document's. -/
namespace Lv
open Go Go.Proofs
set_option linter.unusedVariables false
set_option linter.unusedSimpArgs false
set_option linter.unusedSectionVars false
set_option maxRecDepth 100000
variable [BaseTab]
end Lv
/- Plain laws of layer 07: keys of lists. -/
namespace Lv
open Go Go.Proofs
set_option linter.unusedVariables false
set_option linter.unusedSimpArgs false
set_option linter.unusedSectionVars false
set_option maxRecDepth 100000
variable [BaseTab]
end Lv
/- Plain laws of layer 07: the span of what begins with a text. -/
namespace Lv
open Go Go.Proofs
set_option linter.unusedVariables false
set_option linter.unusedSimpArgs false
set_option linter.unusedSectionVars false
set_option maxRecDepth 100000
variable [BaseTab]
end Lv
/- Plain laws: names, columns, what fits them. -/
namespace Lv
open Go Go.Proofs
set_option linter.unusedVariables false
set_option linter.unusedSimpArgs false
set_option linter.unusedSectionVars false
set_option maxRecDepth 100000
variable [BaseTab]
def letter (c : UInt8) : Bool := decide (97 ≤ c) && decide (c ≤ 122)
def nchar (c : UInt8) : Bool := letter c || c == 95 || (decide (48 ≤ c) && decide (c ≤ 57))
def nameS : List UInt8 → Bool
 | [] => false
 | c :: r => decide (r.length < 16) && (letter c && r.all nchar)
theorem nall (l : List UInt8) : (l.any fun c => !nchar c) = !l.all nchar := by induction l <;> simp_all [List.any_cons, List.all_cons]
theorem value_Name_eq (s : List UInt8) (hs : s.length < 4611686018427387904) : value_Name s = some (nameS s) := by
 unfold value_Name
 cases s with
 | nil => rfl
 | cons c r =>
  have hlen : (c :: r).length = r.length + 1 := rfl
  refine bo (a := decide (r.length ≥ 16)) ?_ ?_
  ·rw [show ((c :: r) == ([] : List UInt8)) = false from rfl, cond_false, hlen]; congr 1; exact decI (by omega)
  by_cases h16 : r.length ≥ 16
  ·rw [bif_decT h16]; simp only [nameS]; rw [decide_eq_false (by omega)]; rfl
  rw [bif_decF h16]
  have e1 : nameS (c :: r) = (letter c && r.all nchar) := by simp only [nameS]; rw [decide_eq_true (by omega)]; rfl
  rw [e1]
  refine lpE (w := if (letter c && r.all nchar) = true then .inl () else .inr false) (nmB fun B hB => ?_) ?_
  rotate_left
  ·cases (letter c && r.all nchar) <;> rfl
  have step : ∀ (i : Nat) (x : UInt8), i < (c :: r).length → (c :: r)[i]? = some x → B (i : Int) = some (if (if i = 0 then !letter x else !nchar x) = true then .inr (.inr false) else .inl ((i + 1 : Nat) : Int)) := by
   intro i x hi hx
   rw [hB]
   show (bif _ then _ else _) = _
   rw [bif_decT (by omega), getI_nat, hx, bind_some', show ((i : Int) == 0) = decide (i = 0) by rw [Bool.eq_iff_iff]; simp, w64_succ (by omega)]
   generalize ((i + 1 : Nat) : Int) = k
   by_cases h0 : i = 0
   ·simp only [h0, decide_true, if_true]
    clear hx
    refine bo (a := letter x) ?_ ?_
    ·revert x; exact u8F (by decide +kernel)
    ·cases letter x <;> rfl
   ·simp only [h0, decide_false, if_false]
    clear hx
    refine bo (a := letter x) ?_ (bo (a := !nchar x) ?_ ?_)
    ·revert x; exact u8F (by decide +kernel)
    ·revert x; exact u8F (by decide +kernel)
    ·cases nchar x <;> rfl
  have s0 := step 0 c (by omega) rfl
  rw [show (0 : Int) = ((0 : Nat) : Int) from rfl]
  cases hc : letter c with
  | false => rw [hc] at s0; exact loop_end s0
  | true =>
   rw [hc] at s0
   rw [loop_step (y' := ((0 + 1 : Nat) : Int)) s0]
   refine (lq3 r (fun c => !nchar c) (.inr false) (.inl ()) (fun i => ((i + 1 : Nat) : Int)) (fun i hi => ?_) ?_ rfl).trans ?_
   ·rw [step (i + 1) r[i] (by omega) (by simp [hi])]
    simp
   ·rw [hB]
    show (bif _ then _ else _) = _
    rw [bif_decF (by omega)]
   ·rw [nall]; cases r.all nchar <;> rfl
def fitS (c : ApiColumn) (v : ApiValue) : Int :=
 if val v = false then 8 else if v.Kind = 0 then (if c.Nulls = true then 0 else 8) else if v.Kind ≠ c.Kind then 8 else if (v.Kind = 4 ∨ v.Kind = 5) ∧ (v.S.length : Int) > c.Max then 7 else 0
theorem long_eq (k : Int) : value_long k = some (decide (k = 4 ∨ k = 5)) := by
 unfold value_long
 by_cases h : k = 4
 ·subst h; rfl
 ·rw [show (k == 4) = false by simpa using h]
  simp only [cond_false, bind_some', h, false_or]
  congr 1
theorem value_Fits_eq (c : ApiColumn) (v : ApiValue) (h : v.S.length < 4611686018427387904) : value_Fits c v = some (fitS c v) := by
 unfold value_Fits fitS
 rw [value_Valid_eq v h, bind_some']
 cases hv : val v with
 | false => rfl
 | true =>
  simp only [Bool.not_true, cond_false, Bool.true_eq_false, if_false]
  by_cases h0 : v.Kind = 0
  ·rw [show (v.Kind == 0) = true by simpa using h0, if_pos h0]
   cases c.Nulls <;> rfl
  rw [show (v.Kind == 0) = false by simpa using h0, if_neg h0, cond_false]
  by_cases hk : v.Kind = c.Kind
  rotate_left
  ·rw [show (v.Kind != c.Kind) = true by simpa using hk, if_pos hk]; rfl
  rw [show (v.Kind != c.Kind) = false by simpa using hk, if_neg (by simpa using hk), cond_false, long_eq, bind_some']
  by_cases hl : v.Kind = 4 ∨ v.Kind = 5
  ·rw [bif_decT hl, bind_some']
   by_cases hm : (v.S.length : Int) > c.Max
   ·rw [if_pos ⟨hl, hm⟩, bif_decT hm]
   ·rw [if_neg (fun h => hm h.2), bif_decF hm]
  ·rw [bif_decF hl, bind_some', if_neg (fun h => hl h.1)]; rfl
end Lv
/- Plain laws of layer 06: the order of values. -/
namespace Lv
open Go Go.Proofs
set_option linter.unusedVariables false
set_option linter.unusedSimpArgs false
set_option linter.unusedSectionVars false
set_option maxRecDepth 100000
variable [BaseTab]
def sgI (a b : Int) : Int := if a < b then -1 else if b < a then 1 else 0
theorem Compare_int_eq (a b : Int) : cmp_Compare_int a b = some (sgI a b) := by
 unfold cmp_Compare_int sgI
 rw [show cmp_isNaN_int a = some () from rfl, bind_some', show cmp_isNaN_int b = some () from rfl, bind_some', show (a != a) = false by simp, cond_false, show (b != b) = false by simp, cond_false]
 by_cases h : a < b
 ·rw [bif_decT h, if_pos h]
 ·rw [bif_decF h, if_neg h]
  by_cases k : b < a
  ·rw [bif_decT k, if_pos k]
  ·rw [bif_decF k, if_neg k]
theorem Compare_int64_eq (a b : Int) : cmp_Compare_int64 a b = some (sgI a b) := by
 unfold cmp_Compare_int64 sgI
 rw [show cmp_isNaN_int64 a = some () from rfl, bind_some', show cmp_isNaN_int64 b = some () from rfl, bind_some', show (a != a) = false by simp, cond_false, show (b != b) = false by simp, cond_false]
 by_cases h : a < b
 ·rw [bif_decT h, if_pos h]
 ·rw [bif_decF h, if_neg h]
  by_cases k : b < a
  ·rw [bif_decT k, if_pos k]
  ·rw [bif_decF k, if_neg k]
theorem Compare_u64_eq (a b : UInt64) : cmp_Compare_uint64 a b = some (sgI a.toNat b.toNat) := by
 unfold cmp_Compare_uint64 sgI
 rw [show cmp_isNaN_uint64 a = some () from rfl, bind_some', show cmp_isNaN_uint64 b = some () from rfl, bind_some', show (a != a) = false by simp, cond_false, show (b != b) = false by simp, cond_false]
 by_cases h : a < b
 ·rw [bif_decT h, if_pos (by have := UInt64.lt_iff_toNat_lt.1 h; omega)]
 ·rw [bif_decF h, if_neg (by have : ¬ a.toNat < b.toNat := fun q => h (UInt64.lt_iff_toNat_lt.2 q); omega)]
  by_cases k : b < a
  ·rw [bif_decT k, if_pos (by have := UInt64.lt_iff_toNat_lt.1 k; omega)]
  ·rw [bif_decF k, if_neg (by have : ¬ b.toNat < a.toNat := fun q => k (UInt64.lt_iff_toNat_lt.2 q); omega)]
theorem Or3_eq (a b c : Int) : cmp_Or_int [a, b, c] = some (if a ≠ 0 then a else if b ≠ 0 then b else c) := by
 unfold cmp_Or_int
 refine lpE (lq2 [a, b, c] (fun v => if v ≠ 0 then some (.inr v : Unit ⊕ Int) else none) (.inl ()) (fun i => (i : Int)) (fun i hi => ?_) ?_ rfl) ?_
 ·show (bif _ then _ else _) = _
  rw [bif_decT (by omega), getI_at hi, bind_some', w64_succ (by simp at hi; omega)]
  by_cases q : [a, b, c][i] = 0
  ·rw [show ([a, b, c][i] != 0) = false by simpa using q, cond_false, if_neg (by simpa using q)]
  ·rw [show ([a, b, c][i] != 0) = true by simpa using q, cond_true, if_pos q]
 ·show (bif _ then _ else _) = _
  rw [bif_decF (by omega)]
 ·simp only [List.findSome?]
  by_cases ha : a = 0
  ·by_cases hb : b = 0
   ·by_cases hc : c = 0
    ·simp [ha, hb, hc]
    ·simp [ha, hb, hc]
   ·simp [ha, hb]
  ·simp [ha]
def cmpD (a b : ApiValue) : Int := if sgI a.Kind b.Kind = 0 ∧ a.Kind = 1 then sgI (i64u a.N) (i64u b.N) else sgI a.Kind b.Kind
def cmpV (a b : ApiValue) : Int := if cmpD a b ≠ 0 then cmpD a b else if sgI a.N.toNat b.N.toNat ≠ 0 then sgI a.N.toNat b.N.toNat else Go.Lib.compareBytes a.S b.S
theorem value_Cmp_eq (a b : ApiValue) : value_Cmp_1 a b = some (cmpV a b) := by
 unfold value_Cmp_1 cmpV
 rw [Compare_int_eq, bind_some']
 refine bo (a := cmpD a b) ?_ ?_
 ·unfold cmpD
  refine bo (a := decide (sgI a.Kind b.Kind = 0 ∧ a.Kind = 1)) ?_ ?_
  ·by_cases q : sgI a.Kind b.Kind = 0
   ·rw [show (sgI a.Kind b.Kind == 0) = true by simpa using q, cond_true]; simp [q, Bool.beq_eq_decide_eq]
   ·rw [show (sgI a.Kind b.Kind == 0) = false by simpa using q, cond_false]; simp [q]
  ·by_cases q : sgI a.Kind b.Kind = 0 ∧ a.Kind = 1
   ·rw [decide_eq_true q, cond_true, if_pos q, Compare_int64_eq, bind_some']
   ·rw [decide_eq_false q, cond_false, if_neg q]
 ·rw [Compare_u64_eq, bind_some', show cmpF a.S b.S = some (Go.Lib.compareBytes a.S b.S) from rfl, bind_some', Or3_eq, bind_some']
theorem i64_val (n : UInt64) : i64u n = if n.toNat < 9223372036854775808 then (n.toNat : Int) else (n.toNat : Int) - 18446744073709551616 := by
 unfold i64u
 rw [IntKind.wrap_i64]
 have := n.toNat_lt
 split <;> omega
end Lv
/- Plain laws of layer 06: the order of values, what fits, all of it. -/
namespace Lv
open Go Go.Proofs
set_option linter.unusedVariables false
set_option linter.unusedSimpArgs false
set_option linter.unusedSectionVars false
set_option maxRecDepth 100000
variable [BaseTab]
end Lv
/- Plain laws of layer 06: texts of numbers. -/
namespace Lv
open Go Go.Proofs
set_option linter.unusedVariables false
set_option linter.unusedSimpArgs false
set_option linter.unusedSectionVars false
set_option maxRecDepth 100000
variable [BaseTab]
theorem i64_rng (n : UInt64) : -9223372036854775808 ≤ i64u n ∧ i64u n ≤ 9223372036854775807 := by
 rw [i64_val]
 have := n.toNat_lt
 split <;> omega
theorem text_u (a : UInt64) (h : (Go.Lib.decDigits a.toNat).length ≤ 20) : value_Text ⟨2, a, []⟩ = some (Go.Lib.decDigits a.toNat ++ [117]) := by
 unfold value_Text
 rw [value_Valid_eq _ (by simp), bind_some', show val ⟨2, a, []⟩ = true from rfl, Bool.not_true, cond_false]
 dsimp only
 rw [show ((2 : Int) == 1) = false from rfl, cond_false, show ((2 : Int) == 2) = true from rfl, cond_true]
 unfold fmtU
 rw [if_pos rfl, bind_some', bif_decT (by simp; omega)]
theorem text_i (a : UInt64) : value_Text ⟨1, a, []⟩ = some (Go.Lib.itoa (i64u a)) := by
 unfold value_Text
 rw [value_Valid_eq _ (by simp), bind_some', show val ⟨1, a, []⟩ = true from rfl, Bool.not_true, cond_false]
 dsimp only
 rw [show ((1 : Int) == 1) = true from rfl, cond_true]
 unfold fmtI
 rw [if_pos ⟨rfl, i64_rng a⟩, bind_some']
theorem dec_ne (n : Nat) : 1 ≤ (Go.Lib.decDigits n).length := by
 rw [Go.Lib.decDigits]
 split
 ·simp
 ·simp
theorem dec_short (a : UInt64) : (Go.Lib.decDigits a.toNat).length ≤ 20 := by
 rw [Go.Lib.decDigits_length]
 have h := a.toNat_lt
 by_cases h1 : 1 ≤ a.toNat
 ·have := Go.Lib.numDigits_eq a.toNat h1 h
  split at this <;> omega
 ·have e : a.toNat = 0 := by omega
  rw [← Go.Lib.decDigits_length, e, Go.Lib.decDigits_one (by omega)]
  simp
theorem fold_takeT {α β : Type} (f : β → α → β) (a : β) (l : List α) (i : Nat) (hi : i < l.length) : (l.take (i + 1)).foldl f a = f ((l.take i).foldl f a) l[i] := by
 rw [List.take_succ_eq_append_getElem hi, List.foldl_append]
 rfl
end Lv
/- Plain laws of layer 06: the texts of values, by the program and by the reference. -/
namespace Lv
open Go Go.Proofs
set_option linter.unusedVariables false
set_option linter.unusedSimpArgs false
set_option linter.unusedSectionVars false
set_option maxRecDepth 100000
variable [BaseTab]
abbrev hexd : List UInt8 := [48, 49, 50, 51, 52, 53, 54, 55, 56, 57, 97, 98, 99, 100, 101, 102]
theorem val_cases {v : ApiValue} (h : val v = true) : v = ⟨0, 0, []⟩ ∨ (∃ n, v = ⟨1, n, []⟩) ∨ (∃ n, v = ⟨2, n, []⟩) ∨ v = ⟨3, 0, []⟩ ∨ v = ⟨3, 1, []⟩ ∨ (∃ s, v = ⟨4, 0, s⟩ ∧ s.length ≤ 64) ∨ (∃ s, v = ⟨5, 0, s⟩ ∧ s.length ≤ 64) := by
 obtain ⟨k, n, s⟩ := v
 unfold val at h
 simp only [Bool.or_eq_true, Bool.and_eq_true, beq_iff_eq, decide_eq_true_eq] at h
 rcases h with (((⟨rfl, rfl, rfl⟩ | ⟨rfl | rfl, rfl⟩) | ⟨rfl, hn, rfl⟩) | ⟨rfl, rfl, hs⟩) | ⟨rfl, rfl, hs, _⟩
 ·exact .inl rfl
 ·exact .inr (.inl ⟨n, rfl⟩)
 ·exact .inr (.inr (.inl ⟨n, rfl⟩))
 ·have : n = 0 ∨ n = 1 := by
   rw [UInt64.lt_iff_toNat_lt] at hn
   have e : (2 : UInt64).toNat = 2 := rfl
   rw [e] at hn
   rcases Nat.lt_or_ge n.toNat 1 with q | q
   ·exact .inl (UInt64.toNat_inj.1 (by simp; omega))
   ·exact .inr (UInt64.toNat_inj.1 (by simp; omega))
  rcases this with rfl | rfl
  ·exact .inr (.inr (.inr (.inl rfl)))
  ·exact .inr (.inr (.inr (.inr (.inl rfl))))
 ·exact .inr (.inr (.inr (.inr (.inr (.inl ⟨s, rfl, hs⟩)))))
 ·exact .inr (.inr (.inr (.inr (.inr (.inr ⟨s, rfl, hs⟩)))))
def txt (v : ApiValue) : List UInt8 :=
 if val v = false then [] else if v.Kind = 1 then Go.Lib.itoa (i64u v.N) else if v.Kind = 2 then Go.Lib.decDigits v.N.toNat ++ [117] else if v.Kind = 3 then (if v.N = 1 then [116, 114, 117, 101] else [102, 97, 108, 115, 101])
 else if v.Kind = 4 then 120 :: hexL v.S else if v.Kind = 5 then quoteL v.S else [110, 117, 108, 108]
theorem txt0 : txt ⟨0, 0, []⟩ = [110, 117, 108, 108] := rfl
theorem txt1 (n : UInt64) : txt ⟨1, n, []⟩ = Go.Lib.itoa (i64u n) := rfl
theorem txt2 (n : UInt64) : txt ⟨2, n, []⟩ = Go.Lib.decDigits n.toNat ++ [117] := rfl
theorem txt30 : txt ⟨3, 0, []⟩ = [102, 97, 108, 115, 101] := rfl
theorem txt31 : txt ⟨3, 1, []⟩ = [116, 114, 117, 101] := rfl
theorem txt4 {s : List UInt8} (h : val ⟨4, 0, s⟩ = true) : txt ⟨4, 0, s⟩ = 120 :: hexL s := by unfold txt; rw [if_neg (by rw [h]; simp)]; rfl
theorem txt5 {s : List UInt8} (h : val ⟨5, 0, s⟩ = true) : txt ⟨5, 0, s⟩ = quoteL s := by unfold txt; rw [if_neg (by rw [h]; simp)]; rfl
theorem txt_bad {v : ApiValue} (h : val v = false) : txt v = [] := by unfold txt; rw [if_pos h]
theorem value_Text_eq (v : ApiValue) (h : v.S.length < 4611686018427387904) : value_Text v = some (txt v) := by
 by_cases hv : val v = true
 rotate_left
 ·have hv' : val v = false := by simpa using hv
  unfold value_Text
  rw [value_Valid_eq v h, bind_some', hv', txt_bad hv']
  rfl
 rcases val_cases hv with rfl | ⟨n, rfl⟩ | ⟨n, rfl⟩ | rfl | rfl | ⟨s, rfl, hs⟩ | ⟨s, rfl, hs⟩
 ·unfold value_Text
  rw [value_Valid_eq _ h, bind_some', hv]
  rfl
 ·exact text_i n
 ·exact text_u n (dec_short n)
 ·unfold value_Text
  rw [value_Valid_eq _ h, bind_some', hv]
  rfl
 ·unfold value_Text
  rw [value_Valid_eq _ h, bind_some', hv]
  rfl
 ·unfold value_Text
  rw [value_Valid_eq _ h, bind_some', hv, txt4 hv]
  show Option.bind (hexF s) _ = _
  unfold hexF
  rw [if_pos (by omega), bind_some', bif_decT (by rw [hexL_len]; simp only [List.length_cons, List.length_nil]; omega)]
  rfl
 ·unfold value_Text
  rw [value_Valid_eq _ h, bind_some', hv, txt5 hv]
  show Option.bind (quoteF s) _ = _
  unfold quoteF
  rw [if_pos (by omega), bind_some']
theorem dig_to (d : UInt64) (h : d.toNat < 10) : ((48 : UInt64) + d).toUInt8 = UInt8.ofNat (48 + d.toNat) := by
 have : d.toNat = 0 ∨ d.toNat = 1 ∨ d.toNat = 2 ∨ d.toNat = 3 ∨ d.toNat = 4 ∨ d.toNat = 5 ∨ d.toNat = 6 ∨ d.toNat = 7 ∨ d.toNat = 8 ∨ d.toNat = 9 := by omega
 have e : d = UInt64.ofNat d.toNat := by simp
 rcases this with q | q | q | q | q | q | q | q | q | q <;> (rw [q] at e; subst e; rfl)
theorem ref06_digits_eq : ∀ (n : Nat) (a : UInt64), a.toNat < 10 ^ (n + 1) → ref06_digits (n + 1) a = some (Go.Lib.decDigits a.toNat)
 | n, a, h => by
  have e10 : (10 : UInt64).toNat = 10 := rfl
  unfold ref06_digits
  by_cases k : a.toNat < 10
  ·rw [decide_eq_true (by rw [UInt64.lt_iff_toNat_lt]; exact k), cond_true, dig_to a k, Go.Lib.decDigits_one k]
  ·rw [decide_eq_false (by rw [UInt64.lt_iff_toNat_lt]; exact k), cond_false]
   have hd : (a / 10).toNat = a.toNat / 10 := by rw [UInt64.toNat_div]; rfl
   have hm : (a % 10).toNat = a.toNat % 10 := by rw [UInt64.toNat_mod]; rfl
   cases n with
   | zero => simp at h; omega
   | succ n =>
    rw [ref06_digits_eq n (a / 10) (by rw [hd]; rw [Nat.pow_succ] at h; omega), bind_some', hd]
    have hl := dec_short (a / 10)
    rw [hd] at hl
    rw [bif_decT (by simp only [List.length_cons, List.length_nil]; omega), dig_to _ (by rw [hm]; omega), hm]
    conv => rhs; rw [Go.Lib.decDigits, dif_neg k]
theorem ref06_digits_any (n : Nat) (hn : 19 ≤ n) (a : UInt64) : ref06_digits (n + 1) a = some (Go.Lib.decDigits a.toNat) := by
 refine ref06_digits_eq n a (Nat.lt_of_lt_of_le a.toNat_lt ?_)
 exact Nat.le_trans (by decide : 2 ^ 64 ≤ 10 ^ 20) (Nat.pow_le_pow_right (by decide) (by omega))
theorem ref06_digits_all (a : UInt64) : ref06_digits 1000 a = some (Go.Lib.decDigits a.toNat) := ref06_digits_any 999 (by decide) a
theorem hexd_get (n : Nat) (h : n < 16) : getI hexd (n : Int) = some (hxc n) := by
 have : ∀ k : _root_.Fin 16, getI hexd ((k.val : Nat) : Int) = some (hxc k.val) := by decide
 exact this ⟨n, h⟩
theorem u8_div (c : UInt8) : (c / (16 : UInt8)).toNat = c.toNat / 16 := by rw [UInt8.toNat_div]; rfl
theorem u8_mod (c : UInt8) : (c % (16 : UInt8)).toNat = c.toNat % 16 := by rw [UInt8.toNat_mod]; rfl
theorem hex_at (c : UInt8) : getI hexd ((c / (16 : UInt8)).toNat : Int) = some (hxc (c.toNat / 16)) := by
 rw [u8_div]; exact hexd_get _ (by have := c.toNat_lt; omega)
theorem hex_at2 (c : UInt8) : getI hexd ((c % (16 : UInt8)).toNat : Int) = some (hxc (c.toNat % 16)) := by
 rw [u8_mod]; exact hexd_get _ (by omega)
theorem qch_y {b : UInt8} (h : b.toNat < 33 ∨ 126 < b.toNat ∨ b.toNat = 34 ∨ b.toNat = 92) : qch b = [92, hxc (b.toNat / 16), hxc (b.toNat % 16)] := by unfold qch; rw [if_pos h]
theorem qch_n {b : UInt8} (h : ¬ (b.toNat < 33 ∨ 126 < b.toNat ∨ b.toNat = 34 ∨ b.toNat = 92)) : qch b = [b] := by unfold qch; rw [if_neg h]
theorem ref06_Text_eq (v : ApiValue) (h : v.S.length < 4611686018427387904) : ref06_Text v = some (txt v) := by
 unfold ref06_Text
 rw [ref06_Valid_eq v h, bind_some']
 by_cases hv : val v = true
 rotate_left
 ·have hv' : val v = false := by simpa using hv
  rw [hv', txt_bad hv']
  rfl
 rw [hv, Bool.not_true, cond_false]
 rcases val_cases hv with rfl | ⟨n, rfl⟩ | ⟨n, rfl⟩ | rfl | rfl | ⟨s, rfl, hs⟩ | ⟨s, rfl, hs⟩
 ·rfl
 ·rw [txt1]
  have hz := i64_val n
  have hlt := n.toNat_lt
  refine beE (x := Go.Lib.itoa (i64u n)) ?_ rfl
  show (bif decide (i64u n < 0) then Option.bind (ref06_digits 1000 (0 - n)) _ else Option.bind (ref06_digits 1000 n) _) = _
  by_cases hp : n.toNat < 9223372036854775808
  ·rw [if_pos hp] at hz
   rw [decide_eq_false (by omega), cond_false, ref06_digits_all, bind_some', hz, Go.Lib.itoa_nonneg]
  ·rw [if_neg hp] at hz
   have hn : (0 - n).toNat = 18446744073709551616 - n.toNat := by
    rw [UInt64.toNat_sub]
    have : (0 : UInt64).toNat = 0 := rfl
    omega
   have hi : i64u n = -((0 - n).toNat : Int) := by omega
   have hl := dec_short (0 - n)
   rw [decide_eq_true (by omega), cond_true, ref06_digits_all, bind_some', bif_decT (by simp only [List.length_cons, List.length_nil]; omega), hi, Go.Lib.itoa_neg _ (by omega)]
   rfl
 ·rw [txt2]
  have hl := dec_short n
  refine beE (x := Go.Lib.decDigits n.toNat ++ [117]) ?_ rfl
  show Option.bind (ref06_digits 1000 n) _ = _
  rw [ref06_digits_all, bind_some', bif_decT (by simp only [List.length_cons, List.length_nil]; omega)]
 ·rfl
 ·rfl
 ·rw [txt4 hv]
  refine beE (x := 120 :: hexL s) ?_ rfl
  show Option.bind (α := List UInt8) (Option.bind (loop _ _) (fun e => some e)) _ = _
  refine bo (a := 120 :: hexL s) ?_ rfl
  refine bo (a := 120 :: hexL s) (lq1 (fun i => (120 :: hexL (s.take i), (i : Int))) s.length (fun i hi => ?_) ?_ rfl) rfl
  ·show (bif decide ((i : Int) < (s.length : Int)) then _ else _) = _
   have hl : (hexL (s.take i)).length = 2 * i := by rw [hexL_len]; simp; omega
   rw [bif_decT (by omega), getI_at hi, bind_some', hex_at, bind_some', bind_some', hex_at2, bind_some', bif_decT (by rw [room_val]; simp only [List.length_cons, List.length_nil, hl]; omega), w64_succ (by omega), hexL_take s i hi]
   simp
  ·show (bif decide ((s.length : Int) < (s.length : Int)) then _ else _) = _
   rw [bif_decF (by omega), List.take_length]
 ·rw [txt5 hv]
  refine beY (y := ()) rfl ?_
  refine bo (a := 34 :: (s.map qch).flatten) ?_ ?_
  ·refine bo (a := 34 :: (s.map qch).flatten) (lq1 (fun i => (34 :: ((s.take i).map qch).flatten, (i : Int))) s.length (fun i hi => ?_) ?_ rfl) rfl
   ·show (bif decide ((i : Int) < (s.length : Int)) then _ else _) = _
    have hl := q_len (s.take i)
    have hl2 : (s.take i).length = i := by simp; omega
    rw [bif_decT (by omega), getI_at hi, bind_some', w64_succ (by omega), q_take s i hi]
    refine bo (a := 34 :: (((s.take i).map qch).flatten ++ qch s[i])) ?_ rfl
    refine bo (a := decide (s[i].toNat < 33 ∨ 126 < s[i].toNat ∨ s[i].toNat = 34 ∨ s[i].toNat = 92)) ?_ ?_
    ·have e33 : (33 : UInt8).toNat = 33 := rfl
     have e126 : (126 : UInt8).toNat = 126 := rfl
     have e34 : (34 : UInt8).toNat = 34 := rfl
     have e92 : (92 : UInt8).toNat = 92 := rfl
     by_cases a1 : s[i].toNat < 33
     ·rw [decide_eq_true (by rw [UInt8.lt_iff_toNat_lt]; exact a1), cond_true, decide_eq_true (.inl a1)]
     rw [decide_eq_false (by rw [UInt8.lt_iff_toNat_lt]; exact a1), cond_false]
     by_cases a2 : 126 < s[i].toNat
     ·rw [decide_eq_true (by rw [UInt8.lt_iff_toNat_lt]; exact a2), cond_true, decide_eq_true (.inr (.inl a2))]
     rw [decide_eq_false (by rw [UInt8.lt_iff_toNat_lt]; exact a2), cond_false]
     by_cases a3 : s[i].toNat = 34
     ·rw [show (s[i] == 34) = true by rw [beq_iff_eq, ← UInt8.toNat_inj]; exact a3, cond_true, decide_eq_true (.inr (.inr (.inl a3)))]
     rw [show (s[i] == 34) = false by rw [beq_eq_false_iff_ne, ne_eq, ← UInt8.toNat_inj]; exact a3, cond_false]
     congr 1
     rw [Bool.beq_eq_decide_eq]
     refine decide_eq_decide.2 ?_
     rw [← UInt8.toNat_inj]
     simp only [a1, a2, a3, false_or, e92]
    ·by_cases q : s[i].toNat < 33 ∨ 126 < s[i].toNat ∨ s[i].toNat = 34 ∨ s[i].toNat = 92
     ·rw [bif_decT q, qch_y q, hex_at, bind_some', hex_at2, bind_some', bif_decT (by rw [room_val]; simp only [List.length_cons, List.length_nil]; omega)]
      rfl
     ·rw [bif_decF q, qch_n q, bif_decT (by rw [room_val]; simp only [List.length_cons, List.length_nil]; omega)]
      rfl
   ·show (bif decide ((s.length : Int) < (s.length : Int)) then _ else _) = _
    rw [bif_decF (by omega), List.take_length]
  ·have hl := q_len s
   rw [bif_decT (by rw [room_val]; simp only [List.length_cons, List.length_nil]; omega)]
   rfl
end Lv
/- Plain laws of layer 06: texts read by the program. -/
namespace Lv
open Go Go.Proofs
set_option linter.unusedVariables false
set_option linter.unusedSimpArgs false
set_option linter.unusedSectionVars false
set_option maxRecDepth 100000
variable [BaseTab]
def hbb (x y : Int) : UInt8 := u8i (orI (w64 (x * 2 ^ min ((4 : UInt64).toNat : Int).toNat 64)) y)
def ixh (c : UInt8) : Int := Go.Lib.indexByte hexd c
theorem hb_back : ∀ c : UInt8, 0 ≤ ixh (hxc (c.toNat / 16)) ∧ 0 ≤ ixh (hxc (c.toNat % 16)) ∧ hbb (ixh (hxc (c.toNat / 16))) (ixh (hxc (c.toNat % 16))) = c := u8F (by decide +kernel)
def unhx : List UInt8 → Option (List UInt8)
 | [] => some []
 | [_] => none
 | a :: b :: r => if ixh a < 0 ∨ ixh b < 0 then none else (unhx r).map fun t => hbb (ixh a) (ixh b) :: t
theorem unhx_hexL : ∀ s : List UInt8, unhx (hexL s) = some s
 | [] => rfl
 | c :: s => by
  obtain ⟨h1, h2, h3⟩ := hb_back c
  show unhx (hxc (c.toNat / 16) :: hxc (c.toNat % 16) :: hexL s) = _
  rw [unhx, if_neg (by omega), unhx_hexL s, h3]
  rfl
theorem unhx_odd : ∀ (n : Nat) (s : List UInt8), s.length = 2 * n + 1 → unhx s = none
 | 0, [_], _ => rfl
 | n + 1, a :: b :: r, h => by
  rw [unhx, unhx_odd n r (by simp at h; omega)]
  split <;> rfl
def unhP (s : List UInt8) : List UInt8 × Bool := match unhx s with
 | some t => (t, true)
 | none => ([], false)
theorem tmod2 (n : Nat) : ((Int.tmod (n : Int) 2) != 0) = decide (n % 2 = 1) := by
 rw [show Int.tmod (n : Int) 2 = ((n % 2 : Nat) : Int) from rfl, Bool.eq_iff_iff]
 simp only [bne_iff_ne, ne_eq, decide_eq_true_eq]
 omega
theorem value_unhex_eq (s : List UInt8) (h : s.length ≤ 140737488355328) : value_unhex s = some (unhP s) := by
 unfold value_unhex unhP
 rw [tmod2]
 by_cases ho : s.length % 2 = 1
 ·rw [bif_decT ho, unhx_odd (s.length / 2) s (by omega)]
 rw [bif_decF ho]
 refine lpE (w := match unhx s with | some t => .inl t | none => .inr ([], false)) ?_ (by cases unhx s <;> rfl)
 refine nmB ?_
 intro B hB
 have step : ∀ (acc : List UInt8) (i : Nat) (hi : i + 1 < s.length), acc.length ≤ i → B (acc, (i : Int)) = some (if ixh s[i] < 0 ∨ ixh s[i + 1] < 0 then .inr (.inr ([], false)) else .inl (acc ++ [hbb (ixh s[i]) (ixh s[i + 1])], ((i + 2 : Nat) : Int))) := by
  intro acc i hi ha
  rw [hB]
  show (bif _ then _ else _) = _
  rw [bif_decT (by omega), getI_at (by omega), bind_some']
  unfold idxF
  rw [bind_some', w64_succ (by omega), getI_at hi, bind_some', bind_some']
  refine bo (a := decide (ixh s[i] < 0 ∨ ixh s[i + 1] < 0)) ?_ ?_
  ·show (bif decide (ixh s[i] < 0) then some true else some (decide (ixh s[i + 1] < 0))) = _
   by_cases q : ixh s[i] < 0
   ·rw [bif_decT q, decide_eq_true (.inl q)]
   ·rw [bif_decF q]; congr 1; exact decide_eq_decide.2 (by simp [q])
  ·by_cases q : ixh s[i] < 0 ∨ ixh s[i + 1] < 0
   ·rw [bif_decT q, if_pos q]
   ·rw [bif_decF q, if_neg q, bif_decT (by rw [room_val]; simp only [List.length_cons, List.length_nil]; omega), w64_id (n := (i : Int) + 2) (by omega) (by omega)]
    rfl
 have key : ∀ (k i : Nat) (acc : List UInt8), i + 2 * k = s.length → acc.length ≤ i → loop B (acc, (i : Int)) = some (match unhx (s.drop i) with | some t => .inl (acc ++ t) | none => .inr ([], false)) := by
  intro k
  induction k with
  | zero =>
   intro i acc hi ha
   rw [List.drop_eq_nil_of_le (by omega)]
   refine loop_end ?_
   rw [hB]
   show (bif _ then _ else _) = _
   rw [bif_decF (by omega)]
   simp [unhx]
  | succ k ih =>
   intro i acc hi ha
   rw [List.drop_eq_getElem_cons (by omega), List.drop_eq_getElem_cons (by omega), unhx]
   by_cases q : ixh s[i] < 0 ∨ ixh s[i + 1] < 0
   ·rw [if_pos q]
    refine loop_end ?_
    rw [step acc i (by omega) ha, if_pos q]
   ·rw [if_neg q, loop_step (by rw [step acc i (by omega) ha, if_neg q]), ih (i + 2) _ (by omega) (by simp; omega)]
    cases unhx (s.drop (i + 2)) with
    | none => rfl
    | some t => simp
 have := key (s.length / 2) 0 [] (by omega) (by simp)
 rw [List.drop_zero] at this
 exact this
def unq : List UInt8 → Option (List UInt8)
 | [] => some []
 | [c] => if c = 92 then none else some [c]
 | [c, d] => if c = 92 then none else (unq [d]).map fun t => c :: t
 | c :: a :: b :: r => if c = 92 then (match unhx [a, b] with | some x => (unq r).map fun t => x ++ t | none => none) else (unq (a :: b :: r)).map fun t => c :: t
theorem unq_c {c : UInt8} {r : List UInt8} (h : c ≠ 92) : unq (c :: r) = (unq r).map fun t => c :: t := by
 match r with
 | [] => show (if c = 92 then none else some [c]) = _; rw [if_neg h]; rfl
 | [d] => show (if c = 92 then none else (unq [d]).map fun t => c :: t) = _; rw [if_neg h]
 | a :: b :: r => rw [show unq (c :: a :: b :: r) = (if c = 92 then (match unhx [a, b] with | some x => (unq r).map fun t => x ++ t | none => none) else (unq (a :: b :: r)).map fun t => c :: t) from by rw [unq], if_neg h]
theorem unq_short {r : List UInt8} (h : r.length < 2) : unq (92 :: r) = none := by
 match r, h with
 | [], _ => rw [unq, if_pos rfl]
 | [d], _ => rw [unq, if_pos rfl]
theorem unq_q : ∀ s : List UInt8, unq ((s.map qch).flatten) = some s
 | [] => rfl
 | c :: s => by
  rw [List.map_cons, List.flatten_cons]
  by_cases q : c.toNat < 33 ∨ 126 < c.toNat ∨ c.toNat = 34 ∨ c.toNat = 92
  ·rw [qch_y q]
   show unq (92 :: hxc (c.toNat / 16) :: hxc (c.toNat % 16) :: (s.map qch).flatten) = _
   have := unhx_hexL [c]
   have e : hexL [c] = [hxc (c.toNat / 16), hxc (c.toNat % 16)] := rfl
   rw [e] at this
   rw [unq, if_pos rfl, this, unq_q s]
   rfl
  ·rw [qch_n q]
   show unq (c :: (s.map qch).flatten) = _
   have : c ≠ 92 := by
    rintro rfl
    exact q (.inr (.inr (.inr rfl)))
   rw [unq_c this, unq_q s]
   rfl
def unqP (s : List UInt8) : List UInt8 × Bool := match unq ((s.take (s.length - 1)).drop 1) with
 | some t => (t, true)
 | none => ([], false)
theorem value_unquote_eq (s : List UInt8) (h : s.length ≤ 140737488355328) (h2 : 2 ≤ s.length) : value_unquote s = some (unqP s) := by
  unfold value_unquote unqP
  obtain ⟨m, hm⟩ : ∃ m, s.length = m + 1 := ⟨s.length - 1, by omega⟩
  have hml : (s.length : Int) - 1 = (m : Int) := by omega
  have hmn : s.length - 1 = m := by omega
  rw [hml, hmn, w64_id (by omega) (by omega)]
  refine lpE (w := match unq ((s.take m).drop 1) with | some t => .inl t | none => .inr ([], false)) ?_ (by cases unq ((s.take m).drop 1) <;> rfl)
  refine nmB ?_
  intro B hB
  have stepE : ∀ (acc : List UInt8) (i : Nat), m ≤ i → B (acc, (i : Int)) = some (.inr (.inl acc)) := by
    intro acc i hi
    rw [hB]
    show (bif _ then _ else _) = _
    rw [bif_decF (by omega)]
  have stepC : ∀ (acc : List UInt8) (i : Nat) (hi : i < m), acc.length ≤ i → s[i]'(by omega) ≠ 92 → B (acc, (i : Int)) = some (.inl (acc ++ [s[i]'(by omega)], ((i + 1 : Nat) : Int))) := by
    intro acc i hi ha hc
    rw [hB]
    show (bif _ then _ else _) = _
    rw [bif_decT (by omega)]
    refine beY (y := (acc ++ [s[i]'(by omega)], (i : Int))) ?_ ?_
    · rw [getI_at (by omega), bind_some', show (s[i]'(by omega) != 92) = true by simpa using hc, cond_true, bind_some', bif_decT (by rw [room_val]; simp only [List.length_cons, List.length_nil]; omega)]
    · show some (Sum.inl (_, w64 ((i : Int) + 1))) = _
      rw [w64_succ (by omega)]
  have stepS : ∀ (acc : List UInt8) (i : Nat) (hi : i < m), acc.length ≤ i → s[i]'(by omega) = 92 → m < i + 3 → B (acc, (i : Int)) = some (.inr (.inr ([], false))) := by
    intro acc i hi ha hc h3
    rw [hB]
    show (bif _ then _ else _) = _
    rw [bif_decT (by omega)]
    refine beE (x := ([], false)) ?_ rfl
    rw [getI_at (by omega), bind_some', show (s[i]'(by omega) != 92) = false by simpa using hc, cond_false, w64_id (n := (i : Int) + 3) (by omega) (by omega), bif_decT (by omega)]
  have stepH : ∀ (acc : List UInt8) (i : Nat) (hi : i + 3 ≤ m), acc.length ≤ i → s[i]'(by omega) = 92 → B (acc, (i : Int)) = some (match unhx [s[i + 1]'(by omega), s[i + 2]'(by omega)] with | some x => .inl (acc ++ x, ((i + 3 : Nat) : Int)) | none => .inr (.inr ([], false))) := by
    intro acc i hi ha hc
    rw [hB]
    show (bif _ then _ else _) = _
    rw [bif_decT (by omega)]
    have hsub : subL s ((i + 1 : Nat) : Int) ((i : Int) + 3) = [s[i + 1]'(by omega), s[i + 2]'(by omega)] := by
      unfold subL
      rw [Int.toNat_natCast, show ((i : Int) + 3).toNat - (i + 1) = 2 by omega, List.drop_eq_getElem_cons (by omega), List.drop_eq_getElem_cons (by omega)]
      rfl
    have inner : (Option.bind (getI s (i : Int)) fun v384 =>
            bif (v384 != (92 : UInt8)) then
              Option.bind (getI s (i : Int)) fun v385 =>
              bif decide ((acc.length + [v385].length) * 1 ≤ room) then
              some (Sum.inl ((acc ++ [v385]), (i : Int)))
              else none
            else
              bif (decide ((w64 ((i : Int) + (3 : Int))) > (m : Int))) then
                some (Sum.inr (([] : List UInt8), false))
              else
                bif decide (0 ≤ (w64 ((i : Int) + (1 : Int))) ∧ (w64 ((i : Int) + (1 : Int))) ≤ (w64 ((i : Int) + (3 : Int))) ∧ (w64 ((i : Int) + (3 : Int))) ≤ (s.length : Int)) then
                Option.bind (value_unhex (subL s (w64 ((i : Int) + (1 : Int))) (w64 ((i : Int) + (3 : Int))))) fun (r389, r390) =>
                bif (!r390) then
                  some (Sum.inr (([] : List UInt8), false))
                else
                  bif decide ((acc.length + r389.length) * 1 ≤ room) then
                  some (Sum.inl ((acc ++ r389), (w64 ((i : Int) + (2 : Int)))))
                  else none
                else none) = some (match unhx [s[i + 1]'(by omega), s[i + 2]'(by omega)] with | some x => .inl (acc ++ x, ((i + 2 : Nat) : Int)) | none => .inr ([], false)) := by
      rw [getI_at (by omega), bind_some', show (s[i]'(by omega) != 92) = false by simpa using hc, cond_false, w64_id (n := (i : Int) + 3) (by omega) (by omega), bif_decF (by omega), w64_succ (by omega), bif_decT (by omega), hsub, value_unhex_eq _ (by simp), bind_some']
      unfold unhP
      cases hx : unhx [s[i + 1]'(by omega), s[i + 2]'(by omega)] with
      | none => rfl
      | some x =>
        have hxl : x.length ≤ 1 := by
          rw [unhx] at hx
          split at hx
          · cases hx
          · rw [unhx] at hx
            obtain rfl := Option.some.inj hx
            simp
        show (bif (!true) then _ else bif decide ((acc.length + x.length) * 1 ≤ room) then _ else _) = _
        rw [Bool.not_true, cond_false, bif_decT (by rw [room_val]; omega), w64_id (by omega) (by omega)]
        rfl
    show bindE _ _ _ = _
    cases hx : unhx [s[i + 1]'(by omega), s[i + 2]'(by omega)] with
    | none =>
      rw [hx] at inner
      refine beE (x := ([], false)) inner rfl
    | some x =>
      rw [hx] at inner
      refine beY (y := (acc ++ x, ((i + 2 : Nat) : Int))) inner ?_
      show some (Sum.inl (_, w64 (((i + 2 : Nat) : Int) + 1))) = _
      rw [w64_succ (by omega)]
  have key : ∀ (k i : Nat) (acc : List UInt8), m - i = k → acc.length ≤ i → loop B (acc, (i : Int)) = some (match unq ((s.take m).drop i) with | some t => .inl (acc ++ t) | none => .inr ([], false)) := by
    intro k
    induction k using Nat.strongRecOn with
    | ind k ih =>
      intro i acc hk ha
      by_cases hi : i < m
      rotate_left
      · rw [List.drop_eq_nil_of_le (by simp; omega), loop_end (stepE acc i (by omega))]
        simp [unq]
      have hdi : (s.take m).drop i = s[i]'(by omega) :: (s.take m).drop (i + 1) := by
        rw [List.drop_eq_getElem_cons (by simp; omega)]
        simp
      rw [hdi]
      by_cases hc : s[i]'(by omega) = 92
      rotate_left
      · rw [unq_c hc, loop_step (stepC acc i hi ha hc), ih (m - (i + 1)) (by omega) (i + 1) _ rfl (by simp; omega)]
        cases unq ((s.take m).drop (i + 1)) with
        | none => rfl
        | some t => simp
      · rw [hc]
        by_cases h3 : m < i + 3
        · rw [unq_short (by simp; omega), loop_end (stepS acc i hi ha hc h3)]
        · have hd2 : (s.take m).drop (i + 1) = s[i + 1]'(by omega) :: s[i + 2]'(by omega) :: (s.take m).drop (i + 3) := by
            rw [List.drop_eq_getElem_cons (by simp; omega), List.drop_eq_getElem_cons (by simp; omega)]
            simp
          rw [hd2, unq, if_pos rfl]
          have hs := stepH acc i (by omega) ha hc
          cases hx : unhx [s[i + 1]'(by omega), s[i + 2]'(by omega)] with
          | none =>
            rw [hx] at hs
            rw [loop_end hs]
          | some x =>
            rw [hx] at hs
            have hxl : x.length ≤ 1 := by
              rw [unhx] at hx
              split at hx
              · cases hx
              · rw [unhx] at hx
                obtain rfl := Option.some.inj hx
                simp
            rw [loop_step hs, ih (m - (i + 3)) (by omega) (i + 3) _ rfl (by simp; omega)]
            cases unq ((s.take m).drop (i + 3)) with
            | none => rfl
            | some t => simp
  exact key (m - 1) 1 [] rfl (by simp)
end Lv
/- Plain laws of layer 06: numbers read back; the program's Parse. -/
namespace Lv
open Go Go.Proofs
set_option linter.unusedVariables false
set_option linter.unusedSimpArgs false
set_option linter.unusedSectionVars false
set_option maxRecDepth 100000
variable [BaseTab]
open Go.Lib in
theorem pu_append : ∀ (l : List UInt8) (acc : Nat) (c : UInt8), parseUint10 acc (l ++ [c]) = (match parseUint10 acc l with
 | .ok u => parseUint10 u [c]
 | e => e)
 | [], acc, c => rfl
 | x :: l, acc, c => by
  simp only [List.cons_append, parseUint10]
  split
  ·split
   ·rfl
   ·split
    ·rfl
    ·exact pu_append l _ c
  ·rfl
theorem dchar (d : Nat) (h : d < 10) : (UInt8.ofNat (48 + d)).toNat = 48 + d := by
 rw [UInt8.toNat_ofNat']; omega
open Go.Lib in
theorem pu_dec (n : Nat) (h : n < 18446744073709551616) : parseUint10 0 (decDigits n) = .ok n := by
 induction n using Nat.strongRecOn with
 | ind n ih =>
  by_cases k : n < 10
  ·rw [decDigits_one k]
   simp only [parseUint10, dchar n k]
   rw [if_pos (by omega), if_neg (by omega), if_neg (by omega)]
   congr 1; omega
  ·rw [decDigits, dif_neg k, pu_append, ih (n / 10) (by omega) (by omega)]
   simp only [parseUint10, dchar (n % 10) (by omega)]
   rw [if_pos (by omega), if_neg (by omega), if_neg (by omega)]
   congr 1; omega
theorem dec_all (n : Nat) : ∀ c ∈ Go.Lib.decDigits n, 48 ≤ c.toNat ∧ c.toNat ≤ 57 := by
 induction n using Nat.strongRecOn with
 | ind n ih =>
  intro c hc
  by_cases k : n < 10
  ·rw [Go.Lib.decDigits_one k, List.mem_singleton] at hc
   subst hc
   rw [dchar n k]; omega
  ·rw [Go.Lib.decDigits, dif_neg k, List.mem_append, List.mem_singleton] at hc
   rcases hc with hc | rfl
   ·exact ih (n / 10) (by omega) c hc
   ·rw [dchar _ (by omega)]; omega
theorem pub_dec (n : Nat) (h : n < 18446744073709551616) : Go.Lib.parseUintB 64 (Go.Lib.decDigits n) = .ok n := by
 rw [Go.Lib.parseUintB_64, Go.Lib.parseMag, if_neg (by have := dec_ne n; intro e; rw [e] at this; simp at this), pu_dec n h]
theorem dec_cons (n : Nat) : ∃ c r, Go.Lib.decDigits n = c :: r ∧ 48 ≤ c.toNat ∧ c.toNat ≤ 57 := by
 have h1 := dec_ne n
 have h2 := dec_all n
 cases h : Go.Lib.decDigits n with
 | nil => rw [h] at h1; simp at h1
 | cons c r => rw [h] at h2; exact ⟨c, r, rfl, h2 c (by simp)⟩
theorem pib_itoa (a : UInt64) : Go.Lib.parseIntB 64 (Go.Lib.itoa (i64u a)) = .ok (i64u a) := by
 have hv := i64_val a
 have hlt := a.toNat_lt
 by_cases hp : a.toNat < 9223372036854775808
 ·rw [if_pos hp] at hv
  rw [hv, Go.Lib.itoa_nonneg]
  obtain ⟨c, r, e, h1, h2⟩ := dec_cons a.toNat
  have hq := pub_dec a.toNat (by omega)
  rw [e] at hq
  rw [e, Go.Lib.parseIntB_plain 64 c r (by omega) (by omega), hq]
  simp only [Go.Lib.signlessC]
  rw [if_neg (by omega)]
 ·rw [if_neg hp] at hv
  have hn : (0 - a).toNat = 18446744073709551616 - a.toNat := by
   rw [UInt64.toNat_sub]
   have : (0 : UInt64).toNat = 0 := rfl
   omega
  have hi : i64u a = -((0 - a).toNat : Int) := by omega
  rw [hi, Go.Lib.itoa_neg _ (by omega), Go.Lib.parseIntB_minus, pub_dec _ (by omega)]
  simp only [Go.Lib.signedC]
  rw [if_neg (by omega)]
theorem parU_some (s : List UInt8) (h : s.length ≤ 281474976710656) : ∃ r, parU s 10 64 = some r := by
 unfold parU
 rw [if_pos ⟨rfl, rfl, h⟩]
 rcases ne_cases (Go.Lib.parseUintB 64 s) with ⟨n, hp⟩ | hp | hp
 ·have := Go.Lib.parseUintB_le hp
  rw [hp]
  exact ⟨_, by simp only; rw [if_pos (by omega)]⟩
 ·rw [hp]; exact ⟨_, rfl⟩
 ·rw [hp]; exact ⟨_, rfl⟩
theorem parI_some (s : List UInt8) (h : s.length ≤ 281474976710656) : ∃ r, parI s 10 64 = some r := by
 unfold parI
 rw [if_pos ⟨rfl, rfl, h⟩]
 rcases ne_cases (Go.Lib.parseIntB 64 s) with ⟨n, hp⟩ | hp | hp <;> rw [hp] <;> exact ⟨_, rfl⟩
theorem parU_dec (a : UInt64) : parU (Go.Lib.decDigits a.toNat) 10 64 = some (.inl a) := by
 have := dec_short a
 unfold parU
 rw [if_pos ⟨rfl, rfl, by omega⟩, pub_dec _ a.toNat_lt]
 simp only
 rw [if_pos a.toNat_lt, UInt64.ofNat_toNat]
theorem itoa_short (a : UInt64) : (Go.Lib.itoa (i64u a)).length ≤ 21 := by
 have hv := i64_val a
 have hlt := a.toNat_lt
 by_cases hp : a.toNat < 9223372036854775808
 ·rw [if_pos hp] at hv
  have := dec_short a
  rw [hv, Go.Lib.itoa_nonneg]; omega
 ·rw [if_neg hp] at hv
  have hn : (0 - a).toNat = 18446744073709551616 - a.toNat := by
   rw [UInt64.toNat_sub]
   have : (0 : UInt64).toNat = 0 := rfl
   omega
  have hi : i64u a = -((0 - a).toNat : Int) := by omega
  have := dec_short (0 - a)
  rw [hi, Go.Lib.itoa_neg _ (by omega), List.length_cons]; omega
theorem parI_itoa (a : UInt64) : parI (Go.Lib.itoa (i64u a)) 10 64 = some (.inl (i64u a)) := by
 have := itoa_short a
 unfold parI
 rw [if_pos ⟨rfl, rfl, by omega⟩, pib_itoa]
theorem u64_back (a : UInt64) : u64i (i64u a) = a := by
 have hv := i64_val a
 have hlt := a.toNat_lt
 unfold u64i
 rw [hv]
 apply UInt64.toNat_inj.1
 rw [UInt64.toNat_ofNat']
 split <;> omega
theorem itoa_cons (a : UInt64) : ∃ c r, Go.Lib.itoa (i64u a) = c :: r ∧ (c.toNat = 45 ∨ 48 ≤ c.toNat ∧ c.toNat ≤ 57) ∧ (∀ x ∈ c :: r, x ≠ 117) := by
 have hv := i64_val a
 have hlt := a.toNat_lt
 have nd : ∀ n, ∀ x ∈ Go.Lib.decDigits n, x ≠ 117 := by
  rintro n x hx rfl
  have := dec_all n _ hx
  have e : (117 : UInt8).toNat = 117 := rfl
  omega
 by_cases hp : a.toNat < 9223372036854775808
 ·rw [if_pos hp] at hv
  obtain ⟨c, r, e, h1, h2⟩ := dec_cons a.toNat
  refine ⟨c, r, by rw [hv, Go.Lib.itoa_nonneg, e], .inr ⟨h1, h2⟩, ?_⟩
  rw [← e]; exact nd _
 ·rw [if_neg hp] at hv
  have hn : (0 - a).toNat = 18446744073709551616 - a.toNat := by
   rw [UInt64.toNat_sub]
   have : (0 : UInt64).toNat = 0 := rfl
   omega
  have hi : i64u a = -((0 - a).toNat : Int) := by omega
  refine ⟨45, Go.Lib.decDigits (0 - a).toNat, by rw [hi, Go.Lib.itoa_neg _ (by omega)], .inl rfl, ?_⟩
  intro x hx
  rcases List.mem_cons.1 hx with rfl | hx
  ·decide
  ·exact nd _ x hx
theorem suf_u (s : List UInt8) (h : ∀ x ∈ s, x ≠ 117) : Go.Lib.hasSuffix s [117] = false := by
 unfold Go.Lib.hasSuffix
 rw [Bool.eq_false_iff]
 intro q
 rw [List.isSuffixOf_iff_suffix] at q
 exact h 117 (q.subset (by simp)) rfl
theorem suf_y (s : List UInt8) : Go.Lib.hasSuffix (s ++ [117]) [117] = true := by
 unfold Go.Lib.hasSuffix
 rw [List.isSuffixOf_iff_suffix]
 exact List.suffix_append s [117]
theorem trim_u (s : List UInt8) : Go.Lib.trimSuffix (s ++ [117]) [117] = s := by
 unfold Go.Lib.trimSuffix
 rw [if_pos (suf_y s)]
 simp
theorem pre_x (c : UInt8) (r : List UInt8) : Go.Lib.hasPrefix (c :: r) [120] = (120 == c) := by
 show ((120 == c) && List.isPrefixOf [] r) = _
 cases r <;> simp [List.isPrefixOf]
theorem read_num (c : UInt8) (r : List UInt8) (h : c.toNat = 45 ∨ 48 ≤ c.toNat ∧ c.toNat ≤ 57) (k : Option (Bool × ApiValue))
    (hk : (Option.bind (sufF (c :: r) ([117] : List UInt8)) fun r73 =>
            bif r73 then
              Option.bind (trimF (c :: r) ([117] : List UInt8)) fun r75 =>
              Option.bind (parU r75 (10 : Int) (64 : Int)) fun r77 =>
              (Sum.elim (fun r78 =>
                some (true, (ApiValue.mk (2 : Int) r78 ([] : List UInt8)))) (fun r79 =>
                some (false, (ApiValue.mk (2 : Int) r79 ([] : List UInt8))))) r77
            else
              Option.bind (parI (c :: r) (10 : Int) (64 : Int)) fun r81 =>
              (Sum.elim (fun r82 =>
                some (true, (ApiValue.mk (1 : Int) (u64i r82) ([] : List UInt8)))) (fun r83 =>
                some (false, (ApiValue.mk (1 : Int) (u64i r83) ([] : List UInt8))))) r81) = k) : value_read_1 (c :: r) = k := by
  have ne : ∀ d : UInt8, ¬ (d.toNat = 45 ∨ 48 ≤ d.toNat ∧ d.toNat ≤ 57) → c ≠ d := fun d hd e => hd (e ▸ h)
  have n1 := ne 110 (by decide)
  have n2 := ne 116 (by decide)
  have n3 := ne 102 (by decide)
  have n4 := ne 120 (by decide)
  have n5 := ne 34 (by decide)
  have w : ∀ (d : UInt8) (l : List UInt8), c ≠ d → ((c :: r) == (d :: l)) = false := fun d l q => by
    rw [beq_eq_false_iff_ne]; intro e; exact q (List.cons.inj e).1
  unfold value_read_1
  rw [w _ _ n1, cond_false, w _ _ n2, cond_false, w _ _ n3, cond_false]
  unfold preF
  rw [bind_some', pre_x, show ((120 : UInt8) == c) = false by rw [beq_eq_false_iff_ne]; exact fun e => n4 e.symm, cond_false]
  refine bo (a := false) ?_ ?_
  · by_cases q : (((c :: r).length : Nat) : Int) > 1
    · rw [bif_decT q, getI_zero]
      show (bif (c == 34) then _ else _) = _
      rw [show (c == 34) = false by rw [beq_eq_false_iff_ne]; exact n5, cond_false]
    · rw [bif_decF q]
  · rw [cond_false]; exact hk
theorem read_txt {v : ApiValue} (hv : val v = true) : value_read_1 (txt v) = some (true, v) := by
 rcases val_cases hv with rfl | ⟨n, rfl⟩ | ⟨n, rfl⟩ | rfl | rfl | ⟨s, rfl, hs⟩ | ⟨s, rfl, hs⟩
 ·rw [txt0]; rfl
 ·rw [txt1]
  have hp := parI_itoa n
  have hsh := itoa_short n
  obtain ⟨c, r, e, h1, h2⟩ := itoa_cons n
  rw [e] at hp hsh ⊢
  refine read_num c r h1 _ ?_
  unfold sufF
  rw [if_pos (by omega), bind_some', suf_u _ h2, cond_false, hp, bind_some']
  show some (true, ApiValue.mk 1 (u64i (i64u n)) []) = _
  rw [u64_back]
 ·rw [txt2]
  have hp := parU_dec n
  have hsh := dec_short n
  have hty := trim_u (Go.Lib.decDigits n.toNat)
  have hsy := suf_y (Go.Lib.decDigits n.toNat)
  obtain ⟨c, r, e, h1, h2⟩ := dec_cons n.toNat
  rw [e] at hp hsh hty hsy ⊢
  rw [List.cons_append] at hty hsy ⊢
  have hl : (c :: (r ++ [117])).length ≤ 9223372036854775807 := by simp at hsh ⊢; omega
  refine read_num c (r ++ [117]) (.inr ⟨h1, h2⟩) _ ?_
  unfold sufF trimF
  rw [if_pos hl, bind_some', hsy, cond_true, if_pos hl, bind_some', hty, hp, bind_some']
  rfl
 ·rw [txt30]; rfl
 ·rw [txt31]; rfl
 ·rw [txt4 hv]
  unfold value_read_1
  have w : ∀ (d : UInt8) (l : List UInt8), (120 : UInt8) ≠ d → ((120 :: hexL s) == (d :: l)) = false := fun d l q => by
   rw [beq_eq_false_iff_ne]; intro e; exact q (List.cons.inj e).1
  rw [w _ _ (by decide), cond_false, w _ _ (by decide), cond_false, w _ _ (by decide), cond_false]
  unfold preF
  rw [bind_some', pre_x, BEq.rfl, cond_true, bif_decT (by simp; omega), show (List.drop (1 : Int).toNat (120 :: hexL s)) = hexL s from rfl, value_unhex_eq _ (by rw [hexL_len]; omega), bind_some']
  unfold unhP
  rw [unhx_hexL]
 ·rw [txt5 hv]
  unfold quoteL
  have hq := q_len s
  generalize hm : (s.map qch).flatten = m at hq
  rw [List.cons_append]
  unfold value_read_1
  have w : ∀ (d : UInt8) (l : List UInt8), (34 : UInt8) ≠ d → ((34 :: (m ++ [34])) == (d :: l)) = false := fun d l q => by
   rw [beq_eq_false_iff_ne]; intro e; exact q (List.cons.inj e).1
  rw [w _ _ (by decide), cond_false, w _ _ (by decide), cond_false, w _ _ (by decide), cond_false]
  unfold preF
  rw [bind_some', pre_x, show ((120 : UInt8) == 34) = false by decide, cond_false]
  have hl : (34 :: (m ++ [34])).length = m.length + 2 := by simp
  refine bo (a := true) ?_ ?_
  ·rw [bif_decT (by rw [hl]; omega), getI_zero]
   show (bif ((34 : UInt8) == 34) then Option.bind (getI _ (w64 ((((34 :: (m ++ [34])).length : Nat) : Int) - 1))) _ else some false) = _
   rw [BEq.rfl, cond_true, hl, w64_id (by omega) (by omega), show ((m.length + 2 : Nat) : Int) - 1 = ((m.length + 1 : Nat) : Int) by omega, getI_at (by rw [hl]; omega), bind_some']
   simp
  rw [cond_true, value_unquote_eq _ (by rw [hl]; omega) (by rw [hl]; omega), bind_some']
  unfold unqP
  have hmid : ((34 :: (m ++ [34])).take ((34 :: (m ++ [34])).length - 1)).drop 1 = m := by
   rw [hl]; simp
  rw [hmid, ← hm, unq_q]
theorem read_some (s : List UInt8) (h : s.length ≤ 140737488355328) : ∃ r, value_read_1 s = some r := by
  unfold value_read_1
  cases s == [110, 117, 108, 108] with
  | true => exact ⟨_, rfl⟩
  | false =>
  rw [cond_false]
  cases s == [116, 114, 117, 101] with
  | true => exact ⟨_, rfl⟩
  | false =>
  rw [cond_false]
  cases s == [102, 97, 108, 115, 101] with
  | true => exact ⟨_, rfl⟩
  | false =>
  rw [cond_false]
  unfold preF
  rw [bind_some']
  cases hp : Go.Lib.hasPrefix s [120] with
  | true =>
    have hl : 1 ≤ s.length := by
      cases s with
      | nil => simp [Go.Lib.hasPrefix] at hp
      | cons c r => simp
    rw [cond_true, bif_decT (by omega), value_unhex_eq _ (by simp; omega), bind_some']
    exact ⟨_, rfl⟩
  | false =>
  rw [cond_false]
  have hq : ∃ y, (bif (decide ((s.length : Int) > (1 : Int))) then
              Option.bind (getI s (0 : Int)) fun v67 =>
              bif (v67 == (34 : UInt8)) then
                Option.bind (getI s (w64 ((s.length : Int) - (1 : Int)))) fun v68 =>
                some (v68 == (34 : UInt8))
              else
                some false
            else
              some false) = some y ∧ (y = true → 2 ≤ s.length) := by
    by_cases q : (s.length : Int) > 1
    · rw [bif_decT q, show (0 : Int) = ((0 : Nat) : Int) from rfl, getI_at (by omega), bind_some']
      cases s[0]'(by omega) == 34 with
      | false => exact ⟨false, rfl, fun e => by cases e⟩
      | true =>
        rw [cond_true, w64_id (by omega) (by omega), show (s.length : Int) - 1 = ((s.length - 1 : Nat) : Int) by omega, getI_at (by omega), bind_some']
        exact ⟨_, rfl, fun _ => by omega⟩
    · rw [bif_decF q]; exact ⟨false, rfl, fun e => by cases e⟩
  obtain ⟨y, hy, hy2⟩ := hq
  rw [hy, bind_some']
  cases y with
  | true =>
    rw [cond_true, value_unquote_eq _ h (hy2 rfl), bind_some']
    exact ⟨_, rfl⟩
  | false =>
    rw [cond_false]
    unfold sufF trimF
    rw [if_pos (by omega), bind_some']
    cases Go.Lib.hasSuffix s [117] with
    | true =>
      rw [cond_true, if_pos (by omega), bind_some']
      have ht : (Go.Lib.trimSuffix s [117]).length ≤ 281474976710656 := by
        unfold Go.Lib.trimSuffix
        split
        · simp; omega
        · omega
      obtain ⟨r, hr⟩ := parU_some _ ht
      rw [hr, bind_some']
      cases r <;> exact ⟨_, rfl⟩
    | false =>
      obtain ⟨r, hr⟩ := parI_some s (by omega)
      rw [cond_false, hr, bind_some']
      cases r <;> exact ⟨_, rfl⟩
end Lv
/- Plain laws of layer 06: texts read by the reference; there and back. -/
namespace Lv
open Go Go.Proofs
set_option linter.unusedVariables false
set_option linter.unusedSimpArgs false
set_option linter.unusedSectionVars false
set_option maxRecDepth 100000
variable [BaseTab]
theorem loop_totQ {Y W : Type} {B : Y → Option (Y ⊕ W)} (I : Y → Prop) (Q : W → Prop) (μ : Y → Nat) (h : ∀ y, I y → (∃ y', B y = some (.inl y') ∧ I y' ∧ μ y' < μ y) ∨ ∃ w, B y = some (.inr w) ∧ Q w) : ∀ y, I y → ∃ w, loop B y = some w ∧ Q w := by
 have key : ∀ n y, μ y = n → I y → ∃ w, loop B y = some w ∧ Q w := by
  intro n
  induction n using Nat.strongRecOn with
  | ind n ih =>
   intro y hn hy
   rcases h y hy with ⟨y', h1, h2, h3⟩ | ⟨w, h1, h2⟩
   ·rw [loop_step h1]
    exact ih (μ y') (by omega) y' rfl h2
   ·exact ⟨w, loop_end h1, h2⟩
 exact fun y hy => key _ y rfl hy
def hlf (c : UInt8) : Int := (firstF (fun i x => if x == c then some (i : Int) else none) 0 hexd).getD 16
theorem ref06_half_eq (c : UInt8) : ref06_half c = some (hlf c) := by
 unfold ref06_half
 refine lpE (lq5 hexd (fun i x => if x == c then some (.inr (i : Int)) else none) (.inl ()) (fun i => (i : Int)) (fun i hi => ?_) ?_ rfl) ?_
 ·have hi' : i < 16 := hi
  rw [bif_decT (by omega), getI_at hi, bind_some', w64_succ (by omega)]
  cases hexd[i] == c <;> rfl
 ·rw [show ((hexd.length : Nat) : Int) = 16 from rfl, bif_decF (by omega)]
 ·unfold hlf
  have key : ∀ (l : List UInt8) (i : Nat), Sum.elim (fun _ => some (16 : Int)) (fun e => some e) ((firstF (fun i x => if x == c then some (.inr (i : Int) : Unit ⊕ Int) else none) i l).getD (.inl ())) = some ((firstF (fun i x => if x == c then some (i : Int) else none) i l).getD 16) := by
   intro l
   induction l with
   | nil => intro i; rfl
   | cons x l ih =>
    intro i
    rw [firstF, firstF]
    cases x == c with
    | true => rfl
    | false => exact ih (i + 1)
  exact key hexd 0
theorem hlf_back : ∀ c : UInt8, u8i (w64 ((w64 ((hlf (hxc (c.toNat / 16))) * (16 : Int))) + (hlf (hxc (c.toNat % 16))))) = c := u8F (by decide +kernel)
theorem rd_dec2 (n : Nat) : (Go.Lib.decDigits n).foldl (fun y b => ((y * (10 : UInt64)) + b.toUInt64) - 48) 0 = UInt64.ofNat n := by
 have e10 : (10 : UInt64).toNat = 10 := rfl
 have e48 : (48 : UInt64).toNat = 48 := rfl
 have hc : ∀ d, d < 10 → ((UInt8.ofNat (48 + d)).toUInt64).toNat = 48 + d := fun d hd => by rw [UInt8.toNat_toUInt64, dchar d hd]
 induction n using Nat.strongRecOn with
 | ind n ih =>
  by_cases h : n < 10
  ·rw [Go.Lib.decDigits_one h, List.foldl_cons, List.foldl_nil, ← UInt64.toNat_inj, UInt64.toNat_sub, UInt64.toNat_add, UInt64.toNat_mul, hc n h, UInt64.toNat_ofNat', e48]
   have e0 : (0 : UInt64).toNat = 0 := rfl
   rw [e0, e10]
   omega
  ·rw [Go.Lib.decDigits, dif_neg h, List.foldl_append, ih (n / 10) (by omega), List.foldl_cons, List.foldl_nil]
   rw [← UInt64.toNat_inj, UInt64.toNat_sub, UInt64.toNat_add, UInt64.toNat_mul, hc (n % 10) (by omega), UInt64.toNat_ofNat', UInt64.toNat_ofNat', e48, e10]
   omega
theorem hexL_get (s : List UInt8) (k : Nat) (h : k < s.length) : (hexL s)[2 * k]? = some (hxc (s[k].toNat / 16)) ∧ (hexL s)[2 * k + 1]? = some (hxc (s[k].toNat % 16)) := by
 induction s generalizing k with
 | nil => simp at h
 | cons c s ih =>
  have e : hexL (c :: s) = hxc (c.toNat / 16) :: hxc (c.toNat % 16) :: hexL s := rfl
  rw [e]
  cases k with
  | zero => exact ⟨rfl, rfl⟩
  | succ k =>
   have := ih k (by simpa using h)
   rw [show 2 * (k + 1) = 2 * k + 1 + 1 by omega]
   simpa using this
theorem getI_of {α : Type} {l : List α} {i : Nat} {x : α} (h : l[i]? = some x) : getI l (i : Int) = some x := by
 rw [getI_nat, h]
theorem dig_loop (l d : List UInt8) (a : Nat) (K : Int) (hl : l.drop a = d) (hd : d.length ≤ 20) (ha : a ≤ 1) (hal : a ≤ l.length) {B : Int × ApiValue → Option ((Int × ApiValue) ⊕ ApiValue)}
    (hB : B = fun (y1436, y1437) =>
            Option.bind (α := Bool)
              (bif (decide (y1436 < (l.length : Int))) then
                some (decide (y1436 < (30 : Int)))
              else
                some false)
              fun y1445 =>
            bif y1445 then
              Option.bind (getI l y1436) fun v1447 =>
              some (Sum.inl ((w64 (y1436 + (1 : Int))), (ApiValue.mk y1437.Kind (((y1437.N * (10 : UInt64)) + (v1447.toUInt64)) - (48 : UInt64)) y1437.S)))
            else
              some (Sum.inr y1437)) :
    loop B ((a : Int), ApiValue.mk K 0 []) = some (ApiValue.mk K (d.foldl (fun y b => ((y * (10 : UInt64)) + b.toUInt64) - 48) 0) []) := by
  have hll : l.length = a + d.length := by rw [← hl]; simp; omega
  refine lq1 (fun k => (((a + k : Nat) : Int), ApiValue.mk K ((d.take k).foldl (fun y b => ((y * (10 : UInt64)) + b.toUInt64) - 48) 0) [])) d.length (fun k hk => ?_) ?_ rfl
  · rw [hB]
    have hg : l[a + k]? = some d[k] := by
      rw [← List.getElem?_drop, hl, List.getElem?_eq_getElem hk]
    show Option.bind (bif _ then _ else _) _ = _
    rw [bif_decT (by omega), bind_some', bif_decT (by omega), getI_of hg, bind_some', w64_succ (by omega), fold_takeT _ _ _ _ hk]
    rfl
  · rw [hB]
    show Option.bind (bif _ then _ else _) _ = _
    rw [bif_decF (by omega), bind_some', cond_false, List.take_length]
theorem guess_txt {v : ApiValue} (hv : val v = true) : ref06_guess (txt v) = some v := by
 rcases val_cases hv with rfl | ⟨n, rfl⟩ | ⟨n, rfl⟩ | rfl | rfl | ⟨s, rfl, hs⟩ | ⟨s, rfl, hs⟩
 ·rw [txt0]; rfl
 ·rw [txt1]
  have hv2 := i64_val n
  have hlt := n.toNat_lt
  have hsh := itoa_short n
  obtain ⟨c, r, e, h1, h2⟩ := itoa_cons n
  have ne : ∀ d : UInt8, ¬ (d.toNat = 45 ∨ 48 ≤ d.toNat ∧ d.toNat ≤ 57) → c ≠ d := fun d hd e => hd (e ▸ h1)
  have w : ∀ (d : UInt8) (l : List UInt8), c ≠ d → ((c :: r) == (d :: l)) = false := fun d l q => by
   rw [beq_eq_false_iff_ne]; intro e; exact q (List.cons.inj e).1
  have hlast : ∃ x, getI (c :: r) (w64 ((((c :: r).length : Nat) : Int) - 1)) = some x ∧ x ≠ 117 := by
   have : w64 ((((c :: r).length : Nat) : Int) - 1) = (r.length : Int) := by
    have hl : (c :: r).length = r.length + 1 := by simp
    rw [e, hl] at hsh
    rw [hl, w64_id (by omega) (by omega)]; omega
   rw [this, getI_at (by simp)]
   exact ⟨_, rfl, h2 _ (List.getElem_mem _)⟩
  obtain ⟨x, hx1, hx2⟩ := hlast
  unfold ref06_guess
  rw [e]
  refine beY (y := ()) ?_ ?_
  ·rw [w _ _ (ne 116 (by decide)), cond_false, w _ _ (ne 102 (by decide)), bind_some', cond_false, getI_zero]
   refine bo (a := false) ?_ ?_
   ·rw [bif_decT (by simp <;> omega)]
    show some (c == 120) = _
    rw [show (c == 120) = false by rw [beq_eq_false_iff_ne]; exact ne 120 (by decide)]
   rw [cond_false]
   refine bo (a := false) ?_ ?_
   ·by_cases q : (((c :: r).length : Nat) : Int) > 1
    ·rw [bif_decT q]
     show some (c == 34) = _
     rw [show (c == 34) = false by rw [beq_eq_false_iff_ne]; exact ne 34 (by decide)]
    ·rw [bif_decF q]
   rw [cond_false, w _ _ (ne 110 (by decide)), cond_false]
  by_cases hp : n.toNat < 9223372036854775808
  ·rw [if_pos hp] at hv2
   have hd : c :: r = Go.Lib.decDigits n.toNat := by rw [← e, hv2, Go.Lib.itoa_nonneg]
   have hc45 : (c == 45) = false := by
    have := dec_all n.toNat c (by rw [← hd]; simp)
    rw [beq_eq_false_iff_ne]; rintro rfl
    have e45 : (45 : UInt8).toNat = 45 := rfl
    omega
   refine bo (a := (c :: r, (0 : Int), ApiValue.mk 1 0 [])) ?_ ?_
   ·refine bo (a := false) ?_ ?_
    ·rw [bif_decT (by simp <;> omega), hx1, bind_some', show (x == 117) = false by simpa using hx2]
    rw [cond_false, getI_zero]
    refine bo (a := false) ?_ ?_
    ·rw [bif_decT (by simp <;> omega)]
     show some (c == 45) = _
     rw [hc45]
    rw [cond_false]
   have hl2 := dig_loop (c :: r) (Go.Lib.decDigits n.toNat) 0 1 (by rw [← hd]; rfl) (dec_short n) (by omega) (by omega) rfl
   rw [rd_dec2, UInt64.ofNat_toNat] at hl2
   refine bo (a := ApiValue.mk 1 n []) (bo hl2 rfl) ?_
   rfl
  ·rw [if_neg hp] at hv2
   have hn : (0 - n).toNat = 18446744073709551616 - n.toNat := by
    rw [UInt64.toNat_sub]
    have : (0 : UInt64).toNat = 0 := rfl
    omega
   have hi : i64u n = -((0 - n).toNat : Int) := by omega
   have hd : c :: r = 45 :: Go.Lib.decDigits (0 - n).toNat := by rw [← e, hi, Go.Lib.itoa_neg _ (by omega)]
   obtain ⟨rfl, hr⟩ := List.cons.inj hd
   refine bo (a := (45 :: r, (1 : Int), ApiValue.mk 1 0 [])) ?_ ?_
   ·refine bo (a := false) ?_ ?_
    ·rw [bif_decT (by simp <;> omega), hx1, bind_some', show (x == 117) = false by simpa using hx2]
    rw [cond_false, getI_zero]
    refine bo (a := true) ?_ ?_
    ·rw [bif_decT (by simp <;> omega)]
     rfl
    rw [cond_true]
   have hl2 := dig_loop (45 :: r) (Go.Lib.decDigits (0 - n).toNat) 1 1 (by rw [← hr]; rfl) (dec_short (0 - n)) (by omega) (by simp) rfl
   rw [rd_dec2, UInt64.ofNat_toNat] at hl2
   refine bo (a := ApiValue.mk 1 (0 - n) []) (bo hl2 rfl) ?_
   have : (0 : UInt64) - (0 - n) = n := by
    rw [← UInt64.toNat_inj, UInt64.toNat_sub, hn]
    have : (0 : UInt64).toNat = 0 := rfl
    omega
   show Option.bind (bif ((1 : Int) == 1) then some (ApiValue.mk 1 (0 - (0 - n)) []) else _) _ = _
   rw [this]
   rfl
 ·rw [txt2]
  have hsh := dec_short n
  obtain ⟨c, r, e, h1, h2⟩ := dec_cons n.toNat
  have ne : ∀ d : UInt8, ¬ (48 ≤ d.toNat ∧ d.toNat ≤ 57) → c ≠ d := fun d hd e => hd (e ▸ ⟨h1, h2⟩)
  have hd : Go.Lib.decDigits n.toNat ++ [117] = c :: (r ++ [117]) := by rw [e]; rfl
  have w : ∀ (d : UInt8) (l : List UInt8), c ≠ d → ((c :: (r ++ [117])) == (d :: l)) = false := fun d l q => by
   rw [beq_eq_false_iff_ne]; intro e; exact q (List.cons.inj e).1
  have hrl : r.length + 1 ≤ 20 := by rw [e] at hsh; simpa using hsh
  have hlen : (c :: (r ++ [117])).length = r.length + 2 := by simp
  unfold ref06_guess
  rw [hd]
  refine beY (y := ()) ?_ ?_
  ·rw [w _ _ (ne 116 (by decide)), cond_false, w _ _ (ne 102 (by decide)), bind_some', cond_false, getI_zero]
   refine bo (a := false) ?_ ?_
   ·rw [bif_decT (by rw [hlen]; omega)]
    show some (c == 120) = _
    rw [show (c == 120) = false by rw [beq_eq_false_iff_ne]; exact ne 120 (by decide)]
   rw [cond_false]
   refine bo (a := false) ?_ ?_
   ·rw [bif_decT (by rw [hlen]; omega)]
    show some (c == 34) = _
    rw [show (c == 34) = false by rw [beq_eq_false_iff_ne]; exact ne 34 (by decide)]
   rw [cond_false, w _ _ (ne 110 (by decide)), cond_false]
  have hw : w64 ((((c :: (r ++ [117])).length : Nat) : Int) - 1) = ((r.length + 1 : Nat) : Int) := by
   rw [hlen, w64_id (by omega) (by omega)]; omega
  refine bo (a := (c :: r, (0 : Int), ApiValue.mk 2 0 [])) ?_ ?_
  ·rw [hw]
   refine bo (a := true) ?_ ?_
   ·rw [bif_decT (by rw [hlen]; omega), getI_at (by rw [hlen]; omega), bind_some']
    simp
   rw [cond_true, bif_decT (by rw [hlen]; omega), Int.toNat_natCast]
   simp
  have hl2 := dig_loop (c :: r) (Go.Lib.decDigits n.toNat) 0 2 (by rw [e]; rfl) hsh (by omega) (by omega) rfl
  rw [rd_dec2, UInt64.ofNat_toNat] at hl2
  refine bo (a := ApiValue.mk 2 n []) (bo hl2 rfl) ?_
  rfl
 ·rw [txt30]; rfl
 ·rw [txt31]; rfl
 ·rw [txt4 hv]
  unfold ref06_guess
  have w : ∀ (d : UInt8) (l : List UInt8), (120 : UInt8) ≠ d → ((120 :: hexL s) == (d :: l)) = false := fun d l q => by
   rw [beq_eq_false_iff_ne]; intro e; exact q (List.cons.inj e).1
  have hxl := hexL_len s
  refine beE (x := ApiValue.mk 4 0 s) ?_ rfl
  rw [w _ _ (by decide), cond_false, w _ _ (by decide), bind_some', cond_false]
  refine bo (a := true) ?_ ?_
  ·rw [bif_decT (by simp <;> omega)]; rfl
  rw [cond_true]
  refine bo (a := s) ?_ rfl
  refine bo (a := s) (lq1 (fun k => (s.take k, ((1 + 2 * k : Nat) : Int))) s.length (fun k hk => ?_) ?_ rfl) rfl
  ·obtain ⟨g1, g2⟩ := hexL_get s k hk
   have hc : ((120 :: hexL s).length : Int) = ((2 * s.length + 1 : Nat) : Int) := by simp [hxl]
   show (bif decide (w64 (((1 + 2 * k : Nat) : Int) + 1) < ((120 :: hexL s).length : Int)) then _ else _) = _
   rw [hc, w64_succ (by omega), bif_decT (by omega), show 1 + 2 * k = 2 * k + 1 by omega, getI_of (x := hxc (s[k].toNat / 16)) (by rw [List.getElem?_cons_succ]; exact g1), bind_some', ref06_half_eq, bind_some', show 2 * k + 1 + 1 = (2 * k + 1) + 1 from rfl, getI_of (x := hxc (s[k].toNat % 16)) (by rw [List.getElem?_cons_succ]; exact g2), bind_some', ref06_half_eq, bind_some', hlf_back, bif_decT (by rw [room_val]; simp; omega), w64_id (by omega) (by omega)]
   rw [List.take_succ_eq_append_getElem hk]
   congr 3
   omega
  ·have hc : ((120 :: hexL s).length : Int) = ((2 * s.length + 1 : Nat) : Int) := by simp [hxl]
   show (bif decide (w64 (((1 + 2 * s.length : Nat) : Int) + 1) < ((120 :: hexL s).length : Int)) then _ else _) = _
   rw [hc, w64_succ (by omega), bif_decF (by omega), List.take_length]
 ·rw [txt5 hv]
  unfold quoteL
  have hq := q_len s
  rw [List.cons_append]
  unfold ref06_guess
  have w : ∀ (d : UInt8) (l : List UInt8), (34 : UInt8) ≠ d → ((34 :: ((s.map qch).flatten ++ [34])) == (d :: l)) = false := fun d l q => by
   rw [beq_eq_false_iff_ne]; intro e; exact q (List.cons.inj e).1
  have hlen : (34 :: ((s.map qch).flatten ++ [34])).length = (s.map qch).flatten.length + 2 := by simp
  generalize hS : (34 :: ((s.map qch).flatten ++ [34])) = S at w hlen
  refine beE (x := ApiValue.mk 5 0 s) ?_ rfl
  rw [w _ _ (by decide), cond_false, w _ _ (by decide), bind_some', cond_false]
  have h0 : getI S 0 = some 34 := by rw [← hS, getI_zero]; rfl
  refine bo (a := false) ?_ ?_
  ·rw [bif_decT (by omega), h0]; rfl
  rw [cond_false]
  refine bo (a := true) ?_ ?_
  ·rw [bif_decT (by omega), h0]; rfl
  rw [cond_true]
  refine bo (a := s) ?_ rfl
  refine bo (a := s) ?_ rfl
  have hm1 : w64 ((S.length : Int) - 1) = ((S.length - 1 : Nat) : Int) := by rw [w64_id (by omega) (by omega)]; omega
  rw [hm1]
  refine nmB ?_
  intro B hB
  have key : ∀ (t : List UInt8) (i : Nat) (acc : List UInt8), S.drop i = (t.map qch).flatten ++ [34] → acc.length ≤ i → loop B (acc, (i : Int)) = some (acc ++ t) := by
   intro t
   induction t with
   | nil =>
    intro i acc hd ha
    have hl : S.length - i = 1 := by have := congrArg List.length hd; simpa using this
    rw [List.append_nil]
    refine loop_end ?_
    rw [hB]
    show (bif decide ((i : Int) < ((S.length - 1 : Nat) : Int)) then _ else _) = _
    rw [bif_decF (by omega)]
   | cons c t ih =>
    intro i acc hd ha
    rw [List.map_cons, List.flatten_cons, List.append_assoc] at hd
    have hl : S.length - i = (qch c).length + ((t.map qch).flatten ++ [34]).length := by have := congrArg List.length hd; simpa [List.length_append] using this
    by_cases q : c.toNat < 33 ∨ 126 < c.toNat ∨ c.toNat = 34 ∨ c.toNat = 92
    ·rw [qch_y q] at hd hl
     simp only [List.length_cons, List.length_nil, List.length_append] at hl
     have g0 : S[i]? = some 92 := by have := congrArg (·[0]?) hd; simpa using this
     have g1 : S[i + 1]? = some (hxc (c.toNat / 16)) := by have := congrArg (·[1]?) hd; simpa using this
     have g2 : S[i + 2]? = some (hxc (c.toNat % 16)) := by have := congrArg (·[2]?) hd; simpa using this
     have hd2 : S.drop (i + 3) = (t.map qch).flatten ++ [34] := by have := congrArg (List.drop 3) hd; simpa using this
     rw [loop_step (y' := (acc ++ [c], ((i + 3 : Nat) : Int))) ?_, ih (i + 3) _ hd2 (by simp; omega), List.append_assoc]
     ·rfl
     rw [hB]
     show (bif decide ((i : Int) < ((S.length - 1 : Nat) : Int)) then _ else _) = _
     rw [bif_decT (by omega), getI_of g0, bind_some']
     refine bo (a := (((i + 2 : Nat) : Int), c)) ?_ ?_
     ·refine bo (a := true) ?_ ?_
      ·show (bif ((92 : UInt8) == 92) then some (decide (w64 ((i : Int) + 2) < (S.length : Int))) else _) = _
       rw [BEq.rfl, cond_true, w64_id (by omega) (by omega), decide_eq_true (by omega)]
      rw [cond_true, w64_succ (by omega), getI_of g1, bind_some', ref06_half_eq, bind_some', w64_id (n := (i : Int) + 2) (by omega) (by omega), show (i : Int) + 2 = ((i + 2 : Nat) : Int) by omega, getI_of g2, bind_some', ref06_half_eq, bind_some', hlf_back]
     ·show (bif decide _ then some (Sum.inl (_, w64 (((i + 2 : Nat) : Int) + 1))) else _) = _
      rw [bif_decT (by rw [room_val]; simp only [List.length_cons, List.length_nil]; omega), w64_succ (by omega)]
    ·rw [qch_n q] at hd hl
     simp only [List.length_cons, List.length_nil, List.length_append] at hl
     have g0 : S[i]? = some c := by have := congrArg (·[0]?) hd; simpa using this
     have hd2 : S.drop (i + 1) = (t.map qch).flatten ++ [34] := by have := congrArg (List.drop 1) hd; simpa using this
     have hc : (c == 92) = false := by
      rw [beq_eq_false_iff_ne]; rintro rfl; exact q (.inr (.inr (.inr rfl)))
     rw [loop_step (y' := (acc ++ [c], ((i + 1 : Nat) : Int))) ?_, ih (i + 1) _ hd2 (by simp; omega), List.append_assoc]
     ·rfl
     rw [hB]
     show (bif decide ((i : Int) < ((S.length - 1 : Nat) : Int)) then _ else _) = _
     rw [bif_decT (by omega), getI_of g0, bind_some']
     refine bo (a := ((i : Int), c)) ?_ ?_
     ·refine bo (a := false) ?_ ?_
      ·rw [hc, cond_false]
      rw [cond_false]
     ·show (bif decide _ then some (Sum.inl (_, w64 ((i : Int) + 1))) else _) = _
      rw [bif_decT (by rw [room_val]; simp only [List.length_cons, List.length_nil]; omega), w64_succ (by omega)]
  exact key s 1 [] (by rw [← hS]; rfl) (by simp)
theorem unhx_len : ∀ (n : Nat) (s : List UInt8), s.length ≤ n → ∀ t, unhx s = some t → t.length ≤ s.length
 | _, [], _, t, h => by rw [unhx] at h; obtain rfl := Option.some.inj h; simp
 | _, [_], _, t, h => by rw [unhx] at h; cases h
 | 0, a :: b :: r, hn, t, h => by simp at hn
 | n + 1, a :: b :: r, hn, t, h => by
  rw [unhx] at h
  split at h
  ·cases h
  ·cases hr : unhx r with
   | none => rw [hr] at h; cases h
   | some u =>
    rw [hr] at h
    obtain rfl := Option.some.inj h
    have := unhx_len n r (by simp at hn; omega) u hr
    simp; omega
theorem unq_len : ∀ (n : Nat) (s : List UInt8), s.length ≤ n → ∀ t, unq s = some t → t.length ≤ s.length
 | _, [], _, t, h => by rw [unq] at h; obtain rfl := Option.some.inj h; simp
 | 0, a :: r, hn, t, h => by simp at hn
 | n + 1, c :: r, hn, t, h => by
  by_cases hc : c = 92
  ·subst hc
   match r, hn, h with
   | [], _, h => rw [unq_short (by simp)] at h; cases h
   | [d], _, h => rw [unq_short (by simp)] at h; cases h
   | a :: b :: r, hn, h =>
    rw [unq, if_pos rfl] at h
    cases hx : unhx [a, b] with
    | none => rw [hx] at h; cases h
    | some x =>
     rw [hx] at h
     have h1 := unhx_len 2 [a, b] (by simp) x hx
     cases hr : unq r with
     | none => rw [hr] at h; cases h
     | some u =>
      rw [hr] at h
      obtain rfl := Option.some.inj h
      have := unq_len n r (by simp at hn; omega) u hr
      simp at h1 ⊢; omega
  ·rw [unq_c hc] at h
   cases hr : unq r with
   | none => rw [hr] at h; cases h
   | some u =>
    rw [hr] at h
    obtain rfl := Option.some.inj h
    have := unq_len n r (by simpa using hn) u hr
    simp; omega
end Lv
/- Plain law of layer 06: texts, there and back. -/
namespace Lv
open Go Go.Proofs
set_option linter.unusedVariables false
set_option linter.unusedSimpArgs false
set_option linter.unusedSectionVars false
set_option maxRecDepth 100000
variable [BaseTab]
theorem unhP_len (s : List UInt8) : (unhP s).1.length ≤ s.length := by
 unfold unhP
 cases h : unhx s with
 | none => simp
 | some t => exact unhx_len _ s (Nat.le_refl _) t h
theorem unqP_len (s : List UInt8) : (unqP s).1.length ≤ s.length := by
 unfold unqP
 cases h : unq ((s.take (s.length - 1)).drop 1) with
 | none => simp
 | some t =>
  have := unq_len _ _ (Nat.le_refl _) t h
  simp at this ⊢; omega
theorem read_len (s : List UInt8) (h : s.length ≤ 140737488355328) (r : Bool × ApiValue) (hr : value_read_1 s = some r) : r.2.S.length ≤ 140737488355328 := by
 unfold value_read_1 at hr
 have b0 : ∀ {x y : Option (Bool × ApiValue)} {b : Bool}, (bif b then x else y) = some r → x = some r ∨ y = some r := by
  intro x y b h; cases b
  ·exact .inr h
  ·exact .inl h
 rcases b0 hr with hr | hr
 ·obtain rfl := Option.some.inj hr; simp
 rcases b0 hr with hr | hr
 ·obtain rfl := Option.some.inj hr; simp
 rcases b0 hr with hr | hr
 ·obtain rfl := Option.some.inj hr; simp
 unfold preF at hr
 rw [bind_some'] at hr
 rcases b0 hr with hr | hr
 ·rcases b0 hr with hr | hr
  ·rw [value_unhex_eq _ (by simp; omega), bind_some'] at hr
   obtain rfl := Option.some.inj hr
   have := unhP_len (s.drop (1 : Int).toNat)
   have e : (s.drop (1 : Int).toNat).length = s.length - 1 := List.length_drop
   show (unhP (s.drop (1 : Int).toNat)).1.length ≤ _
   omega
  ·cases hr
 obtain ⟨y, hy, hr⟩ := ob hr
 rcases b0 hr with hr1 | hr
 ·by_cases h2 : 2 ≤ s.length
  ·rw [value_unquote_eq s h h2, bind_some'] at hr1
   obtain rfl := Option.some.inj hr1
   have := unqP_len s
   show (unqP s).1.length ≤ _
   omega
  ·cases y with
   | false =>
    -- the other road
    rw [cond_false] at hr
    unfold sufF trimF at hr
    rw [if_pos (by omega), bind_some'] at hr
    rcases b0 hr with hr | hr
    ·rw [if_pos (by omega), bind_some'] at hr
     obtain ⟨q, _, hr⟩ := ob hr
     cases q <;> (obtain rfl := Option.some.inj hr; simp)
    ·obtain ⟨q, _, hr⟩ := ob hr
     cases q <;> (obtain rfl := Option.some.inj hr; simp)
   | true =>
    exfalso
    rw [bif_decF (by omega)] at hy
    cases hy
 ·unfold sufF trimF at hr
  rw [if_pos (by omega), bind_some'] at hr
  rcases b0 hr with hr | hr
  ·rw [if_pos (by omega), bind_some'] at hr
   obtain ⟨q, _, hr⟩ := ob hr
   cases q <;> (obtain rfl := Option.some.inj hr; simp)
  ·obtain ⟨q, _, hr⟩ := ob hr
   cases q <;> (obtain rfl := Option.some.inj hr; simp)
theorem getI_in {α : Type} {l : List α} {i : Int} (h0 : 0 ≤ i) (h : i < l.length) : ∃ x, getI l i = some x := by
 obtain ⟨n, rfl⟩ := Int.eq_ofNat_of_zero_le h0
 exact ⟨_, getI_at (by omega)⟩
theorem guess_some (s : List UInt8) (h : s.length < 140737488355320) : ∃ v, ref06_guess s = some v ∧ v.S.length ≤ 140737488355328 := by
  have hlt : (s.length : Int) < 140737488355320 := by omega
  -- the last part: a number
  have last : ∃ v, (Option.bind (α := (List UInt8) × Int × ApiValue)
        (Option.bind (α := Bool)
          (bif (decide ((s.length : Int) > (0 : Int))) then
            Option.bind (getI s (w64 ((s.length : Int) - (1 : Int)))) fun v1409 =>
            some (v1409 == (117 : UInt8))
          else
            some false)
          fun y1407 =>
        bif y1407 then
          bif decide (0 ≤ (w64 ((s.length : Int) - (1 : Int))) ∧ (w64 ((s.length : Int) - (1 : Int))) ≤ (s.length : Int)) then
          some ((List.take (w64 ((s.length : Int) - (1 : Int))).toNat s), (0 : Int), (ApiValue.mk (2 : Int) (0 : UInt64) ([] : List UInt8)))
          else none
        else
          Option.bind (α := Bool)
            (bif (decide ((s.length : Int) > (0 : Int))) then
              Option.bind (getI s (0 : Int)) fun v1414 =>
              some (v1414 == (45 : UInt8))
            else
              some false)
            fun y1412 =>
          bif y1412 then
            some (s, (1 : Int), (ApiValue.mk (1 : Int) (0 : UInt64) ([] : List UInt8)))
          else
            some (s, (0 : Int), (ApiValue.mk (1 : Int) (0 : UInt64) ([] : List UInt8))))
        fun (y1402, y1403, y1404) =>
      Option.bind (α := ApiValue)
        (Option.bind (α := ApiValue)
          (loop (Y := Int × ApiValue) (W := ApiValue) (fun (y1436, y1437) =>
            Option.bind (α := Bool)
              (bif (decide (y1436 < (y1402.length : Int))) then
                some (decide (y1436 < (30 : Int)))
              else
                some false)
              fun y1445 =>
            bif y1445 then
              Option.bind (getI y1402 y1436) fun v1447 =>
              some (Sum.inl ((w64 (y1436 + (1 : Int))), (ApiValue.mk y1437.Kind (((y1437.N * (10 : UInt64)) + (v1447.toUInt64)) - (48 : UInt64)) y1437.S)))
            else
              some (Sum.inr y1437)) (y1403, y1404))
          (fun e => some e))
        fun y1431 =>
      Option.bind (α := ApiValue)
        (bif (y1403 == (1 : Int)) then
          some (ApiValue.mk y1431.Kind (0 - y1431.N) y1431.S)
        else
          some y1431)
        fun y1449 =>
      some y1449) = some v ∧ v.S.length ≤ 140737488355328 := by
    have rest : ∀ (l : List UInt8) (a : Int) (v0 : ApiValue), (a = 0 ∨ a = 1) → l.length ≤ s.length → v0.S = [] → ∃ v, (Option.bind (α := ApiValue)
        (Option.bind (α := ApiValue)
          (loop (Y := Int × ApiValue) (W := ApiValue) (fun (y1436, y1437) =>
            Option.bind (α := Bool)
              (bif (decide (y1436 < (l.length : Int))) then
                some (decide (y1436 < (30 : Int)))
              else
                some false)
              fun y1445 =>
            bif y1445 then
              Option.bind (getI l y1436) fun v1447 =>
              some (Sum.inl ((w64 (y1436 + (1 : Int))), (ApiValue.mk y1437.Kind (((y1437.N * (10 : UInt64)) + (v1447.toUInt64)) - (48 : UInt64)) y1437.S)))
            else
              some (Sum.inr y1437)) (a, v0))
          (fun e => some e))
        fun y1431 =>
      Option.bind (α := ApiValue)
        (bif (a == (1 : Int)) then
          some (ApiValue.mk y1431.Kind (0 - y1431.N) y1431.S)
        else
          some y1431)
        fun y1449 =>
      some y1449) = some v ∧ v.S.length ≤ 140737488355328 := by
      intro l a v0 ha hl hv0
      obtain ⟨w, hw, hS⟩ := loop_totQ (B := fun (y1436, y1437) =>
            Option.bind (α := Bool)
              (bif (decide (y1436 < (l.length : Int))) then
                some (decide (y1436 < (30 : Int)))
              else
                some false)
              fun y1445 =>
            bif y1445 then
              Option.bind (getI l y1436) fun v1447 =>
              some (Sum.inl ((w64 (y1436 + (1 : Int))), (ApiValue.mk y1437.Kind (((y1437.N * (10 : UInt64)) + (v1447.toUInt64)) - (48 : UInt64)) y1437.S)))
            else
              some (Sum.inr y1437)) (fun y : Int × ApiValue => 0 ≤ y.1 ∧ y.2.S = []) (fun w : ApiValue => w.S = []) (fun y => ((l.length : Int) - y.1).toNat) (fun y hy => by
        obtain ⟨i, u⟩ := y
        obtain ⟨hi, hu⟩ := hy
        show (∃ y', Option.bind (bif _ then _ else _) _ = _ ∧ _) ∨ (∃ w, Option.bind (bif _ then _ else _) _ = _ ∧ _)
        by_cases q : i < (l.length : Int)
        · by_cases q2 : i < 30
          · left
            obtain ⟨x, hx⟩ := getI_in hi q
            refine ⟨(i + 1, ApiValue.mk u.Kind (((u.N * (10 : UInt64)) + (x.toUInt64)) - (48 : UInt64)) u.S), ?_, ⟨by show 0 ≤ i + 1; omega, hu⟩, by show ((l.length : Int) - (i + 1)).toNat < ((l.length : Int) - i).toNat; omega⟩
            rw [bif_decT q, bind_some', bif_decT q2, hx, bind_some', w64_id (by omega) (by omega)]
          · right
            refine ⟨u, ?_, hu⟩
            rw [bif_decT q, bind_some', bif_decF q2]
        · right
          refine ⟨u, ?_, hu⟩
          rw [bif_decF q, bind_some', cond_false]) (a, v0) ⟨by show 0 ≤ a; omega, hv0⟩
      rw [hw, bind_some', bind_some']
      rcases ha with rfl | rfl
      · exact ⟨w, rfl, by rw [hS]; simp⟩
      · exact ⟨_, rfl, by show w.S.length ≤ _; rw [hS]; simp⟩
    by_cases q : (s.length : Int) > 0
    · obtain ⟨x, hx⟩ := getI_in (l := s) (i := (s.length : Int) - 1) (by omega) (by omega)
      obtain ⟨z, hz⟩ := getI_in (l := s) (i := 0) (by omega) (by omega)
      rw [bif_decT q, bif_decT q, w64_id (by omega) (by omega), hx, bind_some', bind_some', hz, bind_some']
      cases x == 117 with
      | true =>
        rw [cond_true, bif_decT (by omega), bind_some']
        exact rest _ 0 _ (.inl rfl) (by simp <;> omega) rfl
      | false =>
        rw [cond_false, bind_some']
        cases z == 45 with
        | true => rw [cond_true, bind_some']; exact rest _ 1 _ (.inr rfl) (Nat.le_refl _) rfl
        | false => rw [cond_false, bind_some']; exact rest _ 0 _ (.inl rfl) (Nat.le_refl _) rfl
    · rw [bif_decF q, bif_decF q, bind_some', cond_false, bind_some', cond_false, bind_some']
      exact rest _ 0 _ (.inl rfl) (Nat.le_refl _) rfl
  unfold ref06_guess
  cases e1 : s == [116, 114, 117, 101] with
  | true => exact ⟨_, rfl, by simp⟩
  | false =>
  cases e2 : s == [102, 97, 108, 115, 101] with
  | true => exact ⟨_, rfl, by simp⟩
  | false =>
  -- bytes
  have bytes : ∃ w : List UInt8, (loop (Y := (List UInt8) × Int) (W := (List UInt8)) (fun (y1226, y1227) =>
              bif (decide ((w64 (y1227 + (1 : Int))) < (s.length : Int))) then
                Option.bind (getI s y1227) fun v1239 =>
                Option.bind (ref06_half v1239) fun r1241 =>
                Option.bind (getI s (w64 (y1227 + (1 : Int)))) fun v1242 =>
                Option.bind (ref06_half v1242) fun r1244 =>
                bif decide ((y1226.length + [(u8i (w64 ((w64 (r1241 * (16 : Int))) + r1244)))].length) * 1 ≤ room) then
                some (Sum.inl ((y1226 ++ [(u8i (w64 ((w64 (r1241 * (16 : Int))) + r1244)))]), (w64 (y1227 + (2 : Int)))))
                else none
              else
                some (Sum.inr y1226)) (([] : List UInt8), (1 : Int))) = some w ∧ w.length ≤ 140737488355328 := by
    refine loop_totQ (fun y : List UInt8 × Int => (y.1.length : Int) ≤ y.2 ∧ 0 ≤ y.2 ∧ y.2 ≤ (s.length : Int) + 1) (fun w : List UInt8 => w.length ≤ 140737488355328) (fun y => ((s.length : Int) + 1 - y.2).toNat) (fun y hy => ?_) (([] : List UInt8), (1 : Int)) ⟨by simp, by omega, by show (1 : Int) ≤ _; omega⟩
    obtain ⟨acc, i⟩ := y
    obtain ⟨h1, h2, h3⟩ := hy
    simp only at h1 h2 h3
    show (∃ y', (bif _ then _ else _) = _ ∧ _) ∨ (∃ w, (bif _ then _ else _) = _ ∧ _)
    rw [w64_id (n := i + 1) (by omega) (by omega)]
    by_cases q : i + 1 < (s.length : Int)
    · left
      obtain ⟨x, hx⟩ := getI_in (l := s) h2 (by omega)
      obtain ⟨z, hz⟩ := getI_in (l := s) (i := i + 1) (by omega) q
      refine ⟨(acc ++ [u8i (w64 ((w64 (hlf x * 16)) + hlf z))], i + 2), ?_, ⟨by show (((acc ++ [_]).length : Nat) : Int) ≤ i + 2; simp; omega, by show 0 ≤ i + 2; omega, by show i + 2 ≤ _; omega⟩, by show ((s.length : Int) + 1 - (i + 2)).toNat < ((s.length : Int) + 1 - i).toNat; omega⟩
      rw [bif_decT q, hx, bind_some', ref06_half_eq, bind_some', hz, bind_some', ref06_half_eq, bind_some', bif_decT (by rw [room_val]; simp only [List.length_cons, List.length_nil]; omega), w64_id (n := i + 2) (by omega) (by omega)]
    · right
      exact ⟨acc, by rw [bif_decF q], by omega⟩
  have quot : ∃ w : List UInt8, (loop (Y := (List UInt8) × Int) (W := (List UInt8)) (fun (y1344, y1345) =>
                bif (decide (y1345 < (w64 ((s.length : Int) - (1 : Int))))) then
                  Option.bind (getI s y1345) fun v1371 =>
                  Option.bind (α := Int × UInt8)
                    (Option.bind (α := Bool)
                      (bif (v1371 == (92 : UInt8)) then
                        some (decide ((w64 (y1345 + (2 : Int))) < (s.length : Int)))
                      else
                        some false)
                      fun y1383 =>
                    bif y1383 then
                      Option.bind (getI s (w64 (y1345 + (1 : Int)))) fun v1385 =>
                      Option.bind (ref06_half v1385) fun r1387 =>
                      Option.bind (getI s (w64 (y1345 + (2 : Int)))) fun v1388 =>
                      Option.bind (ref06_half v1388) fun r1390 =>
                      some ((w64 (y1345 + (2 : Int))), (u8i (w64 ((w64 (r1387 * (16 : Int))) + r1390))))
                    else
                      some (y1345, v1371))
                    fun (y1380, y1381) =>
                  bif decide ((y1344.length + [y1381].length) * 1 ≤ room) then
                  some (Sum.inl ((y1344 ++ [y1381]), (w64 (y1380 + (1 : Int)))))
                  else none
                else
                  some (Sum.inr y1344)) (([] : List UInt8), (1 : Int))) = some w ∧ w.length ≤ 140737488355328 := by
    refine loop_totQ (fun y : List UInt8 × Int => (y.1.length : Int) ≤ y.2 ∧ 0 ≤ y.2 ∧ y.2 ≤ (s.length : Int) + 2) (fun w : List UInt8 => w.length ≤ 140737488355328) (fun y => ((s.length : Int) + 2 - y.2).toNat) (fun y hy => ?_) (([] : List UInt8), (1 : Int)) ⟨by simp, by omega, by show (1 : Int) ≤ _; omega⟩
    obtain ⟨acc, i⟩ := y
    obtain ⟨h1, h2, h3⟩ := hy
    simp only at h1 h2 h3
    show (∃ y', (bif _ then _ else _) = _ ∧ _) ∨ (∃ w, (bif _ then _ else _) = _ ∧ _)
    rw [w64_id (n := (s.length : Int) - 1) (by omega) (by omega)]
    by_cases q : i < (s.length : Int) - 1
    · left
      obtain ⟨x, hx⟩ := getI_in (l := s) h2 (by omega)
      by_cases q2 : x = 92 ∧ i + 2 < (s.length : Int)
      · obtain ⟨y1, hy1⟩ := getI_in (l := s) (i := i + 1) (by omega) (by omega)
        obtain ⟨z, hz⟩ := getI_in (l := s) (i := i + 2) (by omega) q2.2
        refine ⟨(acc ++ [u8i (w64 ((w64 (hlf y1 * 16)) + hlf z))], i + 3), ?_, ⟨by show (((acc ++ [_]).length : Nat) : Int) ≤ i + 3; simp; omega, by show 0 ≤ i + 3; omega, by show i + 3 ≤ _; omega⟩, by show ((s.length : Int) + 2 - (i + 3)).toNat < ((s.length : Int) + 2 - i).toNat; omega⟩
        rw [bif_decT q, hx, bind_some']
        refine bo (a := (i + 2, u8i (w64 ((w64 (hlf y1 * 16)) + hlf z)))) ?_ ?_
        · refine bo (a := true) ?_ ?_
          · rw [q2.1, BEq.rfl, cond_true, w64_id (n := i + 2) (by omega) (by omega), decide_eq_true q2.2]
          rw [cond_true, w64_id (n := i + 1) (by omega) (by omega), hy1, bind_some', ref06_half_eq, bind_some', w64_id (n := i + 2) (by omega) (by omega), hz, bind_some', ref06_half_eq, bind_some']
        · show (bif decide _ then some (Sum.inl (_, w64 (i + 2 + 1))) else _) = _
          rw [bif_decT (by rw [room_val]; simp only [List.length_cons, List.length_nil]; omega), w64_id (n := i + 2 + 1) (by omega) (by omega), show i + 2 + 1 = i + 3 by omega]
      · refine ⟨(acc ++ [x], i + 1), ?_, ⟨by show (((acc ++ [_]).length : Nat) : Int) ≤ i + 1; simp; omega, by show 0 ≤ i + 1; omega, by show i + 1 ≤ _; omega⟩, by show ((s.length : Int) + 2 - (i + 1)).toNat < ((s.length : Int) + 2 - i).toNat; omega⟩
        rw [bif_decT q, hx, bind_some']
        refine bo (a := (i, x)) ?_ ?_
        · refine bo (a := false) ?_ ?_
          · by_cases hx9 : x = 92
            · rw [hx9, BEq.rfl, cond_true, w64_id (n := i + 2) (by omega) (by omega), decide_eq_false (fun k => q2 ⟨hx9, k⟩)]
            · rw [show (x == 92) = false by rw [beq_eq_false_iff_ne]; exact hx9, cond_false]
          rw [cond_false]
        · show (bif decide _ then some (Sum.inl (_, w64 (i + 1))) else _) = _
          rw [bif_decT (by rw [room_val]; simp only [List.length_cons, List.length_nil]; omega), w64_id (n := i + 1) (by omega) (by omega)]
    · right
      exact ⟨acc, by rw [bif_decF q], by omega⟩
  obtain ⟨wb, hb1, hb2⟩ := bytes
  obtain ⟨wq, hq1, hq2⟩ := quot
  rw [cond_false, bind_some', cond_false, hb1, hq1]
  have hx : ∃ b : Bool, (bif (decide ((s.length : Int) > (0 : Int))) then
          Option.bind (getI s (0 : Int)) fun v1188 =>
          some (v1188 == (120 : UInt8))
        else
          some false) = some b := by
    by_cases q : (s.length : Int) > 0
    · obtain ⟨z, hz⟩ := getI_in (l := s) (i := 0) (by omega) (by omega)
      rw [bif_decT q, hz, bind_some']; exact ⟨_, rfl⟩
    · rw [bif_decF q]; exact ⟨_, rfl⟩
  have hy : ∃ b : Bool, (bif (decide ((s.length : Int) > (1 : Int))) then
            Option.bind (getI s (0 : Int)) fun v1250 =>
            some (v1250 == (34 : UInt8))
          else
            some false) = some b := by
    by_cases q : (s.length : Int) > 1
    · obtain ⟨z, hz⟩ := getI_in (l := s) (i := 0) (by omega) (by omega)
      rw [bif_decT q, hz, bind_some']; exact ⟨_, rfl⟩
    · rw [bif_decF q]; exact ⟨_, rfl⟩
  obtain ⟨bx, hx⟩ := hx
  obtain ⟨b_y, hy⟩ := hy
  rw [hx, hy, bind_some']
  cases bx with
  | true => exact ⟨_, rfl, hb2⟩
  | false =>
  rw [cond_false, bind_some']
  cases b_y with
  | true => exact ⟨_, rfl, hq2⟩
  | false =>
  rw [cond_false]
  cases s == [110, 117, 108, 108] with
  | true => exact ⟨_, rfl, by simp⟩
  | false =>
  rw [cond_false]
  exact last
end Lv
/- Plain law of layer 06: ValueTexts. -/
namespace Lv
open Go Go.Proofs
set_option linter.unusedVariables false
set_option linter.unusedSimpArgs false
set_option linter.unusedSectionVars false
set_option maxRecDepth 100000
variable [BaseTab]
theorem vlen64 {v : ApiValue} (hv : val v = true) : v.S.length ≤ 64 := by
 rcases val_cases hv with rfl | ⟨n, rfl⟩ | ⟨n, rfl⟩ | rfl | rfl | ⟨s, rfl, hs⟩ | ⟨s, rfl, hs⟩
 ·simp
 ·simp
 ·simp
 ·simp
 ·simp
 ·exact hs
 ·exact hs
theorem read_nil : (value_read_1 []).map (fun r => r.1) = some false := by kernel_rfl
theorem txt_nonnil {v : ApiValue} (hv : val v = true) : txt v ≠ [] := by
 intro h
 have := read_txt hv
 rw [h] at this
 have q := read_nil
 rw [this] at q
 cases q
theorem parse_ok {v : ApiValue} (hv : val v = true) : value_Parse_1 (txt v) = some (0, v) := by
 unfold value_Parse_1
 rw [read_txt hv, bind_some']
 refine bo (a := false) ?_ rfl
 show (bif !true then _ else _) = _
 rw [Bool.not_true, cond_false, value_Text_eq v (by have := vlen64 hv; omega), bind_some']
 simp
theorem parse_bad (s : List UInt8) (h : s.length ≤ 140737488355328) (hn : ∀ v, val v = true → txt v ≠ s) : value_Parse_1 s = some (2, ⟨0, 0, []⟩) := by
 unfold value_Parse_1
 obtain ⟨⟨b, v⟩, hr⟩ := read_some s h
 have hl := read_len s h _ hr
 rw [hr, bind_some']
 refine bo (a := true) ?_ rfl
 cases b with
 | false => rfl
 | true =>
  show (bif !true then _ else _) = _
  rw [Bool.not_true, cond_false, value_Text_eq v (by show v.S.length < _; exact Nat.lt_of_le_of_lt hl (by decide)), bind_some']
  have : txt v ≠ s := by
   by_cases hv : val v = true
   ·exact hn v hv
   ·intro e
    have hv' : val v = false := by simpa using hv
    rw [txt_bad hv'] at e
    subst e
    have q := read_nil
    rw [hr] at q
    cases q
  rw [show (txt v != s) = true by simpa using this]
theorem parse_nil : value_Parse_1 [] = some (2, ⟨0, 0, []⟩) := parse_bad [] (by simp) fun v hv => txt_nonnil hv
theorem rparse_ok {v : ApiValue} (hv : val v = true) : ref06_Parse (txt v) = some (0, v) := by
 unfold ref06_Parse
 rw [guess_txt hv, bind_some', show (txt v == []) = false by simpa using txt_nonnil hv, cond_false, ref06_Text_eq v (by have := vlen64 hv; omega), bind_some', bind_some', show (txt v != txt v) = false by simp, cond_false]
theorem rparse_bad (s : List UInt8) (h : s.length < 140737488355320) (hn : ∀ v, val v = true → txt v ≠ s) : ref06_Parse s = some (2, ⟨0, 0, []⟩) := by
 unfold ref06_Parse
 obtain ⟨v, hv, hl⟩ := guess_some s h
 rw [hv, bind_some']
 refine bo (a := true) ?_ rfl
 by_cases e : s = []
 ·subst e; rfl
 ·rw [show (s == []) = false by simpa using e, cond_false, ref06_Text_eq v (by exact Nat.lt_of_le_of_lt hl (by decide)), bind_some']
  have : txt v ≠ s := by
   by_cases k : val v = true
   ·exact hn v k
   ·intro e2
    rw [txt_bad (by simpa using k)] at e2
    exact e e2.symm
  rw [show (txt v != s) = true by simpa using this]
theorem parses (s : List UInt8) (h : s.length < 140737488355320) : (∃ v, val v = true ∧ txt v = s ∧ value_Parse_1 s = some (0, v) ∧ ref06_Parse s = some (0, v)) ∨ (value_Parse_1 s = some (2, ⟨0, 0, []⟩) ∧ ref06_Parse s = some (2, ⟨0, 0, []⟩)) := by
 by_cases k : ∃ v, val v = true ∧ txt v = s
 ·obtain ⟨v, hv, rfl⟩ := k
  exact .inl ⟨v, hv, rfl, parse_ok hv, rparse_ok hv⟩
 ·have hn : ∀ v, val v = true → txt v ≠ s := fun v hv e => k ⟨v, hv, e⟩
  exact .inr ⟨parse_bad s (by omega) hn, rparse_bad s h hn⟩
theorem text5' : value_Text (ApiValue.mk (5 : Int) (0 : UInt64) ([97, 32, 98] : List UInt8)) = some [34, 97, 92, 50, 48, 98, 34] := by kernel_rfl
theorem eqV06' (v w : ApiValue) : eqApiValue v w = decide (v = w) := by
 obtain ⟨a, b, c⟩ := v
 obtain ⟨d, e, f⟩ := w
 simp [eqApiValue, Bool.beq_eq_decide_eq]
theorem awake06_1 : law06_awake_1 = some true := by
 have p5 : value_Parse_1 ([53, 117] : List UInt8) = some (0, ⟨2, 5, []⟩) := by
  have h := parse_ok (v := ⟨2, 5, []⟩) rfl
  rw [txt2, show (5 : UInt64).toNat = 5 from rfl, Go.Lib.decDigits_one (by decide)] at h
  exact h
 unfold law06_awake_1
 rw [p5, bind_some']
 refine bo (a := true) ?_ rfl
 show (bif eqApiValue ⟨2, 5, []⟩ ⟨2, 5, []⟩ then _ else _) = _
 rw [eqV06', decide_eq_true rfl, cond_true, text5', bind_some', BEq.rfl, cond_true, value_Cmp_eq, bind_some', show (cmpV ⟨1, 1, []⟩ ⟨0, 0, []⟩ == 1) = true by decide +kernel, cond_true, value_Name_eq _ (by decide), bind_some', show nameS [97, 95, 49] = true by decide +kernel, cond_true, value_Fits_eq _ _ (by decide), bind_some']
 exact congrArg some (by decide +kernel)
theorem ValueTexts_true (v : ApiValue) (s : List UInt8) (hv : v.S.length < 4611686018427387904) (hs : s.length < 140737488355320) : law06_ValueTexts v s = some true := by
  unfold law06_ValueTexts
  rw [awake06_1, bind_some', Bool.not_true, cond_false, value_Text_eq v hv, bind_some']
  have tail : (Option.bind (value_Parse_1 (txt v)) fun (r83, r84) =>
        Option.bind (value_Valid v) fun r86 =>
        bif (!r86) then
          some (txt v == ([] : List UInt8))
        else
          Option.bind (α := Bool)
            (bif (r83 == (0 : Int)) then
              some (eqApiValue r84 v)
            else
              some false)
            fun y87 =>
          some y87) = some true := by
    by_cases k : val v = true
    · rw [parse_ok k, bind_some']
      show Option.bind (value_Valid v) _ = _
      rw [value_Valid_eq v hv, bind_some', k]
      show some (eqApiValue v v) = _
      rw [eqV06', decide_eq_true rfl]
    · have k' : val v = false := by simpa using k
      rw [txt_bad k', parse_nil, bind_some']
      show Option.bind (value_Valid v) _ = _
      rw [value_Valid_eq v hv, bind_some', k']
      rfl
  rcases parses s hs with ⟨u, hu, rfl, h1, h2⟩ | ⟨h1, h2⟩
  · rw [h1, bind_some']
    show Option.bind (ref06_Parse _) _ = _
    rw [h2, bind_some']
    refine bo (a := false) ?_ ?_
    · rw [ref06_Text_eq v hv, bind_some', show (txt v != txt v) = false by simp, cond_false, eqV06', decide_eq_true rfl]
      rfl
    · rw [cond_false]
      refine bo (a := false) ?_ tail
      show Option.bind (value_Text u) _ = _
      rw [value_Text_eq u (by have := vlen64 hu; omega), bind_some']
      simp
  · rw [h1, bind_some']
    show Option.bind (ref06_Parse _) _ = _
    rw [h2, bind_some']
    refine bo (a := false) ?_ ?_
    · rw [ref06_Text_eq v hv, bind_some', show (txt v != txt v) = false by simp, cond_false, eqV06', decide_eq_true rfl]
      rfl
    · rw [cond_false]
      exact bo (a := false) rfl tail
end Lv
