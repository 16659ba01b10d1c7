/- Part of the proof of a law. -/
import Derived.Test.YtihhhgaaagefgaaDoorXAll
import Derived.Test.YtihhhgaaagefgaaDoorGwPlain
import Derived.Lib.ValidLaws
import Derived.Test.YtihhhgaaagefgaaDoorGwQ
/- Plain laws of layer 07: values that are right. -/
namespace Lv
open Go Go.Proofs
set_option linter.unusedVariables false
set_option linter.unusedSimpArgs false
set_option linter.unusedSectionVars false
set_option maxRecDepth 100000
variable [BaseTab]
def val (v : ApiValue) : Bool :=
 (v.Kind == 0 && (v.N == 0 && v.S == [])) || ((v.Kind == 1 || v.Kind == 2) && v.S == []) || (v.Kind == 3 && (decide (v.N < 2) && v.S == [])) ||
 (v.Kind == 4 && (v.N == 0 && decide (v.S.length ≤ 64))) || (v.Kind == 5 && (v.N == 0 && (decide (v.S.length ≤ 64) && Go.Lib.validD v.S)))
theorem value_Valid_eq (v : ApiValue) (h : v.S.length < 4611686018427387904) : value_Valid v = some (val v) := by
 have e1 : validF v.S = some (Go.Lib.validD v.S) := by unfold validF; rw [if_pos (by omega)]
 have e2 : ((v.S.length : Int) ≤ 64) = (v.S.length ≤ 64) := propext (by omega)
 have e3 : (v.N ≤ 1) = (v.N < 2) := propext (by rw [UInt64.le_iff_toNat_le, UInt64.lt_iff_toNat_lt]; show _ ≤ 1 ↔ _ < 2; omega)
 obtain ⟨K, N, S⟩ := v
 unfold value_Valid val
 simp only [e1, e2, e3, eqApiValue, Bool.and_true] at *
 by_cases k0 : K = 0
 ·subst k0; simp
 by_cases k1 : K = 1
 ·subst k1; simp
 by_cases k2 : K = 2
 ·subst k2; simp
 by_cases k3 : K = 3
 ·subst k3; by_cases hN : N < 2 <;> simp [hN]
 by_cases k4 : K = 4
 ·subst k4; cases hN : (N == 0) <;> simp [hN]
 by_cases k5 : K = 5
 ·subst k5; cases hN : (N == 0) <;> by_cases hS : S.length ≤ 64 <;> simp [hN, hS]
 simp [beq_eq_false_iff_ne.2 k0, beq_eq_false_iff_ne.2 k1, beq_eq_false_iff_ne.2 k2, beq_eq_false_iff_ne.2 k3, beq_eq_false_iff_ne.2 k4, beq_eq_false_iff_ne.2 k5]
def utfB (s : List UInt8) (i n : Int) : Int × Int → Option ((Int × Int) ⊕ (Int ⊕ Bool)) := fun (y1265, y1266) =>
                      bif (decide (y1266 < n)) then
                        Option.bind (getI s (w64 (i + y1266))) fun v1279 =>
                        Option.bind (α := Bool)
                          (bif (decide ((v1279.toNat : Int) < (128 : Int))) then
                            some true
                          else
                            some (decide ((v1279.toNat : Int) ≥ (192 : Int))))
                          fun y1281 =>
                        bif y1281 then
                          some (Sum.inr (Sum.inr false))
                        else
                          some (Sum.inl ((w64 ((w64 ((w64 (y1265 * (64 : Int))) + (v1279.toNat : Int))) - (128 : Int))), (w64 (y1266 + (1 : Int)))))
                      else
                        some (Sum.inr (Sum.inl y1265))
theorem utf_more (s : List UInt8) (i : Nat) (n k c : Int) (b : UInt8) (hk : 0 ≤ k) (hn : k < n) (hn4 : n ≤ 4) (hi : i + k.toNat < s.length) (hs : s.length < 4611686018427387904) (hc : 0 ≤ c ∧ c < 4294967296) (hb : s.getD (i + k.toNat) 0 = b) :
  loop (utfB s i n) (c, k) = if b.toNat / 64 = 2 then loop (utfB s i n) (c * 64 + (b.toNat : Int) - 128, k + 1) else some (.inr false) := by
 have hg : getI s (w64 ((i : Int) + k)) = some b := by
  rw [w64_id (by omega) (by omega)]
  unfold getI
  rw [if_pos (by omega), show ((i : Int) + k).toNat = i + k.toNat by omega, List.getElem?_eq_getElem hi]
  rw [List.getD_eq_getElem?_getD, List.getElem?_eq_getElem hi] at hb
  exact congrArg some hb
 have hlt := b.toNat_lt
 by_cases h : b.toNat / 64 = 2
 ·rw [if_pos h]
  refine loop_step ?_
  show (bif (decide (k < n)) then _ else _) = _
  rw [decide_eq_true hn, cond_true, hg, bind_some', bif_decF (show ¬ ((b.toNat : Int) < 128) by omega), bind_some', bif_decF (show ¬ ((b.toNat : Int) ≥ 192) by omega)]
  rw [w64_id (n := c * 64) (by omega) (by omega), w64_id (n := c * 64 + _) (by omega) (by omega), w64_id (n := c * 64 + _ - _) (by omega) (by omega), w64_id (n := k + 1) (by omega) (by omega)]
 ·rw [if_neg h]
  refine loop_end ?_
  show (bif (decide (k < n)) then _ else _) = _
  rw [decide_eq_true hn, cond_true, hg, bind_some']
  by_cases h2 : b.toNat < 128
  ·rw [bif_decT (show ((b.toNat : Int) < 128) by omega), bind_some', cond_true]
  ·rw [bif_decF (show ¬ ((b.toNat : Int) < 128) by omega), bind_some', bif_decT (show ((b.toNat : Int) ≥ 192) by omega)]
theorem utf_end (s : List UInt8) (i : Nat) (n c : Int) : loop (utfB s i n) (c, n) = some (.inl c) := by
 refine loop_end ?_
 show (bif (decide (n < n)) then _ else _) = _
 rw [bif_decF (show ¬ (n < n) by omega)]
def utfN (l : List UInt8) : Nat :=
 if (Go.Lib.decodeN l.length (l.getD 0 0).toNat (l.getD 1 0).toNat (l.getD 2 0).toNat (l.getD 3 0).toNat).1 = 65533 ∧ (Go.Lib.decodeN l.length (l.getD 0 0).toNat (l.getD 1 0).toNat (l.getD 2 0).toNat (l.getD 3 0).toNat).2 = 1 then 0
 else (Go.Lib.decodeN l.length (l.getD 0 0).toNat (l.getD 1 0).toNat (l.getD 2 0).toNat (l.getD 3 0).toNat).2
theorem validD_utfN (l : List UInt8) (hne : l ≠ []) : Go.Lib.validD l = if utfN l = 0 then false else Go.Lib.validD (l.drop (utfN l)) := by
 have hw := Go.Lib.decodeL_width l
 have hl : 0 < l.length := List.length_pos_iff.2 hne
 rw [Go.Lib.validD_step l hne, Go.Lib.decodeL_N]
 rw [Go.Lib.decodeL_N] at hw
 unfold utfN
 split
 ·simp
 ·rw [if_neg (by omega)]
theorem utfN_1 (l : List UInt8) (h : (l.getD 0 0).toNat < 128) : utfN l = 1 := by
 unfold utfN Go.Lib.decodeN
 rw [if_pos h]
 simp only
 rw [if_neg (by omega)]
theorem utfN_bad (l : List UInt8) (h : (128 ≤ (l.getD 0 0).toNat ∧ (l.getD 0 0).toNat < 194) ∨ 245 ≤ (l.getD 0 0).toNat) : utfN l = 0 := by
 unfold utfN
 have := (l.getD 0 0).toNat_lt
 rw [Go.Lib.decodeN_bad _ _ _ _ _ (by omega)]
 rfl
theorem utfN_2 (l : List UInt8) (h : 194 ≤ (l.getD 0 0).toNat ∧ (l.getD 0 0).toNat < 224) : utfN l = if 1 < l.length ∧ (l.getD 1 0).toNat / 64 = 2 then 2 else 0 := by
 unfold utfN Go.Lib.decodeN
 repeat' split
 all_goals first | rfl | (exfalso; omega) | (simp only at *; omega)
theorem utfN_3 (l : List UInt8) (h : 224 ≤ (l.getD 0 0).toNat ∧ (l.getD 0 0).toNat < 240) : utfN l = if (2 < l.length ∧ (l.getD 1 0).toNat / 64 = 2 ∧ (l.getD 2 0).toNat / 64 = 2) ∧ 2048 ≤ (l.getD 0 0).toNat % 16 * 4096 + (l.getD 1 0).toNat % 64 * 64 + (l.getD 2 0).toNat % 64 ∧ ((l.getD 0 0).toNat % 16 * 4096 + (l.getD 1 0).toNat % 64 * 64 + (l.getD 2 0).toNat % 64 < 55296 ∨ 57344 ≤ (l.getD 0 0).toNat % 16 * 4096 + (l.getD 1 0).toNat % 64 * 64 + (l.getD 2 0).toNat % 64) then 3 else 0 := by
 unfold utfN Go.Lib.decodeN
 repeat' split
 all_goals first | rfl | (exfalso; omega) | (simp only at *; omega)
theorem utfN_4 (l : List UInt8) (h : 240 ≤ (l.getD 0 0).toNat ∧ (l.getD 0 0).toNat < 245) : utfN l = if (3 < l.length ∧ (l.getD 1 0).toNat / 64 = 2 ∧ (l.getD 2 0).toNat / 64 = 2 ∧ (l.getD 3 0).toNat / 64 = 2) ∧ 65536 ≤ (l.getD 0 0).toNat % 8 * 262144 + (l.getD 1 0).toNat % 64 * 4096 + (l.getD 2 0).toNat % 64 * 64 + (l.getD 3 0).toNat % 64 ∧ (l.getD 0 0).toNat % 8 * 262144 + (l.getD 1 0).toNat % 64 * 4096 + (l.getD 2 0).toNat % 64 * 64 + (l.getD 3 0).toNat % 64 ≤ 1114111 then 4 else 0 := by
 unfold utfN Go.Lib.decodeN
 repeat' split
 all_goals first | rfl | (exfalso; omega) | (simp only at *; omega)
theorem decI {p q : Prop} [Decidable p] [Decidable q] (h : p ↔ q) : decide p = decide q := decide_eq_decide.2 h
noncomputable def utfT (p0 : List UInt8) (y1079 y1207 y1208 y1209 : Int) : Option (Int ⊕ (Unit ⊕ Bool)) :=
              bif (decide ((w64 (y1079 + y1207)) > (p0.length : Int))) then
                some (Sum.inr (Sum.inr false))
              else
                bindE (Y := Int) (E := Bool)
                  (Option.bind (α := Int ⊕ Bool) (loop (utfB p0 y1079 y1207) (y1209, (1 : Int)))
                    (Sum.elim (fun e => some (Sum.inl e)) (fun e => some (Sum.inr e))))
                  (fun y1256 =>
                    Option.bind (α := Bool)
                      (bif (decide (y1256 < y1208)) then
                        some true
                      else
                        bif (decide (y1256 > (1114111 : Int))) then
                          some true
                        else
                          bif (decide (y1256 ≥ (55296 : Int))) then
                            some (decide (y1256 < (57344 : Int)))
                          else
                            some false)
                      fun y1289 =>
                    bif y1289 then
                      some (Sum.inr (Sum.inr false))
                    else
                      some (Sum.inl (w64 (y1079 + y1207))))
                  (fun e => some (Sum.inr (Sum.inr e)))
theorem utfT_all {s : List UInt8} {i n : Nat} {m c c' : Int} (hn : n ≤ 4) (hs : s.length < 4611686018427387904) (hi : i + n ≤ s.length) (h : loop (utfB s i n) (c, 1) = some (.inl c')) :
  utfT s i n m c = some (if c' < m ∨ c' > 1114111 ∨ (55296 ≤ c' ∧ c' < 57344) then .inr (.inr false) else .inl ((i + n : Nat) : Int)) := by
 unfold utfT
 rw [w64_id (n := (i : Int) + n) (by omega) (by omega), bif_decF (show ¬ ((i : Int) + n > (s.length : Int)) by omega), h, bind_some', Sum.elim_inl, bindE_l]
 by_cases h1 : c' < m
 ·rw [bif_decT h1, bind_some', cond_true, if_pos (.inl h1)]
 rw [bif_decF h1]
 by_cases h2 : c' > 1114111
 ·rw [bif_decT h2, bind_some', cond_true, if_pos (.inr (.inl h2))]
 rw [bif_decF h2]
 by_cases h3 : c' ≥ 55296
 ·rw [bif_decT h3, bind_some']
  by_cases h4 : c' < 57344
  ·rw [bif_decT h4, if_pos (.inr (.inr ⟨h3, h4⟩))]
  ·rw [bif_decF h4, if_neg (by omega)]; rfl
 ·rw [bif_decF h3, bind_some', cond_false, if_neg (by omega)]; rfl
theorem utfT_no {s : List UInt8} {i n : Nat} {m c : Int} (hn : n ≤ 4) (hs : s.length < 4611686018427387904) (hi : i + n ≤ s.length) (h : loop (utfB s i n) (c, 1) = some (.inr false)) :
  utfT s i n m c = some (.inr (.inr false)) := by
 unfold utfT
 rw [w64_id (n := (i : Int) + n) (by omega) (by omega), bif_decF (show ¬ ((i : Int) + n > (s.length : Int)) by omega), h, bind_some', Sum.elim_inr, bindE_r]
theorem utfT_short {s : List UInt8} {i n : Nat} {m c : Int} (hn : n ≤ 4) (hs : s.length < 4611686018427387904) (hi : i ≤ s.length) (hi : ¬ i + n ≤ s.length) : utfT s i n m c = some (.inr (.inr false)) := by
 unfold utfT
 rw [w64_id (n := (i : Int) + n) (by omega) (by omega), bif_decT (show ((i : Int) + n > (s.length : Int)) by omega)]
theorem ref06_utf8_eq (s : List UInt8) (hs : s.length < 4611686018427387904) : ref06_utf8 s = some (Go.Lib.validD s) := by
 unfold ref06_utf8
 refine Eq.trans (congrArg (fun x => bindE (Y := Unit) (E := Bool) (Option.bind (α := Unit ⊕ Bool) x (Sum.elim (fun e => some (Sum.inl e)) (fun e => some (Sum.inr e)))) (fun _ => some true) (fun e => some e))
  (loop_by (fun y : Int => ∃ i : Nat, y = i ∧ i ≤ s.length) (fun y => s.length - y.toNat) (fun y => if Go.Lib.validD (s.drop y.toNat) = true then .inl () else .inr false) ?_ 0 ⟨0, rfl, by omega⟩)) ?_
 ·rintro y ⟨i, rfl, hi⟩
  rcases Nat.lt_or_ge i s.length with hlt | hge
  rotate_left
  ·right
   have : i = s.length := by omega
   subst this
   simp only [ltI, Nat.lt_irrefl, decide_false, cond_false, Int.toNat_natCast, List.drop_length, Go.Lib.validD_nil, if_true]
  have hne : s.drop i ≠ [] := by intro e; have := congrArg List.length e; simp at this; omega
  have hv := validD_utfN (s.drop i) hne
  have hlen : (s.drop i).length = s.length - i := by simp
  have hd : ∀ k, (s.drop i).getD k 0 = s.getD (i + k) 0 := fun k => Go.Lib.getD_dropU s i k
  have hg : getI s (i : Int) = some (s.getD i 0) := by
   rw [getI_at hlt, List.getD_eq_getElem?_getD, List.getElem?_eq_getElem hlt]; rfl
  have hb := (s.getD i 0).toNat_lt
  -- what a round must show
  suffices hB : ∀ B : Option (Int ⊕ (Unit ⊕ Bool)), B = some (if utfN (s.drop i) = 0 then .inr (.inr false) else .inl ((i + utfN (s.drop i) : Nat) : Int)) → utfN (s.drop i) ≤ s.length - i →
    (∃ y', B = some (.inl y') ∧ (∃ j : Nat, y' = j ∧ j ≤ s.length) ∧ s.length - y'.toNat < s.length - ((i : Int)).toNat ∧ (if Go.Lib.validD (s.drop y'.toNat) = true then Sum.inl () else Sum.inr false) = (if Go.Lib.validD (s.drop ((i : Int)).toNat) = true then Sum.inl () else Sum.inr false)) ∨ B = some (.inr (if Go.Lib.validD (s.drop ((i : Int)).toNat) = true then .inl () else .inr false)) by
   have hle : utfN (s.drop i) ≤ s.length - i := by
    rcases Nat.lt_or_ge (s.getD i 0).toNat 128 with c1 | c1
    ·rw [utfN_1 _ (by rw [hd]; exact c1)]; omega
    rcases Nat.lt_or_ge (s.getD i 0).toNat 194 with c2 | c2
    ·rw [utfN_bad _ (by rw [hd, Nat.add_zero]; omega)]; omega
    rcases Nat.lt_or_ge (s.getD i 0).toNat 224 with c3 | c3
    ·rw [utfN_2 _ (by rw [hd, Nat.add_zero]; omega)]; split <;> omega
    rcases Nat.lt_or_ge (s.getD i 0).toNat 240 with c4 | c4
    ·rw [utfN_3 _ (by rw [hd, Nat.add_zero]; omega)]; split <;> omega
    rcases Nat.lt_or_ge (s.getD i 0).toNat 245 with c5 | c5
    ·rw [utfN_4 _ (by rw [hd, Nat.add_zero]; omega)]; split <;> omega
    ·rw [utfN_bad _ (by rw [hd, Nat.add_zero]; omega)]; omega
   refine hB _ ?_ hle
   rw [ltI, decide_eq_true hlt, cond_true, hg, bind_some']
   have d0 := hd 0
   rw [Nat.add_zero] at d0
   have d1 := hd 1
   have d2 := hd 2
   have d3 := hd 3
   have b1 := (s.getD (i + 1) 0).toNat_lt
   have b2 := (s.getD (i + 2) 0).toNat_lt
   have b3 := (s.getD (i + 3) 0).toNat_lt
   rcases Nat.lt_or_ge (s.getD i 0).toNat 128 with c1 | c1
   ·have hu := utfN_1 (s.drop i) (by rw [d0]; exact c1)
    rw [hu, bif_decT (show ((s.getD i 0).toNat : Int) < 128 by omega), bindE_l]
    refine (utfT_all (n := 1) (by omega) hs (by omega) (utf_end s i 1 _)).trans ?_
    rw [if_neg (by omega), if_neg (by omega)]
   rw [bif_decF (show ¬ (((s.getD i 0).toNat : Int) < 128) by omega)]
   rcases Nat.lt_or_ge (s.getD i 0).toNat 194 with c2 | c2
   ·have hu := utfN_bad (s.drop i) (by rw [d0]; omega)
    rw [hu, bif_decF (show ¬ (((s.getD i 0).toNat : Int) ≥ 194) by omega), bind_some', cond_false, bif_decF (show ¬ (((s.getD i 0).toNat : Int) ≥ 224) by omega), bind_some', cond_false, bif_decF (show ¬ (((s.getD i 0).toNat : Int) ≥ 240) by omega), bind_some', cond_false]
    rfl
   rw [bif_decT (show (((s.getD i 0).toNat : Int) ≥ 194) by omega), bind_some']
   rcases Nat.lt_or_ge (s.getD i 0).toNat 224 with c3 | c3
   ·have hu := utfN_2 (s.drop i) (by rw [d0]; omega)
    rw [d1, hlen] at hu
    rw [bif_decT (show (((s.getD i 0).toNat : Int) < 224) by omega), bindE_l]
    show utfT s i (2 : Nat) 128 _ = _
    by_cases hn : i + 2 ≤ s.length
    ·rw [w64_id (n := ((s.getD i 0).toNat : Int) - 192) (by omega) (by omega)]
     have q := utf_more s i 2 1 (((s.getD i 0).toNat : Int) - 192) (s.getD (i + 1) 0) (by omega) (by omega) (by omega) (by omega) hs (by omega) rfl
     by_cases t1 : (s.getD (i + 1) 0).toNat / 64 = 2
     ·rw [if_pos t1] at q
      refine (utfT_all (n := 2) (by omega) hs (by omega) (q.trans (utf_end s i 2 _))).trans ?_
      rw [hu, if_pos (show 1 < s.length - i ∧ (s.getD (i + 1) 0).toNat / 64 = 2 by omega)]
      split
      ·exfalso; omega
      ·rfl
     ·rw [if_neg t1] at q
      refine (utfT_no (n := 2) (by omega) hs (by omega) q).trans ?_
      rw [show utfN (s.drop i) = 0 by rw [hu]; exact if_neg (by omega)]
      rfl
    ·rw [show utfN (s.drop i) = 0 by rw [hu]; exact if_neg (by omega)]
     exact utfT_short (by omega) hs hi hn
   rw [bif_decF (show ¬ (((s.getD i 0).toNat : Int) < 224) by omega), bif_decT (show (((s.getD i 0).toNat : Int) ≥ 224) by omega), bind_some']
   rcases Nat.lt_or_ge (s.getD i 0).toNat 240 with c4 | c4
   ·have hu := utfN_3 (s.drop i) (by rw [d0]; omega)
    rw [d0, d1, d2, hlen] at hu
    rw [bif_decT (show (((s.getD i 0).toNat : Int) < 240) by omega), bindE_l]
    show utfT s i (3 : Nat) 2048 _ = _
    by_cases hn : i + 3 ≤ s.length
    ·rw [w64_id (n := ((s.getD i 0).toNat : Int) - 224) (by omega) (by omega)]
     have q := utf_more s i 3 1 (((s.getD i 0).toNat : Int) - 224) (s.getD (i + 1) 0) (by omega) (by omega) (by omega) (by omega) hs (by omega) rfl
     by_cases t1 : (s.getD (i + 1) 0).toNat / 64 = 2
     ·rw [if_pos t1] at q
      have q2 := utf_more s i 3 2 ((((s.getD i 0).toNat : Int) - 224) * 64 + ((s.getD (i + 1) 0).toNat : Int) - 128) (s.getD (i + 2) 0) (by omega) (by omega) (by omega) (by omega) hs (by omega) rfl
      by_cases t2 : (s.getD (i + 2) 0).toNat / 64 = 2
      ·rw [if_pos t2] at q2
       refine (utfT_all (n := 3) (by omega) hs (by omega) (q.trans (q2.trans (utf_end s i 3 _)))).trans ?_
       split
       ·rw [show utfN (s.drop i) = 0 by rw [hu]; exact if_neg (by omega)]
        rfl
       ·rw [show utfN (s.drop i) = 3 by rw [hu]; exact if_pos (by omega)]
        rfl
      ·rw [if_neg t2] at q2
       refine (utfT_no (n := 3) (by omega) hs (by omega) (q.trans q2)).trans ?_
       rw [show utfN (s.drop i) = 0 by rw [hu]; exact if_neg (by omega)]
       rfl
     ·rw [if_neg t1] at q
      refine (utfT_no (n := 3) (by omega) hs (by omega) q).trans ?_
      rw [show utfN (s.drop i) = 0 by rw [hu]; exact if_neg (by omega)]
      rfl
    ·rw [show utfN (s.drop i) = 0 by rw [hu]; exact if_neg (by omega)]
     exact utfT_short (by omega) hs hi hn
   rw [bif_decF (show ¬ (((s.getD i 0).toNat : Int) < 240) by omega), bif_decT (show (((s.getD i 0).toNat : Int) ≥ 240) by omega), bind_some']
   rcases Nat.lt_or_ge (s.getD i 0).toNat 245 with c5 | c5
   ·have hu := utfN_4 (s.drop i) (by rw [d0]; omega)
    rw [d0, d1, d2, d3, hlen] at hu
    rw [bif_decT (show (((s.getD i 0).toNat : Int) < 245) by omega), bindE_l]
    show utfT s i (4 : Nat) 65536 _ = _
    by_cases hn : i + 4 ≤ s.length
    ·rw [w64_id (n := ((s.getD i 0).toNat : Int) - 240) (by omega) (by omega)]
     have q := utf_more s i 4 1 (((s.getD i 0).toNat : Int) - 240) (s.getD (i + 1) 0) (by omega) (by omega) (by omega) (by omega) hs (by omega) rfl
     by_cases t1 : (s.getD (i + 1) 0).toNat / 64 = 2
     ·rw [if_pos t1] at q
      have q2 := utf_more s i 4 2 ((((s.getD i 0).toNat : Int) - 240) * 64 + ((s.getD (i + 1) 0).toNat : Int) - 128) (s.getD (i + 2) 0) (by omega) (by omega) (by omega) (by omega) hs (by omega) rfl
      by_cases t2 : (s.getD (i + 2) 0).toNat / 64 = 2
      ·rw [if_pos t2] at q2
       have q3 := utf_more s i 4 3 (((((s.getD i 0).toNat : Int) - 240) * 64 + ((s.getD (i + 1) 0).toNat : Int) - 128) * 64 + ((s.getD (i + 2) 0).toNat : Int) - 128) (s.getD (i + 3) 0) (by omega) (by omega) (by omega) (by omega) hs (by omega) rfl
       by_cases t3 : (s.getD (i + 3) 0).toNat / 64 = 2
       ·rw [if_pos t3] at q3
        refine (utfT_all (n := 4) (by omega) hs (by omega) (q.trans (q2.trans (q3.trans (utf_end s i 4 _))))).trans ?_
        split
        ·rw [show utfN (s.drop i) = 0 by rw [hu]; exact if_neg (by omega)]
         rfl
        ·rw [show utfN (s.drop i) = 4 by rw [hu]; exact if_pos (by omega)]
         rfl
       ·rw [if_neg t3] at q3
        refine (utfT_no (n := 4) (by omega) hs (by omega) (q.trans (q2.trans q3))).trans ?_
        rw [show utfN (s.drop i) = 0 by rw [hu]; exact if_neg (by omega)]
        rfl
      ·rw [if_neg t2] at q2
       refine (utfT_no (n := 4) (by omega) hs (by omega) (q.trans q2)).trans ?_
       rw [show utfN (s.drop i) = 0 by rw [hu]; exact if_neg (by omega)]
       rfl
     ·rw [if_neg t1] at q
      refine (utfT_no (n := 4) (by omega) hs (by omega) q).trans ?_
      rw [show utfN (s.drop i) = 0 by rw [hu]; exact if_neg (by omega)]
      rfl
    ·rw [show utfN (s.drop i) = 0 by rw [hu]; exact if_neg (by omega)]
     exact utfT_short (by omega) hs hi hn
   ·have hu := utfN_bad (s.drop i) (by rw [d0]; omega)
    rw [hu, bif_decF (show ¬ (((s.getD i 0).toNat : Int) < 245) by omega)]
    rfl
  intro B hB hle
  rw [Int.toNat_natCast, hv]
  by_cases h0 : utfN (s.drop i) = 0
  ·right; rw [hB, if_pos h0, if_pos h0]; rfl
  ·left
   rw [if_neg h0] at hB
   refine ⟨_, hB, ⟨_, rfl, by omega⟩, by rw [Int.toNat_natCast]; omega, ?_⟩
   rw [Int.toNat_natCast, if_neg h0, List.drop_drop]
 ·simp only [Int.toNat_zero, List.drop_zero]
  by_cases h : Go.Lib.validD s = true
  ·rw [h]; rfl
  ·rw [if_neg h, Bool.eq_false_iff.2 h]; rfl
theorem ref06_Valid_eq (v : ApiValue) (h : v.S.length < 4611686018427387904) : ref06_Valid v = some (val v) := by
 have e1 := ref06_utf8_eq v.S h
 have e2 : ((v.S.length : Int) ≤ 64) = (v.S.length ≤ 64) := propext (by omega)
 obtain ⟨K, N, S⟩ := v
 unfold ref06_Valid val
 simp only [e1, e2, Bool.and_true] at *
 by_cases k0 : K = 0
 ·subst k0; cases hN : (N == 0) <;> simp [hN]
 by_cases k1 : K = 1
 ·subst k1; simp
 by_cases k2 : K = 2
 ·subst k2; simp
 by_cases k3 : K = 3
 ·subst k3; by_cases hN : N < 2 <;> simp [hN]
 by_cases k4 : K = 4
 ·subst k4; cases hN : (N == 0) <;> simp [hN]
 by_cases k5 : K = 5
 ·subst k5; cases hN : (N == 0) <;> by_cases hS : S.length ≤ 64 <;> simp [hN, hS, e1]
 simp [beq_eq_false_iff_ne.2 k0, beq_eq_false_iff_ne.2 k1, beq_eq_false_iff_ne.2 k2, beq_eq_false_iff_ne.2 k3, beq_eq_false_iff_ne.2 k4, beq_eq_false_iff_ne.2 k5]
end Lv
/- Plain laws of layer 07: keys of values, keys of lists. -/
namespace Lv
open Go Go.Proofs
set_option linter.unusedVariables false
set_option linter.unusedSimpArgs false
set_option linter.unusedSectionVars false
set_option maxRecDepth 100000
variable [BaseTab]
end Lv
/- Plain laws of layer 07: the program's keys and the document's. -/
namespace Lv
open Go Go.Proofs
set_option linter.unusedVariables false
set_option linter.unusedSimpArgs false
set_option linter.unusedSectionVars false
set_option maxRecDepth 100000
variable [BaseTab]
end Lv
/- Plain laws of layer 07: keys of lists. -/
namespace Lv
open Go Go.Proofs
set_option linter.unusedVariables false
set_option linter.unusedSimpArgs false
set_option linter.unusedSectionVars false
set_option maxRecDepth 100000
variable [BaseTab]
end Lv
/- Plain laws of layer 07: the span of what begins with a text. -/
namespace Lv
open Go Go.Proofs
set_option linter.unusedVariables false
set_option linter.unusedSimpArgs false
set_option linter.unusedSectionVars false
set_option maxRecDepth 100000
variable [BaseTab]
end Lv
/- Plain laws: names, columns, what fits them. -/
namespace Lv
open Go Go.Proofs
set_option linter.unusedVariables false
set_option linter.unusedSimpArgs false
set_option linter.unusedSectionVars false
set_option maxRecDepth 100000
variable [BaseTab]
def letter (c : UInt8) : Bool := decide (97 ≤ c) && decide (c ≤ 122)
def nchar (c : UInt8) : Bool := letter c || c == 95 || (decide (48 ≤ c) && decide (c ≤ 57))
def nameS : List UInt8 → Bool
 | [] => false
 | c :: r => decide (r.length < 16) && (letter c && r.all nchar)
theorem nall (l : List UInt8) : (l.any fun c => !nchar c) = !l.all nchar := by induction l <;> simp_all [List.any_cons, List.all_cons]
theorem value_Name_eq (s : List UInt8) (hs : s.length < 4611686018427387904) : value_Name s = some (nameS s) := by
 unfold value_Name
 cases s with
 | nil => rfl
 | cons c r =>
  have hlen : (c :: r).length = r.length + 1 := rfl
  refine bo (a := decide (r.length ≥ 16)) ?_ ?_
  ·rw [show ((c :: r) == ([] : List UInt8)) = false from rfl, cond_false, hlen]; congr 1; exact decI (by omega)
  by_cases h16 : r.length ≥ 16
  ·rw [bif_decT h16]; simp only [nameS]; rw [decide_eq_false (by omega)]; rfl
  rw [bif_decF h16]
  have e1 : nameS (c :: r) = (letter c && r.all nchar) := by simp only [nameS]; rw [decide_eq_true (by omega)]; rfl
  rw [e1]
  refine lpE (w := if (letter c && r.all nchar) = true then .inl () else .inr false) (nmB fun B hB => ?_) ?_
  rotate_left
  ·cases (letter c && r.all nchar) <;> rfl
  have step : ∀ (i : Nat) (x : UInt8), i < (c :: r).length → (c :: r)[i]? = some x → B (i : Int) = some (if (if i = 0 then !letter x else !nchar x) = true then .inr (.inr false) else .inl ((i + 1 : Nat) : Int)) := by
   intro i x hi hx
   rw [hB]
   show (bif _ then _ else _) = _
   rw [bif_decT (by omega), getI_nat, hx, bind_some', show ((i : Int) == 0) = decide (i = 0) by rw [Bool.eq_iff_iff]; simp, w64_succ (by omega)]
   generalize ((i + 1 : Nat) : Int) = k
   by_cases h0 : i = 0
   ·simp only [h0, decide_true, if_true]
    clear hx
    refine bo (a := letter x) ?_ ?_
    ·revert x; exact u8F (by decide +kernel)
    ·cases letter x <;> rfl
   ·simp only [h0, decide_false, if_false]
    clear hx
    refine bo (a := letter x) ?_ (bo (a := !nchar x) ?_ ?_)
    ·revert x; exact u8F (by decide +kernel)
    ·revert x; exact u8F (by decide +kernel)
    ·cases nchar x <;> rfl
  have s0 := step 0 c (by omega) rfl
  rw [show (0 : Int) = ((0 : Nat) : Int) from rfl]
  cases hc : letter c with
  | false => rw [hc] at s0; exact loop_end s0
  | true =>
   rw [hc] at s0
   rw [loop_step (y' := ((0 + 1 : Nat) : Int)) s0]
   refine (lq3 r (fun c => !nchar c) (.inr false) (.inl ()) (fun i => ((i + 1 : Nat) : Int)) (fun i hi => ?_) ?_ rfl).trans ?_
   ·rw [step (i + 1) r[i] (by omega) (by simp [hi])]
    simp
   ·rw [hB]
    show (bif _ then _ else _) = _
    rw [bif_decF (by omega)]
   ·rw [nall]; cases r.all nchar <;> rfl
theorem ref06_Name_eq (s : List UInt8) (hs : s.length < 4611686018427387904) : ref06_Name s = some (nameS s) := by
 unfold ref06_Name
 cases s with
 | nil => rfl
 | cons c r =>
  have hlen : (c :: r).length = r.length + 1 := rfl
  have e1 : nameS (c :: r) = (decide (r.length < 16) && (letter c && r.all nchar)) := rfl
  rw [e1]
  refine bo (a := !(decide (r.length < 16) && letter c)) ?_ ?_
  ·rw [bif_decF (by omega), show getI (c :: r) 0 = some c from rfl]
   by_cases h16 : r.length < 16
   ·rw [bif_decF (by omega), decide_eq_true h16]
    simp only [bind_some', Bool.true_and]
    clear e1 hlen hs
    revert c; exact u8F (by decide +kernel)
   ·rw [bif_decT (by omega), decide_eq_false h16]; rfl
  by_cases h16 : r.length < 16
  rotate_left
  ·rw [decide_eq_false h16]; rfl
  rw [decide_eq_true h16, Bool.true_and, Bool.true_and]
  cases hc : letter c with
  | false => rfl
  | true =>
   rw [Bool.not_true, cond_false, Bool.true_and]
   refine lpE (w := if r.all nchar = true then .inl () else .inr false) (nmB fun B hB => ?_) ?_
   rotate_left
   ·cases r.all nchar <;> rfl
   refine (lq3 r (fun c => !nchar c) (.inr false) (.inl ()) (fun i => ((i + 1 : Nat) : Int)) (fun i hi => ?_) ?_ rfl).trans ?_
   ·rw [hB]
    show (bif _ then _ else _) = _
    rw [bif_decT (by omega), getI_nat, show (c :: r)[i + 1]? = some r[i] by simp [hi], w64_succ (by omega)]
    generalize ((i + 1 + 1 : Nat) : Int) = k
    generalize r[i] = x
    simp only [bind_some']
    refine bo (a := !nchar x) ?_ ?_
    ·revert x; exact u8F (by decide +kernel)
    ·cases nchar x <;> rfl
   ·rw [hB]
    show (bif _ then _ else _) = _
    rw [bif_decF (by omega)]
   ·rw [nall]; cases r.all nchar <;> rfl
def fitS (c : ApiColumn) (v : ApiValue) : Int :=
 if val v = false then 8 else if v.Kind = 0 then (if c.Nulls = true then 0 else 8) else if v.Kind ≠ c.Kind then 8 else if (v.Kind = 4 ∨ v.Kind = 5) ∧ (v.S.length : Int) > c.Max then 7 else 0
theorem long_eq (k : Int) : value_long k = some (decide (k = 4 ∨ k = 5)) := by
 unfold value_long
 by_cases h : k = 4
 ·subst h; rfl
 ·rw [show (k == 4) = false by simpa using h]
  simp only [cond_false, bind_some', h, false_or]
  congr 1
theorem value_Fits_eq (c : ApiColumn) (v : ApiValue) (h : v.S.length < 4611686018427387904) : value_Fits c v = some (fitS c v) := by
 unfold value_Fits fitS
 rw [value_Valid_eq v h, bind_some']
 cases hv : val v with
 | false => rfl
 | true =>
  simp only [Bool.not_true, cond_false, Bool.true_eq_false, if_false]
  by_cases h0 : v.Kind = 0
  ·rw [show (v.Kind == 0) = true by simpa using h0, if_pos h0]
   cases c.Nulls <;> rfl
  rw [show (v.Kind == 0) = false by simpa using h0, if_neg h0, cond_false]
  by_cases hk : v.Kind = c.Kind
  rotate_left
  ·rw [show (v.Kind != c.Kind) = true by simpa using hk, if_pos hk]; rfl
  rw [show (v.Kind != c.Kind) = false by simpa using hk, if_neg (by simpa using hk), cond_false, long_eq, bind_some']
  by_cases hl : v.Kind = 4 ∨ v.Kind = 5
  ·rw [bif_decT hl, bind_some']
   by_cases hm : (v.S.length : Int) > c.Max
   ·rw [if_pos ⟨hl, hm⟩, bif_decT hm]
   ·rw [if_neg (fun h => hm h.2), bif_decF hm]
  ·rw [bif_decF hl, bind_some', if_neg (fun h => hl h.1)]; rfl
theorem ref06_Fits_eq (c : ApiColumn) (v : ApiValue) (h : v.S.length < 4611686018427387904) : ref06_Fits c v = some (fitS c v) := by
 unfold ref06_Fits fitS
 rw [ref06_Valid_eq v h, bind_some']
 cases hv : val v with
 | false => rfl
 | true =>
  simp only [Bool.not_true, cond_false, Bool.true_eq_false, if_false]
  by_cases h0 : v.Kind = 0
  ·rw [show (v.Kind == 0) = true by simpa using h0, if_pos h0, show (v.Kind != 0) = false by simpa using h0, h0]
   cases c.Nulls <;> rfl
  rw [show (v.Kind == 0) = false by simpa using h0, if_neg h0, show (v.Kind != 0) = true by simpa using h0]
  simp only [cond_false, cond_true, bind_some']
  by_cases hk : v.Kind = c.Kind
  rotate_left
  ·rw [show (v.Kind != c.Kind) = true by simpa using hk, if_pos hk]; rfl
  rw [show (v.Kind != c.Kind) = false by simpa using hk, if_neg (by simpa using hk), cond_false]
  refine bo (a := decide ((v.Kind = 4 ∨ v.Kind = 5) ∧ (v.S.length : Int) > c.Max)) ?_ ?_
  ·by_cases h4 : v.Kind = 4
   ·rw [show (v.Kind == 4) = true by simpa using h4]; simp [h4]
   ·rw [show (v.Kind == 4) = false by simpa using h4]
    by_cases h5 : v.Kind = 5
    ·rw [show (v.Kind == 5) = true by simpa using h5]; simp [h5]
    ·rw [show (v.Kind == 5) = false by simpa using h5]; simp [h4, h5]
  ·by_cases q : (v.Kind = 4 ∨ v.Kind = 5) ∧ (v.S.length : Int) > c.Max
   ·rw [bif_decT q, if_pos q]
   ·rw [bif_decF q, if_neg q]
def colS (c : ApiColumn) : Int :=
 if nameS c.Name = false then 1 else if c.Kind < 1 ∨ c.Kind > 5 then 8 else if (if c.Kind = 4 ∨ c.Kind = 5 then c.Max < 1 ∨ c.Max > 64 else c.Max ≠ 0) then 7 else fitS c c.Default
theorem value_Column_eq (c : ApiColumn) (h : c.Name.length < 4611686018427387904) (h2 : c.Default.S.length < 4611686018427387904) : value_Column c = some (colS c) := by
 unfold value_Column colS
 rw [value_Name_eq _ h, bind_some']
 cases nameS c.Name with
 | false => rfl
 | true =>
  simp only [Bool.not_true, cond_false, Bool.true_eq_false, if_false]
  refine bo (a := decide (c.Kind < 1 ∨ c.Kind > 5)) ?_ ?_
  ·by_cases k1 : c.Kind < 1
   ·rw [bif_decT k1, decide_eq_true (Or.inl k1)]
   ·rw [bif_decF k1]; congr 1; exact decI (by omega)
  by_cases hk : c.Kind < 1 ∨ c.Kind > 5
  ·rw [bif_decT hk, if_pos hk]
  rw [bif_decF hk, if_neg hk]
  simp only [long_eq, bind_some']
  refine bo (a := decide (if c.Kind = 4 ∨ c.Kind = 5 then c.Max < 1 ∨ c.Max > 64 else c.Max ≠ 0)) ?_ ?_
  ·by_cases hl : c.Kind = 4 ∨ c.Kind = 5
   ·simp only [hl, decide_true, cond_true, if_true, Bool.not_true, cond_false]
    by_cases m1 : c.Max < 1
    ·rw [bif_decT m1]; simp [m1]
    ·rw [bif_decF m1]
     by_cases m2 : c.Max > 64
     ·rw [bif_decT m2]; simp [m2]
     ·rw [bif_decF m2]; simp [m1, m2]
   ·simp only [hl, decide_false, cond_false, if_false, Bool.not_false, cond_true]
    congr 1
    by_cases m : c.Max = 0
    ·simp [m]
    ·simp [m]
  by_cases q : (if c.Kind = 4 ∨ c.Kind = 5 then c.Max < 1 ∨ c.Max > 64 else c.Max ≠ 0)
  ·rw [bif_decT q, if_pos q]
  ·rw [bif_decF q, if_neg q, value_Fits_eq _ _ h2, bind_some']
theorem ref06_Column_eq (c : ApiColumn) (h : c.Name.length < 4611686018427387904) (h2 : c.Default.S.length < 4611686018427387904) : ref06_Column c = some (colS c) := by
 unfold ref06_Column colS
 rw [ref06_Name_eq _ h, bind_some']
 cases nameS c.Name with
 | false => rfl
 | true =>
  simp only [Bool.not_true, cond_false, Bool.true_eq_false, if_false]
  refine bo (a := decide (c.Kind < 1 ∨ c.Kind > 5)) ?_ ?_
  ·by_cases k1 : c.Kind < 1
   ·rw [bif_decT k1, decide_eq_true (Or.inl k1)]
   ·rw [bif_decF k1]; congr 1; exact decI (by omega)
  by_cases hk : c.Kind < 1 ∨ c.Kind > 5
  ·rw [bif_decT hk, if_pos hk]
  rw [bif_decF hk, if_neg hk]
  refine bo (a := decide (if c.Kind = 4 ∨ c.Kind = 5 then c.Max < 1 ∨ c.Max > 64 else c.Max ≠ 0)) ?_ ?_
  ·by_cases hl : c.Kind = 4 ∨ c.Kind = 5
   ·rw [bif_decF (by omega), bif_decT (by omega)]
    simp only [hl, if_true]
    by_cases m1 : c.Max < 1
    ·rw [bif_decT m1]; simp [m1]
    ·rw [bif_decF m1]; simp [m1]
   ·rw [bif_decT (by omega)]
    simp only [hl, if_false]
    by_cases m : c.Max = 0
    ·rw [show (c.Max != 0) = false by simpa using m, cond_false, bif_decF (by omega)]; simp [m]
    ·rw [show (c.Max != 0) = true by simpa using m]; simp [m]
  by_cases q : (if c.Kind = 4 ∨ c.Kind = 5 then c.Max < 1 ∨ c.Max > 64 else c.Max ≠ 0)
  ·rw [bif_decT q, if_pos q]
  ·rw [bif_decF q, if_neg q, ref06_Fits_eq _ _ h2, bind_some']
end Lv
/- Plain laws of layer 06: the order of values. -/
namespace Lv
open Go Go.Proofs
set_option linter.unusedVariables false
set_option linter.unusedSimpArgs false
set_option linter.unusedSectionVars false
set_option maxRecDepth 100000
variable [BaseTab]
def sgI (a b : Int) : Int := if a < b then -1 else if b < a then 1 else 0
theorem Compare_int_eq (a b : Int) : cmp_Compare_int a b = some (sgI a b) := by
 unfold cmp_Compare_int sgI
 rw [show cmp_isNaN_int a = some () from rfl, bind_some', show cmp_isNaN_int b = some () from rfl, bind_some', show (a != a) = false by simp, cond_false, show (b != b) = false by simp, cond_false]
 by_cases h : a < b
 ·rw [bif_decT h, if_pos h]
 ·rw [bif_decF h, if_neg h]
  by_cases k : b < a
  ·rw [bif_decT k, if_pos k]
  ·rw [bif_decF k, if_neg k]
theorem Compare_int64_eq (a b : Int) : cmp_Compare_int64 a b = some (sgI a b) := by
 unfold cmp_Compare_int64 sgI
 rw [show cmp_isNaN_int64 a = some () from rfl, bind_some', show cmp_isNaN_int64 b = some () from rfl, bind_some', show (a != a) = false by simp, cond_false, show (b != b) = false by simp, cond_false]
 by_cases h : a < b
 ·rw [bif_decT h, if_pos h]
 ·rw [bif_decF h, if_neg h]
  by_cases k : b < a
  ·rw [bif_decT k, if_pos k]
  ·rw [bif_decF k, if_neg k]
theorem Compare_u64_eq (a b : UInt64) : cmp_Compare_uint64 a b = some (sgI a.toNat b.toNat) := by
 unfold cmp_Compare_uint64 sgI
 rw [show cmp_isNaN_uint64 a = some () from rfl, bind_some', show cmp_isNaN_uint64 b = some () from rfl, bind_some', show (a != a) = false by simp, cond_false, show (b != b) = false by simp, cond_false]
 by_cases h : a < b
 ·rw [bif_decT h, if_pos (by have := UInt64.lt_iff_toNat_lt.1 h; omega)]
 ·rw [bif_decF h, if_neg (by have : ¬ a.toNat < b.toNat := fun q => h (UInt64.lt_iff_toNat_lt.2 q); omega)]
  by_cases k : b < a
  ·rw [bif_decT k, if_pos (by have := UInt64.lt_iff_toNat_lt.1 k; omega)]
  ·rw [bif_decF k, if_neg (by have : ¬ b.toNat < a.toNat := fun q => k (UInt64.lt_iff_toNat_lt.2 q); omega)]
theorem Or3_eq (a b c : Int) : cmp_Or_int [a, b, c] = some (if a ≠ 0 then a else if b ≠ 0 then b else c) := by
 unfold cmp_Or_int
 refine lpE (lq2 [a, b, c] (fun v => if v ≠ 0 then some (.inr v : Unit ⊕ Int) else none) (.inl ()) (fun i => (i : Int)) (fun i hi => ?_) ?_ rfl) ?_
 ·show (bif _ then _ else _) = _
  rw [bif_decT (by omega), getI_at hi, bind_some', w64_succ (by simp at hi; omega)]
  by_cases q : [a, b, c][i] = 0
  ·rw [show ([a, b, c][i] != 0) = false by simpa using q, cond_false, if_neg (by simpa using q)]
  ·rw [show ([a, b, c][i] != 0) = true by simpa using q, cond_true, if_pos q]
 ·show (bif _ then _ else _) = _
  rw [bif_decF (by omega)]
 ·simp only [List.findSome?]
  by_cases ha : a = 0
  ·by_cases hb : b = 0
   ·by_cases hc : c = 0
    ·simp [ha, hb, hc]
    ·simp [ha, hb, hc]
   ·simp [ha, hb]
  ·simp [ha]
def cmpD (a b : ApiValue) : Int := if sgI a.Kind b.Kind = 0 ∧ a.Kind = 1 then sgI (i64u a.N) (i64u b.N) else sgI a.Kind b.Kind
def cmpV (a b : ApiValue) : Int := if cmpD a b ≠ 0 then cmpD a b else if sgI a.N.toNat b.N.toNat ≠ 0 then sgI a.N.toNat b.N.toNat else Go.Lib.compareBytes a.S b.S
theorem value_Cmp_eq (a b : ApiValue) : value_Cmp_1 a b = some (cmpV a b) := by
 unfold value_Cmp_1 cmpV
 rw [Compare_int_eq, bind_some']
 refine bo (a := cmpD a b) ?_ ?_
 ·unfold cmpD
  refine bo (a := decide (sgI a.Kind b.Kind = 0 ∧ a.Kind = 1)) ?_ ?_
  ·by_cases q : sgI a.Kind b.Kind = 0
   ·rw [show (sgI a.Kind b.Kind == 0) = true by simpa using q, cond_true]; simp [q, Bool.beq_eq_decide_eq]
   ·rw [show (sgI a.Kind b.Kind == 0) = false by simpa using q, cond_false]; simp [q]
  ·by_cases q : sgI a.Kind b.Kind = 0 ∧ a.Kind = 1
   ·rw [decide_eq_true q, cond_true, if_pos q, Compare_int64_eq, bind_some']
   ·rw [decide_eq_false q, cond_false, if_neg q]
 ·rw [Compare_u64_eq, bind_some', show cmpF a.S b.S = some (Go.Lib.compareBytes a.S b.S) from rfl, bind_some', Or3_eq, bind_some']
theorem i64_val (n : UInt64) : i64u n = if n.toNat < 9223372036854775808 then (n.toNat : Int) else (n.toNat : Int) - 18446744073709551616 := by
 unfold i64u
 rw [IntKind.wrap_i64]
 have := n.toNat_lt
 split <;> omega
def nk (a : ApiValue) : Int := if a.Kind = 1 then i64u a.N else a.N.toNat
theorem nk_inj {a b : ApiValue} (h : a.Kind = b.Kind) (k : nk a = nk b) : a.N = b.N := by
 unfold nk at k
 rw [← h] at k
 have h1 := a.N.toNat_lt
 have h2 := b.N.toNat_lt
 rw [← UInt64.toNat_inj]
 by_cases q : a.Kind = 1
 ·rw [if_pos q, if_pos q, i64_val, i64_val] at k
  split at k <;> split at k <;> omega
 ·rw [if_neg q, if_neg q] at k
  omega
theorem cmpV_lex (a b : ApiValue) : cmpV a b = if a.Kind ≠ b.Kind then sgI a.Kind b.Kind else if nk a ≠ nk b then sgI (nk a) (nk b) else Go.Lib.compareBytes a.S b.S := by
 have z : ∀ {x y : Int}, sgI x y = 0 ↔ x = y := by intro x y; unfold sgI; split <;> (try split) <;> omega
 unfold cmpV
 by_cases h : a.Kind = b.Kind
 ·rw [if_neg (show ¬ a.Kind ≠ b.Kind by simpa using h)]
  have e0 : sgI a.Kind b.Kind = 0 := z.2 h
  by_cases q : a.Kind = 1
  ·have n1 : nk a = i64u a.N := by unfold nk; rw [if_pos q]
   have n2 : nk b = i64u b.N := by unfold nk; rw [if_pos (h ▸ q)]
   have e : cmpD a b = sgI (nk a) (nk b) := by unfold cmpD; rw [if_pos ⟨e0, q⟩, n1, n2]
   rw [e]
   by_cases w : nk a = nk b
   ·have eN := nk_inj h w
    rw [if_neg (show ¬ sgI (nk a) (nk b) ≠ 0 by simpa using z.2 w), if_neg (show ¬ sgI a.N.toNat b.N.toNat ≠ 0 by rw [eN]; simpa using z.2 rfl), if_neg (show ¬ nk a ≠ nk b by simpa using w)]
   ·rw [if_pos (show sgI (nk a) (nk b) ≠ 0 from fun k => w (z.1 k)), if_pos w]
  ·have n1 : nk a = a.N.toNat := by unfold nk; rw [if_neg q]
   have n2 : nk b = b.N.toNat := by unfold nk; rw [if_neg (h ▸ q)]
   have e : cmpD a b = 0 := by unfold cmpD; rw [if_neg (by simp [q]), e0]
   rw [e, if_neg (show ¬ (0 : Int) ≠ 0 by simp), ← n1, ← n2]
   by_cases w : nk a = nk b
   ·rw [if_neg (show ¬ sgI (nk a) (nk b) ≠ 0 by simpa using z.2 w), if_neg (show ¬ nk a ≠ nk b by simpa using w)]
   ·rw [if_pos (show sgI (nk a) (nk b) ≠ 0 from fun k => w (z.1 k)), if_pos w]
 ·rw [if_pos (show a.Kind ≠ b.Kind from h)]
  have e0 : sgI a.Kind b.Kind ≠ 0 := fun k => h (z.1 k)
  have e : cmpD a b = sgI a.Kind b.Kind := by unfold cmpD; rw [if_neg (by simp [e0])]
  rw [e, if_pos e0]
theorem cb_anti : ∀ a b : List UInt8, Go.Lib.compareBytes b a = - Go.Lib.compareBytes a b
 | [], [] => rfl
 | [], _ :: _ => rfl
 | _ :: _, [] => rfl
 | x :: a, y :: b => by
  have ih := cb_anti a b
  unfold Go.Lib.compareBytes
  simp only [UInt8.lt_iff_toNat_lt]
  rw [ih]
  repeat' split
  all_goals omega
theorem cb_rng : ∀ a b : List UInt8, -1 ≤ Go.Lib.compareBytes a b ∧ Go.Lib.compareBytes a b ≤ 1
 | [], [] => by decide
 | [], _ :: _ => by unfold Go.Lib.compareBytes; omega
 | _ :: _, [] => by unfold Go.Lib.compareBytes; omega
 | x :: a, y :: b => by
  have ih := cb_rng a b
  unfold Go.Lib.compareBytes
  split
  ·omega
  ·split <;> omega
theorem u8_eq {x y : UInt8} (h : ¬ x < y) (k : ¬ y < x) : x = y := by
 rw [← UInt8.toNat_inj]
 have h1 : ¬ x.toNat < y.toNat := fun q => h (UInt8.lt_iff_toNat_lt.2 q)
 have h2 : ¬ y.toNat < x.toNat := fun q => k (UInt8.lt_iff_toNat_lt.2 q)
 omega
theorem cb_zero : ∀ a b : List UInt8, Go.Lib.compareBytes a b = 0 ↔ a = b
 | [], [] => by simp [Go.Lib.compareBytes]
 | [], _ :: _ => by simp [Go.Lib.compareBytes]
 | _ :: _, [] => by simp [Go.Lib.compareBytes]
 | x :: a, y :: b => by
  have ih := cb_zero a b
  unfold Go.Lib.compareBytes
  by_cases h : x < y
  ·rw [if_pos h]
   have : x ≠ y := fun e => by subst e; exact absurd (UInt8.lt_iff_toNat_lt.1 h) (by omega)
   simp [this]
  ·by_cases k : y < x
   ·rw [if_neg h, if_pos k]
    have : x ≠ y := fun e => by subst e; exact absurd (UInt8.lt_iff_toNat_lt.1 k) (by omega)
    simp [this]
   ·rw [if_neg h, if_neg k, ih, u8_eq h k]
    simp
theorem cb_trans : ∀ a b c : List UInt8, Go.Lib.compareBytes a b ≤ 0 → Go.Lib.compareBytes b c ≤ 0 → Go.Lib.compareBytes a c ≤ 0
 | [], _, [], _, _ => by decide
 | [], _, _ :: _, _, _ => by unfold Go.Lib.compareBytes; omega
 | _ :: _, [], _, h, _ => by unfold Go.Lib.compareBytes at h; omega
 | _ :: _, _ :: _, [], _, k => by unfold Go.Lib.compareBytes at k; omega
 | x :: a, y :: b, z :: c, h, k => by
  have ih := cb_trans a b c
  unfold Go.Lib.compareBytes at h k ⊢
  simp only [UInt8.lt_iff_toNat_lt] at h k ⊢
  by_cases h1 : x.toNat < y.toNat
  ·by_cases k1 : y.toNat < z.toNat
   ·rw [if_pos (by omega)]; omega
   ·rw [if_neg k1] at k
    by_cases k2 : z.toNat < y.toNat
    ·rw [if_pos k2] at k; omega
    ·rw [if_pos (by omega)]; omega
  ·rw [if_neg h1] at h
   by_cases h2 : y.toNat < x.toNat
   ·rw [if_pos h2] at h; omega
   ·rw [if_neg h2] at h
    by_cases k1 : y.toNat < z.toNat
    ·rw [if_pos (by omega)]; omega
    ·rw [if_neg k1] at k
     by_cases k2 : z.toNat < y.toNat
     ·rw [if_pos k2] at k; omega
     ·rw [if_neg k2] at k
      rw [if_neg (by omega), if_neg (by omega)]
      exact ih h k
theorem cmpV_le (a b : ApiValue) : cmpV a b ≤ 0 ↔ a.Kind < b.Kind ∨ (a.Kind = b.Kind ∧ (nk a < nk b ∨ (nk a = nk b ∧ Go.Lib.compareBytes a.S b.S ≤ 0))) := by
 rw [cmpV_lex]
 have r := cb_rng a.S b.S
 unfold sgI
 split
 ·split
  ·omega
  ·split <;> omega
 ·split
  ·split
   ·omega
   ·split <;> omega
  ·omega
theorem cmpV_anti (a b : ApiValue) : cmpV b a = - cmpV a b := by
 rw [cmpV_lex, cmpV_lex, cb_anti a.S b.S]
 unfold sgI
 repeat' split
 all_goals omega
theorem cmpV_rng (a b : ApiValue) : -1 ≤ cmpV a b ∧ cmpV a b ≤ 1 := by
 rw [cmpV_lex]
 have r := cb_rng a.S b.S
 unfold sgI
 split
 ·split
  ·omega
  ·split <;> omega
 ·split
  ·split
   ·omega
   ·split <;> omega
  ·omega
theorem cmpV_zero (a b : ApiValue) : cmpV a b = 0 ↔ a = b := by
 have z : ∀ {x y : Int}, sgI x y = 0 ↔ x = y := by intro x y; unfold sgI; split <;> (try split) <;> omega
 rw [cmpV_lex]
 by_cases h : a.Kind = b.Kind
 ·rw [if_neg (by simp [h])]
  by_cases k : nk a = nk b
  ·rw [if_neg (by simp [k]), cb_zero]
   have e := nk_inj h k
   obtain ⟨K, N, S⟩ := a
   obtain ⟨K', N', S'⟩ := b
   simp only at h e
   subst h e
   simp
  ·rw [if_pos k, z]
   exact ⟨fun e => absurd e k, fun e => by rw [e]⟩
 ·rw [if_pos h, z]
  exact ⟨fun e => absurd e h, fun e => by rw [e]⟩
theorem cmpV_trans (a b c : ApiValue) (h : cmpV a b ≤ 0) (k : cmpV b c ≤ 0) : cmpV a c ≤ 0 := by
 rw [cmpV_le] at h k ⊢
 have t := cb_trans a.S b.S c.S
 rcases h with h | ⟨h1, h | ⟨h2, h3⟩⟩ <;> rcases k with k | ⟨k1, k | ⟨k2, k3⟩⟩
 ·exact .inl (by omega)
 ·exact .inl (by omega)
 ·exact .inl (by omega)
 ·exact .inl (by omega)
 ·exact .inr ⟨by omega, .inl (by omega)⟩
 ·exact .inr ⟨by omega, .inl (by omega)⟩
 ·exact .inl (by omega)
 ·exact .inr ⟨by omega, .inl (by omega)⟩
 ·exact .inr ⟨by omega, .inr ⟨by omega, t h3 k3⟩⟩
end Lv
/- Plain laws of layer 06: the order of values, what fits, all of it. -/
namespace Lv
open Go Go.Proofs
set_option linter.unusedVariables false
set_option linter.unusedSimpArgs false
set_option linter.unusedSectionVars false
set_option maxRecDepth 100000
variable [BaseTab]
theorem fitS_ok {c : ApiColumn} {v : ApiValue} (h : fitS c v = 0) : val v = true ∧ (v.Kind = 0 ∨ v.Kind = c.Kind) ∧ ((v.Kind = 4 ∨ v.Kind = 5) → (v.S.length : Int) ≤ c.Max) := by
 unfold fitS at h
 by_cases h1 : val v = false
 ·rw [if_pos h1] at h; cases h
 rw [if_neg h1] at h
 have hv : val v = true := by simpa using h1
 by_cases h2 : v.Kind = 0
 ·exact ⟨hv, .inl h2, fun k => by omega⟩
 rw [if_neg h2] at h
 by_cases h3 : v.Kind ≠ c.Kind
 ·rw [if_pos h3] at h; cases h
 rw [if_neg h3] at h
 by_cases h4 : (v.Kind = 4 ∨ v.Kind = 5) ∧ (v.S.length : Int) > c.Max
 ·rw [if_pos h4] at h; cases h
 exact ⟨hv, .inr (by simpa using h3), fun k => by
  rcases Int.lt_or_le c.Max v.S.length with q | q
  ·exact absurd ⟨k, q⟩ h4
  ·exact q⟩
theorem eqV06 (v w : ApiValue) : eqApiValue v w = decide (v = w) := by
 obtain ⟨a, b, c⟩ := v
 obtain ⟨d, e, f⟩ := w
 simp [eqApiValue, Bool.beq_eq_decide_eq]
omit [BaseTab] in
theorem parse5u : value_Parse ([53, 117] : List UInt8) = some (0, ⟨2, 5, []⟩) := by kernel_rfl
omit [BaseTab] in
theorem text5 : value_Text (ApiValue.mk (5 : Int) (0 : UInt64) ([97, 32, 98] : List UInt8)) = some [34, 97, 92, 50, 48, 98, 34] := by kernel_rfl
theorem awake06 : law06_awake = some true := by
 unfold law06_awake
 rw [parse5u, bind_some']
 refine bo (a := true) ?_ rfl
 show (bif eqApiValue ⟨2, 5, []⟩ ⟨2, 5, []⟩ then _ else _) = _
 rw [eqV06, decide_eq_true rfl, cond_true, text5, bind_some', BEq.rfl, cond_true, value_Cmp_eq, bind_some', show (cmpV ⟨1, 1, []⟩ ⟨0, 0, []⟩ == 1) = true by decide +kernel, cond_true, value_Name_eq _ (by decide), bind_some', show nameS [97, 95, 49] = true by decide +kernel, cond_true, value_Fits_eq _ _ (by decide), bind_some']
 exact congrArg some (by decide +kernel)
theorem ValueOrder_true (a b c : ApiValue) : law06_ValueOrder a b c = some true := by
 unfold law06_ValueOrder
 rw [awake06, bind_some', Bool.not_true, cond_false, value_Cmp_eq, bind_some', value_Cmp_eq, bind_some', value_Cmp_eq, bind_some']
 have r1 := cmpV_rng a b
 have r2 := cmpV_rng b c
 have r3 := cmpV_rng a c
 have t1 := cmpV_trans a b c
 have t2 := cmpV_trans c b a
 rw [cmpV_anti b c, cmpV_anti a b, cmpV_anti a c] at t2
 have z1 : cmpV a b = 0 → cmpV b c = cmpV a c := fun h => by rw [(cmpV_zero a b).1 h]
 refine bo (a := false) ?_ ?_
 ·rw [value_Cmp_eq, bind_some', cmpV_anti a b, w64_id (n := 0 - - cmpV a b) (by omega) (by omega), show (cmpV a b != 0 - - cmpV a b) = false by simp, cond_false]
  have e : (cmpV a b == 0) = eqApiValue a b := by
   rw [eqV06, Bool.beq_eq_decide_eq]
   exact decide_eq_decide.2 (cmpV_zero a b)
  rw [e, show (eqApiValue a b != eqApiValue a b) = false by simp, cond_false, value_Cmp_eq, bind_some', (cmpV_zero a a).2 rfl, show ((0 : Int) != 0) = false from rfl, cond_false, bif_decF (by omega)]
  congr 1
  simp
  omega
 rw [cond_false]
 generalize cmpV a b = x at *
 generalize cmpV b c = y at *
 generalize cmpV a c = z at *
 have hx : x = -1 ∨ x = 0 ∨ x = 1 := by omega
 have hy : y = -1 ∨ y = 0 ∨ y = 1 := by omega
 have hz : z = -1 ∨ z = 0 ∨ z = 1 := by omega
 rcases hx with rfl | rfl | rfl <;> rcases hy with rfl | rfl | rfl <;> rcases hz with rfl | rfl | rfl <;> first
  | rfl
  | (exfalso; revert t1 t2 z1; decide)
theorem cb_lt : ∀ a b : List UInt8, Go.Lib.compareBytes a b = if a = b then 0 else if ltS a b = true then -1 else 1
 | [], [] => rfl
 | [], _ :: _ => by simp [Go.Lib.compareBytes, ltS, Op.bytesLess]
 | _ :: _, [] => by simp [Go.Lib.compareBytes, ltS, Op.bytesLess]
 | x :: a, y :: b => by
  have ih := cb_lt a b
  unfold Go.Lib.compareBytes
  by_cases h : x < y
  ·have : x ≠ y := fun e => by subst e; exact absurd (UInt8.lt_iff_toNat_lt.1 h) (by omega)
   rw [if_pos h, if_neg (by simp [this]), if_pos (by simp [ltS, Op.bytesLess, h])]
  ·by_cases k : y < x
   ·have : x ≠ y := fun e => by subst e; exact absurd (UInt8.lt_iff_toNat_lt.1 k) (by omega)
    rw [if_neg h, if_pos k, if_neg (by simp [this]), if_neg (by simp [ltS, Op.bytesLess, h, this])]
   ·obtain rfl := u8_eq h k
    rw [if_neg h, if_neg k, ih]
    simp [ltS, Op.bytesLess, h]
theorem ref06_Cmp_eq (a b : ApiValue) : ref06_Cmp a b = some (cmpV a b) := by
 unfold ref06_Cmp
 rw [cmpV_lex]
 by_cases h : a.Kind = b.Kind
 rotate_left
 ·rw [show (a.Kind != b.Kind) = true by simpa using h, cond_true, if_pos h]
  unfold sgI
  by_cases q : a.Kind < b.Kind
  ·rw [bif_decT q, if_pos q]
  ·rw [bif_decF q, if_neg q, if_pos (by omega)]
 rw [show (a.Kind != b.Kind) = false by simpa using h, cond_false, if_neg (show ¬ a.Kind ≠ b.Kind by simpa using h)]
 by_cases k : a.N = b.N
 ·have e : nk a = nk b := by unfold nk; rw [h, k]
  rw [show (a.N != b.N) = false by simpa using k, cond_false, if_neg (show ¬ nk a ≠ nk b by simpa using e), cb_lt]
  by_cases s : a.S = b.S
  ·rw [show (a.S == b.S) = true by simpa using s, cond_true, if_pos s]
  ·rw [show (a.S == b.S) = false by simpa using s, cond_false, if_neg s]
   cases ltS a.S b.S <;> rfl
 ·have e : nk a ≠ nk b := fun q => k (nk_inj h q)
  rw [show (a.N != b.N) = true by simpa using k, cond_true, if_pos e]
  refine bo (a := decide (nk a < nk b)) ?_ ?_
  ·unfold nk
   rw [← h]
   by_cases q : a.Kind = 1
   ·rw [show (a.Kind == 1) = true by simpa using q, cond_true, if_pos q, if_pos q]
   ·rw [show (a.Kind == 1) = false by simpa using q, cond_false, if_neg q, if_neg q]
    congr 1
    exact decide_eq_decide.2 ⟨fun w => by have := UInt64.lt_iff_toNat_lt.1 w; omega, fun w => UInt64.lt_iff_toNat_lt.2 (by omega)⟩
  ·unfold sgI
   by_cases q : nk a < nk b
   ·rw [decide_eq_true q, cond_true, if_pos q]
   ·rw [decide_eq_false q, cond_false, if_neg q, if_pos (by omega)]
theorem ValueAll_true (a b : ApiValue) (c : ApiColumn) (ha : a.S.length < 4611686018427387904) (hn : c.Name.length < 4611686018427387904) (hd : c.Default.S.length < 4611686018427387904) : law06_ValueAll a b c = some true := by
 unfold law06_ValueAll
 rw [awake06, bind_some', Bool.not_true, cond_false]
 refine bo (a := true) ?_ rfl
 rw [value_Valid_eq a ha, bind_some', ref06_Valid_eq a ha, bind_some', BEq.rfl, cond_true, value_Cmp_eq, bind_some', ref06_Cmp_eq, bind_some', BEq.rfl, cond_true, value_Name_eq _ hn, bind_some', ref06_Name_eq _ hn, bind_some', BEq.rfl, cond_true,
  value_Fits_eq c a ha, bind_some', ref06_Fits_eq c a ha, bind_some', BEq.rfl, cond_true, value_Column_eq c hn hd, bind_some', ref06_Column_eq c hn hd, bind_some', BEq.rfl]
theorem fit_null (c : ApiColumn) : fitS c ⟨0, 0, []⟩ = if c.Nulls = true then 0 else 8 := by
 unfold fitS
 rw [if_neg (show ¬ val ⟨0, 0, []⟩ = false by decide), if_pos rfl]
theorem fit_of {c : ApiColumn} {v : ApiValue} (h1 : val v = true) (h2 : v.Kind = 0 → c.Nulls = true) (h3 : v.Kind ≠ 0 → v.Kind = c.Kind) (h4 : (v.Kind = 4 ∨ v.Kind = 5) → (v.S.length : Int) ≤ c.Max) : fitS c v = 0 := by
 unfold fitS
 rw [if_neg (show ¬ val v = false by rw [h1]; simp)]
 by_cases k : v.Kind = 0
 ·rw [if_pos k, if_pos (h2 k)]
 ·rw [if_neg k, if_neg (show ¬ v.Kind ≠ c.Kind by simpa using h3 k), if_neg (fun q => by have := h4 q.1; omega)]
theorem fit_nul {c : ApiColumn} {v : ApiValue} (h : fitS c v = 0) (k : v.Kind = 0) : c.Nulls = true := by
 unfold fitS at h
 by_cases q : val v = false
 ·rw [if_pos q] at h; cases h
 ·rw [if_neg q, if_pos k] at h
  by_cases w : c.Nulls = true
  ·exact w
  ·rw [if_neg w] at h; cases h
theorem ValueFits_true (c : ApiColumn) (v : ApiValue) (h : v.S.length < 4611686018427387904) : law06_ValueFits c v = some true := by
 unfold law06_ValueFits
 rw [awake06, bind_some', Bool.not_true, cond_false, value_Fits_eq c v h, bind_some']
 have short : (v.Kind = 4 ∨ v.Kind = 5) → val v = true → (v.S.length : Int) ≤ 64 := fun k hv => by
  unfold val at hv
  simp only [Bool.or_eq_true, Bool.and_eq_true, beq_iff_eq, decide_eq_true_eq] at hv
  omega
 refine bo (a := false) ?_ ?_
 ·by_cases e : fitS c v = 0
  ·have ok := fitS_ok e
   rw [e, show ((0 : Int) == 0) = true from rfl, cond_true, value_Fits_eq _ v h, bind_some', fit_of (c := ⟨c.Name, c.Kind, c.Max, true, c.Default⟩) ok.1 (fun _ => rfl) (fun k => ok.2.1.resolve_left k) ok.2.2, show ((0 : Int) != 0) = false from rfl, cond_false, value_Valid_eq v h, bind_some', ok.1, Bool.not_true, cond_false]
   by_cases m : c.Max ≤ 64
   ·rw [bif_decT m, value_Fits_eq _ v h, bind_some', fit_of (c := ⟨c.Name, c.Kind, 64, c.Nulls, c.Default⟩) ok.1 (fun k => fit_nul (c := c) (v := v) e k) (fun k => ok.2.1.resolve_left k) (fun k => short k ok.1)]
    rfl
   ·rw [bif_decF m]
  ·rw [show (fitS c v == 0) = false by simpa using e, cond_false]
 rw [cond_false]
 refine bo (a := false) ?_ ?_
 ·rw [value_Fits_eq _ _ (by decide), bind_some', fit_null, value_Fits_eq _ _ (by decide), fit_null]
  cases c.Nulls <;> rfl
 rw [cond_false]
 refine bo (a := false) ?_ ?_
 ·by_cases e : fitS c v = 0
  ·have ok := fitS_ok e
   rw [e, show ((0 : Int) == 0) = true from rfl, cond_true]
   by_cases k : v.Kind = 0
   ·rw [show (v.Kind != 0) = false by simpa using k, cond_false]
   ·rw [show (v.Kind != 0) = true by simpa using k, cond_true]
    have kc := ok.2.1.resolve_left k
    by_cases k1 : c.Kind ≥ 1
    ·rw [bif_decT k1]
     by_cases k5 : c.Kind ≤ 5
     ·rw [bif_decT k5, value_Fits_eq _ v h, bind_some']
      have ne : v.Kind ≠ w64 (Int.tmod c.Kind 5 + 1) := by
       rw [kc]
       have : c.Kind = 1 ∨ c.Kind = 2 ∨ c.Kind = 3 ∨ c.Kind = 4 ∨ c.Kind = 5 := by omega
       rcases this with q | q | q | q | q <;> rw [q] <;> decide +kernel
      have : fitS ⟨c.Name, w64 (Int.tmod c.Kind 5 + 1), c.Max, c.Nulls, c.Default⟩ v = 8 := by
       unfold fitS
       rw [if_neg (show ¬ val v = false by rw [ok.1]; simp), if_neg k, if_pos ne]
      rw [this]
      rfl
     ·rw [bif_decF k5]
    ·rw [bif_decF k1]
  ·rw [show (fitS c v == 0) = false by simpa using e, cond_false]
 rw [cond_false]
 refine bo (a := true) ?_ rfl
 rw [value_Valid_eq v h, bind_some']
 cases q : val v with
 | true => rfl
 | false =>
  rw [cond_false]
  unfold fitS
  rw [if_pos q]
  rfl
end Lv
