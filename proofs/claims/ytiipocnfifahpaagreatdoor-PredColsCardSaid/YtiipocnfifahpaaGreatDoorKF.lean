/- Part of the proof of a law. -/
import Derived.Test.YtiipocnfifahpaaGreatDoorXAll
import Derived.Test.YtiipocnfifahpaaGreatDoorGwPlain
import Derived.Lib.ValidLaws
import Derived.Test.YtiipocnfifahpaaGreatDoorGwQ
import Derived.Test.YtiipocnfifahpaaGreatDoorXOk
import Derived.Test.YtiipocnfifahpaaGreatDoorKK20
set_option linter.unusedVariables false
set_option linter.unusedSimpArgs false
set_option linter.unusedSectionVars false
set_option maxRecDepth 100000
namespace Lv
open Go Go.Proofs
variable [BaseTab]
def val (v : ApiValue) : Bool :=
 (v.Kind == 0 && (v.N == 0 && v.S == [])) || ((v.Kind == 1 || v.Kind == 2) && v.S == []) || (v.Kind == 3 && (decide (v.N < 2) && v.S == [])) ||
 (v.Kind == 4 && (v.N == 0 && decide (v.S.length ≤ 64))) || (v.Kind == 5 && (v.N == 0 && (decide (v.S.length ≤ 64) && Go.Lib.validD v.S)))
theorem value_Valid_eq (v : ApiValue) (h : v.S.length < 4611686018427387904) : value_Valid v = some (val v) := by
 have e1 : validF v.S = some (Go.Lib.validD v.S) := by unfold validF; rw [if_pos (by omega)]
 have e2 : ((v.S.length : Int) ≤ 64) = (v.S.length ≤ 64) := propext (by omega)
 have e3 : (v.N ≤ 1) = (v.N < 2) := propext (by rw [UInt64.le_iff_toNat_le, UInt64.lt_iff_toNat_lt]; show _ ≤ 1 ↔ _ < 2; omega)
 obtain ⟨K, N, S⟩ := v
 unfold value_Valid val
 simp only [e1, e2, e3, eqApiValue, Bool.and_true] at *
 by_cases k0 : K = 0
 ·subst k0; simp
 by_cases k1 : K = 1
 ·subst k1; simp
 by_cases k2 : K = 2
 ·subst k2; simp
 by_cases k3 : K = 3
 ·subst k3; by_cases hN : N < 2 <;> simp [hN]
 by_cases k4 : K = 4
 ·subst k4; cases hN : (N == 0) <;> simp [hN]
 by_cases k5 : K = 5
 ·subst k5; cases hN : (N == 0) <;> by_cases hS : S.length ≤ 64 <;> simp [hN, hS]
 simp [beq_eq_false_iff_ne.2 k0, beq_eq_false_iff_ne.2 k1, beq_eq_false_iff_ne.2 k2, beq_eq_false_iff_ne.2 k3, beq_eq_false_iff_ne.2 k4, beq_eq_false_iff_ne.2 k5]
def utfB (s : List UInt8) (i n : Int) : Int × Int → Option ((Int × Int) ⊕ (Int ⊕ Bool)) := fun (y1265, y1266) =>
                      bif (decide (y1266 < n)) then
                        Option.bind (getI s (w64 (i + y1266))) fun v1279 =>
                        Option.bind (α := Bool)
                          (bif (decide ((v1279.toNat : Int) < (128 : Int))) then
                            some true
                          else
                            some (decide ((v1279.toNat : Int) ≥ (192 : Int))))
                          fun y1281 =>
                        bif y1281 then
                          some (Sum.inr (Sum.inr false))
                        else
                          some (Sum.inl ((w64 ((w64 ((w64 (y1265 * (64 : Int))) + (v1279.toNat : Int))) - (128 : Int))), (w64 (y1266 + (1 : Int)))))
                      else
                        some (Sum.inr (Sum.inl y1265))
theorem utf_more (s : List UInt8) (i : Nat) (n k c : Int) (b : UInt8) (hk : 0 ≤ k) (hn : k < n) (hn4 : n ≤ 4) (hi : i + k.toNat < s.length) (hs : s.length < 4611686018427387904) (hc : 0 ≤ c ∧ c < 4294967296) (hb : s.getD (i + k.toNat) 0 = b) :
  loop (utfB s i n) (c, k) = if b.toNat / 64 = 2 then loop (utfB s i n) (c * 64 + (b.toNat : Int) - 128, k + 1) else some (.inr false) := by
 have hg : getI s (w64 ((i : Int) + k)) = some b := by
  rw [w64_id (by omega) (by omega)]
  unfold getI
  rw [if_pos (by omega), show ((i : Int) + k).toNat = i + k.toNat by omega, List.getElem?_eq_getElem hi]
  rw [List.getD_eq_getElem?_getD, List.getElem?_eq_getElem hi] at hb
  exact congrArg some hb
 have hlt := b.toNat_lt
 by_cases h : b.toNat / 64 = 2
 ·rw [if_pos h]
  refine loop_step ?_
  show (bif (decide (k < n)) then _ else _) = _
  rw [decide_eq_true hn, cond_true, hg, bind_some', bif_decF (show ¬ ((b.toNat : Int) < 128) by omega), bind_some', bif_decF (show ¬ ((b.toNat : Int) ≥ 192) by omega)]
  rw [w64_id (n := c * 64) (by omega) (by omega), w64_id (n := c * 64 + _) (by omega) (by omega), w64_id (n := c * 64 + _ - _) (by omega) (by omega), w64_id (n := k + 1) (by omega) (by omega)]
 ·rw [if_neg h]
  refine loop_end ?_
  show (bif (decide (k < n)) then _ else _) = _
  rw [decide_eq_true hn, cond_true, hg, bind_some']
  by_cases h2 : b.toNat < 128
  ·rw [bif_decT (show ((b.toNat : Int) < 128) by omega), bind_some', cond_true]
  ·rw [bif_decF (show ¬ ((b.toNat : Int) < 128) by omega), bind_some', bif_decT (show ((b.toNat : Int) ≥ 192) by omega)]
theorem utf_end (s : List UInt8) (i : Nat) (n c : Int) : loop (utfB s i n) (c, n) = some (.inl c) := by
 refine loop_end ?_
 show (bif (decide (n < n)) then _ else _) = _
 rw [bif_decF (show ¬ (n < n) by omega)]
def utfN (l : List UInt8) : Nat :=
 if (Go.Lib.decodeN l.length (l.getD 0 0).toNat (l.getD 1 0).toNat (l.getD 2 0).toNat (l.getD 3 0).toNat).1 = 65533 ∧ (Go.Lib.decodeN l.length (l.getD 0 0).toNat (l.getD 1 0).toNat (l.getD 2 0).toNat (l.getD 3 0).toNat).2 = 1 then 0
 else (Go.Lib.decodeN l.length (l.getD 0 0).toNat (l.getD 1 0).toNat (l.getD 2 0).toNat (l.getD 3 0).toNat).2
theorem validD_utfN (l : List UInt8) (hne : l ≠ []) : Go.Lib.validD l = if utfN l = 0 then false else Go.Lib.validD (l.drop (utfN l)) := by
 have hw := Go.Lib.decodeL_width l
 have hl : 0 < l.length := List.length_pos_iff.2 hne
 rw [Go.Lib.validD_step l hne, Go.Lib.decodeL_N]
 rw [Go.Lib.decodeL_N] at hw
 unfold utfN
 split
 ·simp
 ·rw [if_neg (by omega)]
theorem utfN_1 (l : List UInt8) (h : (l.getD 0 0).toNat < 128) : utfN l = 1 := by
 unfold utfN Go.Lib.decodeN
 rw [if_pos h]
 simp only
 rw [if_neg (by omega)]
theorem utfN_bad (l : List UInt8) (h : (128 ≤ (l.getD 0 0).toNat ∧ (l.getD 0 0).toNat < 194) ∨ 245 ≤ (l.getD 0 0).toNat) : utfN l = 0 := by
 unfold utfN
 have := (l.getD 0 0).toNat_lt
 rw [Go.Lib.decodeN_bad _ _ _ _ _ (by omega)]
 rfl
theorem utfN_2 (l : List UInt8) (h : 194 ≤ (l.getD 0 0).toNat ∧ (l.getD 0 0).toNat < 224) : utfN l = if 1 < l.length ∧ (l.getD 1 0).toNat / 64 = 2 then 2 else 0 := by
 unfold utfN Go.Lib.decodeN
 repeat' split
 all_goals first | rfl | (exfalso; omega) | (simp only at *; omega)
theorem utfN_3 (l : List UInt8) (h : 224 ≤ (l.getD 0 0).toNat ∧ (l.getD 0 0).toNat < 240) : utfN l = if (2 < l.length ∧ (l.getD 1 0).toNat / 64 = 2 ∧ (l.getD 2 0).toNat / 64 = 2) ∧ 2048 ≤ (l.getD 0 0).toNat % 16 * 4096 + (l.getD 1 0).toNat % 64 * 64 + (l.getD 2 0).toNat % 64 ∧ ((l.getD 0 0).toNat % 16 * 4096 + (l.getD 1 0).toNat % 64 * 64 + (l.getD 2 0).toNat % 64 < 55296 ∨ 57344 ≤ (l.getD 0 0).toNat % 16 * 4096 + (l.getD 1 0).toNat % 64 * 64 + (l.getD 2 0).toNat % 64) then 3 else 0 := by
 unfold utfN Go.Lib.decodeN
 repeat' split
 all_goals first | rfl | (exfalso; omega) | (simp only at *; omega)
theorem utfN_4 (l : List UInt8) (h : 240 ≤ (l.getD 0 0).toNat ∧ (l.getD 0 0).toNat < 245) : utfN l = if (3 < l.length ∧ (l.getD 1 0).toNat / 64 = 2 ∧ (l.getD 2 0).toNat / 64 = 2 ∧ (l.getD 3 0).toNat / 64 = 2) ∧ 65536 ≤ (l.getD 0 0).toNat % 8 * 262144 + (l.getD 1 0).toNat % 64 * 4096 + (l.getD 2 0).toNat % 64 * 64 + (l.getD 3 0).toNat % 64 ∧ (l.getD 0 0).toNat % 8 * 262144 + (l.getD 1 0).toNat % 64 * 4096 + (l.getD 2 0).toNat % 64 * 64 + (l.getD 3 0).toNat % 64 ≤ 1114111 then 4 else 0 := by
 unfold utfN Go.Lib.decodeN
 repeat' split
 all_goals first | rfl | (exfalso; omega) | (simp only at *; omega)
theorem decI {p q : Prop} [Decidable p] [Decidable q] (h : p ↔ q) : decide p = decide q := decide_eq_decide.2 h
noncomputable def utfT (p0 : List UInt8) (y1079 y1207 y1208 y1209 : Int) : Option (Int ⊕ (Unit ⊕ Bool)) :=
              bif (decide ((w64 (y1079 + y1207)) > (p0.length : Int))) then
                some (Sum.inr (Sum.inr false))
              else
                bindE (Y := Int) (E := Bool)
                  (Option.bind (α := Int ⊕ Bool) (loop (utfB p0 y1079 y1207) (y1209, (1 : Int)))
                    (Sum.elim (fun e => some (Sum.inl e)) (fun e => some (Sum.inr e))))
                  (fun y1256 =>
                    Option.bind (α := Bool)
                      (bif (decide (y1256 < y1208)) then
                        some true
                      else
                        bif (decide (y1256 > (1114111 : Int))) then
                          some true
                        else
                          bif (decide (y1256 ≥ (55296 : Int))) then
                            some (decide (y1256 < (57344 : Int)))
                          else
                            some false)
                      fun y1289 =>
                    bif y1289 then
                      some (Sum.inr (Sum.inr false))
                    else
                      some (Sum.inl (w64 (y1079 + y1207))))
                  (fun e => some (Sum.inr (Sum.inr e)))
theorem utfT_all {s : List UInt8} {i n : Nat} {m c c' : Int} (hn : n ≤ 4) (hs : s.length < 4611686018427387904) (hi : i + n ≤ s.length) (h : loop (utfB s i n) (c, 1) = some (.inl c')) :
  utfT s i n m c = some (if c' < m ∨ c' > 1114111 ∨ (55296 ≤ c' ∧ c' < 57344) then .inr (.inr false) else .inl ((i + n : Nat) : Int)) := by
 unfold utfT
 rw [w64_id (n := (i : Int) + n) (by omega) (by omega), bif_decF (show ¬ ((i : Int) + n > (s.length : Int)) by omega), h, bind_some', Sum.elim_inl, bindE_l]
 by_cases h1 : c' < m
 ·rw [bif_decT h1, bind_some', cond_true, if_pos (.inl h1)]
 rw [bif_decF h1]
 by_cases h2 : c' > 1114111
 ·rw [bif_decT h2, bind_some', cond_true, if_pos (.inr (.inl h2))]
 rw [bif_decF h2]
 by_cases h3 : c' ≥ 55296
 ·rw [bif_decT h3, bind_some']
  by_cases h4 : c' < 57344
  ·rw [bif_decT h4, if_pos (.inr (.inr ⟨h3, h4⟩))]
  ·rw [bif_decF h4, if_neg (by omega)]; rfl
 ·rw [bif_decF h3, bind_some', cond_false, if_neg (by omega)]; rfl
theorem utfT_no {s : List UInt8} {i n : Nat} {m c : Int} (hn : n ≤ 4) (hs : s.length < 4611686018427387904) (hi : i + n ≤ s.length) (h : loop (utfB s i n) (c, 1) = some (.inr false)) :
  utfT s i n m c = some (.inr (.inr false)) := by
 unfold utfT
 rw [w64_id (n := (i : Int) + n) (by omega) (by omega), bif_decF (show ¬ ((i : Int) + n > (s.length : Int)) by omega), h, bind_some', Sum.elim_inr, bindE_r]
theorem utfT_short {s : List UInt8} {i n : Nat} {m c : Int} (hn : n ≤ 4) (hs : s.length < 4611686018427387904) (hi : i ≤ s.length) (hi : ¬ i + n ≤ s.length) : utfT s i n m c = some (.inr (.inr false)) := by
 unfold utfT
 rw [w64_id (n := (i : Int) + n) (by omega) (by omega), bif_decT (show ((i : Int) + n > (s.length : Int)) by omega)]
theorem ref06_utf8_eq (s : List UInt8) (hs : s.length < 4611686018427387904) : ref06_utf8 s = some (Go.Lib.validD s) := by
 unfold ref06_utf8
 refine Eq.trans (congrArg (fun x => bindE (Y := Unit) (E := Bool) (Option.bind (α := Unit ⊕ Bool) x (Sum.elim (fun e => some (Sum.inl e)) (fun e => some (Sum.inr e)))) (fun _ => some true) (fun e => some e))
  (loop_by (fun y : Int => ∃ i : Nat, y = i ∧ i ≤ s.length) (fun y => s.length - y.toNat) (fun y => if Go.Lib.validD (s.drop y.toNat) = true then .inl () else .inr false) ?_ 0 ⟨0, rfl, by omega⟩)) ?_
 ·rintro y ⟨i, rfl, hi⟩
  rcases Nat.lt_or_ge i s.length with hlt | hge
  rotate_left
  ·right
   have : i = s.length := by omega
   subst this
   simp only [ltI, Nat.lt_irrefl, decide_false, cond_false, Int.toNat_natCast, List.drop_length, Go.Lib.validD_nil, if_true]
  have hne : s.drop i ≠ [] := by intro e; have := congrArg List.length e; simp at this; omega
  have hv := validD_utfN (s.drop i) hne
  have hlen : (s.drop i).length = s.length - i := by simp
  have hd : ∀ k, (s.drop i).getD k 0 = s.getD (i + k) 0 := fun k => Go.Lib.getD_dropU s i k
  have hg : getI s (i : Int) = some (s.getD i 0) := by
   rw [getI_at hlt, List.getD_eq_getElem?_getD, List.getElem?_eq_getElem hlt]; rfl
  have hb := (s.getD i 0).toNat_lt
  -- what a round must show
  suffices hB : ∀ B : Option (Int ⊕ (Unit ⊕ Bool)), B = some (if utfN (s.drop i) = 0 then .inr (.inr false) else .inl ((i + utfN (s.drop i) : Nat) : Int)) → utfN (s.drop i) ≤ s.length - i →
    (∃ y', B = some (.inl y') ∧ (∃ j : Nat, y' = j ∧ j ≤ s.length) ∧ s.length - y'.toNat < s.length - ((i : Int)).toNat ∧ (if Go.Lib.validD (s.drop y'.toNat) = true then Sum.inl () else Sum.inr false) = (if Go.Lib.validD (s.drop ((i : Int)).toNat) = true then Sum.inl () else Sum.inr false)) ∨ B = some (.inr (if Go.Lib.validD (s.drop ((i : Int)).toNat) = true then .inl () else .inr false)) by
   have hle : utfN (s.drop i) ≤ s.length - i := by
    rcases Nat.lt_or_ge (s.getD i 0).toNat 128 with c1 | c1
    ·rw [utfN_1 _ (by rw [hd]; exact c1)]; omega
    rcases Nat.lt_or_ge (s.getD i 0).toNat 194 with c2 | c2
    ·rw [utfN_bad _ (by rw [hd, Nat.add_zero]; omega)]; omega
    rcases Nat.lt_or_ge (s.getD i 0).toNat 224 with c3 | c3
    ·rw [utfN_2 _ (by rw [hd, Nat.add_zero]; omega)]; split <;> omega
    rcases Nat.lt_or_ge (s.getD i 0).toNat 240 with c4 | c4
    ·rw [utfN_3 _ (by rw [hd, Nat.add_zero]; omega)]; split <;> omega
    rcases Nat.lt_or_ge (s.getD i 0).toNat 245 with c5 | c5
    ·rw [utfN_4 _ (by rw [hd, Nat.add_zero]; omega)]; split <;> omega
    ·rw [utfN_bad _ (by rw [hd, Nat.add_zero]; omega)]; omega
   refine hB _ ?_ hle
   rw [ltI, decide_eq_true hlt, cond_true, hg, bind_some']
   have d0 := hd 0
   rw [Nat.add_zero] at d0
   have d1 := hd 1
   have d2 := hd 2
   have d3 := hd 3
   have b1 := (s.getD (i + 1) 0).toNat_lt
   have b2 := (s.getD (i + 2) 0).toNat_lt
   have b3 := (s.getD (i + 3) 0).toNat_lt
   rcases Nat.lt_or_ge (s.getD i 0).toNat 128 with c1 | c1
   ·have hu := utfN_1 (s.drop i) (by rw [d0]; exact c1)
    rw [hu, bif_decT (show ((s.getD i 0).toNat : Int) < 128 by omega), bindE_l]
    refine (utfT_all (n := 1) (by omega) hs (by omega) (utf_end s i 1 _)).trans ?_
    rw [if_neg (by omega), if_neg (by omega)]
   rw [bif_decF (show ¬ (((s.getD i 0).toNat : Int) < 128) by omega)]
   rcases Nat.lt_or_ge (s.getD i 0).toNat 194 with c2 | c2
   ·have hu := utfN_bad (s.drop i) (by rw [d0]; omega)
    rw [hu, bif_decF (show ¬ (((s.getD i 0).toNat : Int) ≥ 194) by omega), bind_some', cond_false, bif_decF (show ¬ (((s.getD i 0).toNat : Int) ≥ 224) by omega), bind_some', cond_false, bif_decF (show ¬ (((s.getD i 0).toNat : Int) ≥ 240) by omega), bind_some', cond_false]
    rfl
   rw [bif_decT (show (((s.getD i 0).toNat : Int) ≥ 194) by omega), bind_some']
   rcases Nat.lt_or_ge (s.getD i 0).toNat 224 with c3 | c3
   ·have hu := utfN_2 (s.drop i) (by rw [d0]; omega)
    rw [d1, hlen] at hu
    rw [bif_decT (show (((s.getD i 0).toNat : Int) < 224) by omega), bindE_l]
    show utfT s i (2 : Nat) 128 _ = _
    by_cases hn : i + 2 ≤ s.length
    ·rw [w64_id (n := ((s.getD i 0).toNat : Int) - 192) (by omega) (by omega)]
     have q := utf_more s i 2 1 (((s.getD i 0).toNat : Int) - 192) (s.getD (i + 1) 0) (by omega) (by omega) (by omega) (by omega) hs (by omega) rfl
     by_cases t1 : (s.getD (i + 1) 0).toNat / 64 = 2
     ·rw [if_pos t1] at q
      refine (utfT_all (n := 2) (by omega) hs (by omega) (q.trans (utf_end s i 2 _))).trans ?_
      rw [hu, if_pos (show 1 < s.length - i ∧ (s.getD (i + 1) 0).toNat / 64 = 2 by omega)]
      split
      ·exfalso; omega
      ·rfl
     ·rw [if_neg t1] at q
      refine (utfT_no (n := 2) (by omega) hs (by omega) q).trans ?_
      rw [show utfN (s.drop i) = 0 by rw [hu]; exact if_neg (by omega)]
      rfl
    ·rw [show utfN (s.drop i) = 0 by rw [hu]; exact if_neg (by omega)]
     exact utfT_short (by omega) hs hi hn
   rw [bif_decF (show ¬ (((s.getD i 0).toNat : Int) < 224) by omega), bif_decT (show (((s.getD i 0).toNat : Int) ≥ 224) by omega), bind_some']
   rcases Nat.lt_or_ge (s.getD i 0).toNat 240 with c4 | c4
   ·have hu := utfN_3 (s.drop i) (by rw [d0]; omega)
    rw [d0, d1, d2, hlen] at hu
    rw [bif_decT (show (((s.getD i 0).toNat : Int) < 240) by omega), bindE_l]
    show utfT s i (3 : Nat) 2048 _ = _
    by_cases hn : i + 3 ≤ s.length
    ·rw [w64_id (n := ((s.getD i 0).toNat : Int) - 224) (by omega) (by omega)]
     have q := utf_more s i 3 1 (((s.getD i 0).toNat : Int) - 224) (s.getD (i + 1) 0) (by omega) (by omega) (by omega) (by omega) hs (by omega) rfl
     by_cases t1 : (s.getD (i + 1) 0).toNat / 64 = 2
     ·rw [if_pos t1] at q
      have q2 := utf_more s i 3 2 ((((s.getD i 0).toNat : Int) - 224) * 64 + ((s.getD (i + 1) 0).toNat : Int) - 128) (s.getD (i + 2) 0) (by omega) (by omega) (by omega) (by omega) hs (by omega) rfl
      by_cases t2 : (s.getD (i + 2) 0).toNat / 64 = 2
      ·rw [if_pos t2] at q2
       refine (utfT_all (n := 3) (by omega) hs (by omega) (q.trans (q2.trans (utf_end s i 3 _)))).trans ?_
       split
       ·rw [show utfN (s.drop i) = 0 by rw [hu]; exact if_neg (by omega)]
        rfl
       ·rw [show utfN (s.drop i) = 3 by rw [hu]; exact if_pos (by omega)]
        rfl
      ·rw [if_neg t2] at q2
       refine (utfT_no (n := 3) (by omega) hs (by omega) (q.trans q2)).trans ?_
       rw [show utfN (s.drop i) = 0 by rw [hu]; exact if_neg (by omega)]
       rfl
     ·rw [if_neg t1] at q
      refine (utfT_no (n := 3) (by omega) hs (by omega) q).trans ?_
      rw [show utfN (s.drop i) = 0 by rw [hu]; exact if_neg (by omega)]
      rfl
    ·rw [show utfN (s.drop i) = 0 by rw [hu]; exact if_neg (by omega)]
     exact utfT_short (by omega) hs hi hn
   rw [bif_decF (show ¬ (((s.getD i 0).toNat : Int) < 240) by omega), bif_decT (show (((s.getD i 0).toNat : Int) ≥ 240) by omega), bind_some']
   rcases Nat.lt_or_ge (s.getD i 0).toNat 245 with c5 | c5
   ·have hu := utfN_4 (s.drop i) (by rw [d0]; omega)
    rw [d0, d1, d2, d3, hlen] at hu
    rw [bif_decT (show (((s.getD i 0).toNat : Int) < 245) by omega), bindE_l]
    show utfT s i (4 : Nat) 65536 _ = _
    by_cases hn : i + 4 ≤ s.length
    ·rw [w64_id (n := ((s.getD i 0).toNat : Int) - 240) (by omega) (by omega)]
     have q := utf_more s i 4 1 (((s.getD i 0).toNat : Int) - 240) (s.getD (i + 1) 0) (by omega) (by omega) (by omega) (by omega) hs (by omega) rfl
     by_cases t1 : (s.getD (i + 1) 0).toNat / 64 = 2
     ·rw [if_pos t1] at q
      have q2 := utf_more s i 4 2 ((((s.getD i 0).toNat : Int) - 240) * 64 + ((s.getD (i + 1) 0).toNat : Int) - 128) (s.getD (i + 2) 0) (by omega) (by omega) (by omega) (by omega) hs (by omega) rfl
      by_cases t2 : (s.getD (i + 2) 0).toNat / 64 = 2
      ·rw [if_pos t2] at q2
       have q3 := utf_more s i 4 3 (((((s.getD i 0).toNat : Int) - 240) * 64 + ((s.getD (i + 1) 0).toNat : Int) - 128) * 64 + ((s.getD (i + 2) 0).toNat : Int) - 128) (s.getD (i + 3) 0) (by omega) (by omega) (by omega) (by omega) hs (by omega) rfl
       by_cases t3 : (s.getD (i + 3) 0).toNat / 64 = 2
       ·rw [if_pos t3] at q3
        refine (utfT_all (n := 4) (by omega) hs (by omega) (q.trans (q2.trans (q3.trans (utf_end s i 4 _))))).trans ?_
        split
        ·rw [show utfN (s.drop i) = 0 by rw [hu]; exact if_neg (by omega)]
         rfl
        ·rw [show utfN (s.drop i) = 4 by rw [hu]; exact if_pos (by omega)]
         rfl
       ·rw [if_neg t3] at q3
        refine (utfT_no (n := 4) (by omega) hs (by omega) (q.trans (q2.trans q3))).trans ?_
        rw [show utfN (s.drop i) = 0 by rw [hu]; exact if_neg (by omega)]
        rfl
      ·rw [if_neg t2] at q2
       refine (utfT_no (n := 4) (by omega) hs (by omega) (q.trans q2)).trans ?_
       rw [show utfN (s.drop i) = 0 by rw [hu]; exact if_neg (by omega)]
       rfl
     ·rw [if_neg t1] at q
      refine (utfT_no (n := 4) (by omega) hs (by omega) q).trans ?_
      rw [show utfN (s.drop i) = 0 by rw [hu]; exact if_neg (by omega)]
      rfl
    ·rw [show utfN (s.drop i) = 0 by rw [hu]; exact if_neg (by omega)]
     exact utfT_short (by omega) hs hi hn
   ·have hu := utfN_bad (s.drop i) (by rw [d0]; omega)
    rw [hu, bif_decF (show ¬ (((s.getD i 0).toNat : Int) < 245) by omega)]
    rfl
  intro B hB hle
  rw [Int.toNat_natCast, hv]
  by_cases h0 : utfN (s.drop i) = 0
  ·right; rw [hB, if_pos h0, if_pos h0]; rfl
  ·left
   rw [if_neg h0] at hB
   refine ⟨_, hB, ⟨_, rfl, by omega⟩, by rw [Int.toNat_natCast]; omega, ?_⟩
   rw [Int.toNat_natCast, if_neg h0, List.drop_drop]
 ·simp only [Int.toNat_zero, List.drop_zero]
  by_cases h : Go.Lib.validD s = true
  ·rw [h]; rfl
  ·rw [if_neg h, Bool.eq_false_iff.2 h]; rfl
theorem ref06_Valid_eq (v : ApiValue) (h : v.S.length < 4611686018427387904) : ref06_Valid v = some (val v) := by
 have e1 := ref06_utf8_eq v.S h
 have e2 : ((v.S.length : Int) ≤ 64) = (v.S.length ≤ 64) := propext (by omega)
 obtain ⟨K, N, S⟩ := v
 unfold ref06_Valid val
 simp only [e1, e2, Bool.and_true] at *
 by_cases k0 : K = 0
 ·subst k0; cases hN : (N == 0) <;> simp [hN]
 by_cases k1 : K = 1
 ·subst k1; simp
 by_cases k2 : K = 2
 ·subst k2; simp
 by_cases k3 : K = 3
 ·subst k3; by_cases hN : N < 2 <;> simp [hN]
 by_cases k4 : K = 4
 ·subst k4; cases hN : (N == 0) <;> simp [hN]
 by_cases k5 : K = 5
 ·subst k5; cases hN : (N == 0) <;> by_cases hS : S.length ≤ 64 <;> simp [hN, hS, e1]
 simp [beq_eq_false_iff_ne.2 k0, beq_eq_false_iff_ne.2 k1, beq_eq_false_iff_ne.2 k2, beq_eq_false_iff_ne.2 k3, beq_eq_false_iff_ne.2 k4, beq_eq_false_iff_ne.2 k5]
end Lv
namespace Lv
open Go Go.Proofs
variable [BaseTab]
variable [BaseTab]
variable [BaseTab]
variable [BaseTab]
variable [BaseTab]
variable [BaseTab]
variable [BaseTab]
end Lv
namespace Lv
open Go Go.Proofs
variable [BaseTab]
def letter (c : UInt8) : Bool := decide (97 ≤ c) && decide (c ≤ 122)
def nchar (c : UInt8) : Bool := letter c || c == 95 || (decide (48 ≤ c) && decide (c ≤ 57))
def nameS : List UInt8 → Bool
 | [] => false
 | c :: r => decide (r.length < 16) && (letter c && r.all nchar)
theorem nall (l : List UInt8) : (l.any fun c => !nchar c) = !l.all nchar := by induction l <;> simp_all [List.any_cons, List.all_cons]
theorem ref06_Name_eq (s : List UInt8) (hs : s.length < 4611686018427387904) : ref06_Name s = some (nameS s) := by
 unfold ref06_Name
 cases s with
 | nil => rfl
 | cons c r =>
  have hlen : (c :: r).length = r.length + 1 := rfl
  have e1 : nameS (c :: r) = (decide (r.length < 16) && (letter c && r.all nchar)) := rfl
  rw [e1]
  refine bo (a := !(decide (r.length < 16) && letter c)) ?_ ?_
  ·rw [bif_decF (by omega), show getI (c :: r) 0 = some c from rfl]
   by_cases h16 : r.length < 16
   ·rw [bif_decF (by omega), decide_eq_true h16]
    simp only [bind_some', Bool.true_and]
    clear e1 hlen hs
    revert c; exact u8F (by decide +kernel)
   ·rw [bif_decT (by omega), decide_eq_false h16]; rfl
  by_cases h16 : r.length < 16
  rotate_left
  ·rw [decide_eq_false h16]; rfl
  rw [decide_eq_true h16, Bool.true_and, Bool.true_and]
  cases hc : letter c with
  | false => rfl
  | true =>
   rw [Bool.not_true, cond_false, Bool.true_and]
   refine lpE (w := if r.all nchar = true then .inl () else .inr false) (nmB fun B hB => ?_) ?_
   rotate_left
   ·cases r.all nchar <;> rfl
   refine (lq3 r (fun c => !nchar c) (.inr false) (.inl ()) (fun i => ((i + 1 : Nat) : Int)) (fun i hi => ?_) ?_ rfl).trans ?_
   ·rw [hB]
    show (bif _ then _ else _) = _
    rw [bif_decT (by omega), getI_nat, show (c :: r)[i + 1]? = some r[i] by simp [hi], w64_succ (by omega)]
    generalize ((i + 1 + 1 : Nat) : Int) = k
    generalize r[i] = x
    simp only [bind_some']
    refine bo (a := !nchar x) ?_ ?_
    ·revert x; exact u8F (by decide +kernel)
    ·cases nchar x <;> rfl
   ·rw [hB]
    show (bif _ then _ else _) = _
    rw [bif_decF (by omega)]
   ·rw [nall]; cases r.all nchar <;> rfl
def fitS (c : ApiColumn) (v : ApiValue) : Int :=
 if val v = false then 8 else if v.Kind = 0 then (if c.Nulls = true then 0 else 8) else if v.Kind ≠ c.Kind then 8 else if (v.Kind = 4 ∨ v.Kind = 5) ∧ (v.S.length : Int) > c.Max then 7 else 0
theorem ref06_Fits_eq (c : ApiColumn) (v : ApiValue) (h : v.S.length < 4611686018427387904) : ref06_Fits c v = some (fitS c v) := by
 unfold ref06_Fits fitS
 rw [ref06_Valid_eq v h, bind_some']
 cases hv : val v with
 | false => rfl
 | true =>
  simp only [Bool.not_true, cond_false, Bool.true_eq_false, if_false]
  by_cases h0 : v.Kind = 0
  ·rw [show (v.Kind == 0) = true by simpa using h0, if_pos h0, show (v.Kind != 0) = false by simpa using h0, h0]
   cases c.Nulls <;> rfl
  rw [show (v.Kind == 0) = false by simpa using h0, if_neg h0, show (v.Kind != 0) = true by simpa using h0]
  simp only [cond_false, cond_true, bind_some']
  by_cases hk : v.Kind = c.Kind
  rotate_left
  ·rw [show (v.Kind != c.Kind) = true by simpa using hk, if_pos hk]; rfl
  rw [show (v.Kind != c.Kind) = false by simpa using hk, if_neg (by simpa using hk), cond_false]
  refine bo (a := decide ((v.Kind = 4 ∨ v.Kind = 5) ∧ (v.S.length : Int) > c.Max)) ?_ ?_
  ·by_cases h4 : v.Kind = 4
   ·rw [show (v.Kind == 4) = true by simpa using h4]; simp [h4]
   ·rw [show (v.Kind == 4) = false by simpa using h4]
    by_cases h5 : v.Kind = 5
    ·rw [show (v.Kind == 5) = true by simpa using h5]; simp [h5]
    ·rw [show (v.Kind == 5) = false by simpa using h5]; simp [h4, h5]
  ·by_cases q : (v.Kind = 4 ∨ v.Kind = 5) ∧ (v.S.length : Int) > c.Max
   ·rw [bif_decT q, if_pos q]
   ·rw [bif_decF q, if_neg q]
def colS (c : ApiColumn) : Int :=
 if nameS c.Name = false then 1 else if c.Kind < 1 ∨ c.Kind > 5 then 8 else if (if c.Kind = 4 ∨ c.Kind = 5 then c.Max < 1 ∨ c.Max > 64 else c.Max ≠ 0) then 7 else fitS c c.Default
theorem ref06_Column_eq (c : ApiColumn) (h : c.Name.length < 4611686018427387904) (h2 : c.Default.S.length < 4611686018427387904) : ref06_Column c = some (colS c) := by
 unfold ref06_Column colS
 rw [ref06_Name_eq _ h, bind_some']
 cases nameS c.Name with
 | false => rfl
 | true =>
  simp only [Bool.not_true, cond_false, Bool.true_eq_false, if_false]
  refine bo (a := decide (c.Kind < 1 ∨ c.Kind > 5)) ?_ ?_
  ·by_cases k1 : c.Kind < 1
   ·rw [bif_decT k1, decide_eq_true (Or.inl k1)]
   ·rw [bif_decF k1]; congr 1; exact decI (by omega)
  by_cases hk : c.Kind < 1 ∨ c.Kind > 5
  ·rw [bif_decT hk, if_pos hk]
  rw [bif_decF hk, if_neg hk]
  refine bo (a := decide (if c.Kind = 4 ∨ c.Kind = 5 then c.Max < 1 ∨ c.Max > 64 else c.Max ≠ 0)) ?_ ?_
  ·by_cases hl : c.Kind = 4 ∨ c.Kind = 5
   ·rw [bif_decF (by omega), bif_decT (by omega)]
    simp only [hl, if_true]
    by_cases m1 : c.Max < 1
    ·rw [bif_decT m1]; simp [m1]
    ·rw [bif_decF m1]; simp [m1]
   ·rw [bif_decT (by omega)]
    simp only [hl, if_false]
    by_cases m : c.Max = 0
    ·rw [show (c.Max != 0) = false by simpa using m, cond_false, bif_decF (by omega)]; simp [m]
    ·rw [show (c.Max != 0) = true by simpa using m]; simp [m]
  by_cases q : (if c.Kind = 4 ∨ c.Kind = 5 then c.Max < 1 ∨ c.Max > 64 else c.Max ≠ 0)
  ·rw [bif_decT q, if_pos q]
  ·rw [bif_decF q, if_neg q, ref06_Fits_eq _ _ h2, bind_some']
def OkC (c : ApiColumn) : Prop := c.Name.length < 4611686018427387904 ∧ c.Default.S.length < 4611686018427387904
def OkCs (l : List ApiColumn) : Prop := l.length < 4611686018427387904 ∧ ∀ c ∈ l, OkC c
def OkVs (l : List ApiValue) : Prop := l.length < 4611686018427387904 ∧ ∀ v ∈ l, v.S.length < 4611686018427387904
def colsS (l : List ApiColumn) : Bool := decide (1 ≤ l.length ∧ l.length ≤ 24) && l.all fun c => colS c == 0
def fitE (p : ApiColumn × ApiValue) : Option Int := if fitS p.1 p.2 = 0 then none else some (fitS p.1 p.2)
def fitsS (cols : List ApiColumn) (l : List ApiValue) : Int := if colsS cols = false ∨ l.length ≠ cols.length then 1 else ((cols.zip l).findSome? fitE).getD 0
theorem allb (l : List ApiColumn) : (l.any fun c => colS c != 0) = !(l.all fun c => colS c == 0) := by
 induction l with
 | nil => rfl
 | cons x r ih => rw [List.any_cons, List.all_cons, ih]; cases h : (colS x == 0) <;> simp [bne, h]
theorem ref08_Columns_eq (l : List ApiColumn) (h : OkCs l) : ref08_Columns l = some (colsS l) := by
 unfold ref08_Columns
 have hl := h.1
 refine bo (a := !decide (1 ≤ l.length ∧ l.length ≤ 24)) ?_ ?_
 ·by_cases h1 : l.length ≥ 1
  ·rw [bif_decF (by omega)]; congr 1; rw [← decide_not]; exact decI (by omega)
  ·rw [bif_decT (by omega)]; congr 1; rw [decide_eq_false (by omega)]; rfl
 by_cases h12 : 1 ≤ l.length ∧ l.length ≤ 24
 rotate_left
 ·rw [decide_eq_false h12, colsS, decide_eq_false h12]; rfl
 rw [decide_eq_true h12, colsS, decide_eq_true h12, Bool.not_true, cond_false, Bool.true_and]
 refine lpE (lq3 l (fun c => colS c != 0) (.inr false) (.inl ()) (fun i => (i : Int)) (fun i hi => ?_) ?_ rfl) ?_
 ·show (bif _ then _ else _) = _
  rw [bif_decT (by omega), getI_at hi, bind_some', ref06_Column_eq _ (h.2 _ (List.getElem_mem hi)).1 (h.2 _ (List.getElem_mem hi)).2, bind_some', w64_succ (by omega)]
  cases colS l[i] != 0 <;> rfl
 ·show (bif _ then _ else _) = _
  rw [bif_decF (by omega)]
 ·rw [allb]; cases (l.all fun c => colS c == 0) <;> rfl
theorem zipL {α β : Type} {a : List α} {b : List β} (h : b.length = a.length) : (a.zip b).length = a.length := by simp [h]
theorem fse_map (l : List (ApiColumn × ApiValue)) : l.findSome? (fun p => (fitE p).map fun x => (.inr x : Unit ⊕ Int)) = (l.findSome? fitE).map fun x => (.inr x : Unit ⊕ Int) := by
 induction l with
 | nil => rfl
 | cons x r ih => rw [List.findSome?_cons, List.findSome?_cons]; cases fitE x <;> simp [ih]
theorem ref08_Fits_eq (cols : List ApiColumn) (l : List ApiValue) (h : OkCs cols) (hv : OkVs l) : ref08_Fits cols l = some (fitsS cols l) := by
 unfold ref08_Fits fitsS
 have hl := hv.1
 refine bo (a := decide (colsS cols = false ∨ l.length ≠ cols.length)) ?_ ?_
 ·rw [ref08_Columns_eq _ h, bind_some']
  cases colsS cols with
  | false => simp
  | true => rw [Bool.not_true, cond_false, nat_ne]; simp [bne, Bool.beq_eq_decide_eq]
 by_cases q : colsS cols = false ∨ l.length ≠ cols.length
 ·rw [bif_decT q, if_pos q]
 rw [bif_decF q, if_neg q]
 have e : l.length = cols.length := by rw [not_or] at q; simpa using q.2
 have z := zipL (a := cols) (b := l) e
 refine lpE (lq2 (cols.zip l) (fun p => (fitE p).map fun x => (.inr x : Unit ⊕ Int)) (.inl ()) (fun i => (i : Int)) (fun i hi => ?_) ?_ rfl) ?_
 ·show (bif _ then _ else _) = _
  rw [bif_decT (by omega), getI_at (by omega), bind_some', getI_at (by omega), bind_some', ref06_Fits_eq _ _ (hv.2 _ (List.getElem_mem _)), bind_some', w64_succ (by omega), List.getElem_zip]
  unfold fitE
  by_cases k : fitS cols[i] l[i] = 0
  ·simp [k]
  ·rw [if_neg k, show (fitS cols[i] l[i] != 0) = true by simpa using k]; rfl
 ·show (bif _ then _ else _) = _
  rw [bif_decF (by omega)]
 ·rw [fse_map]
  cases (cols.zip l).findSome? fitE <;> rfl
end Lv
namespace Lv
open Go Go.Proofs
variable [BaseTab]
end Lv
namespace Lv
open Go Go.Proofs
variable [BaseTab]
def colAt (cols : List ApiColumn) (i : Int) : ApiColumn := (cols[i.toNat]?).getD default
end Lv
namespace Lv
open Go Go.Proofs
variable [BaseTab]
end Lv
namespace Lv
open Go Go.Proofs
variable [BaseTab]
theorem fitS_ok {c : ApiColumn} {v : ApiValue} (h : fitS c v = 0) : val v = true ∧ (v.Kind = 0 ∨ v.Kind = c.Kind) ∧ ((v.Kind = 4 ∨ v.Kind = 5) → (v.S.length : Int) ≤ c.Max) := by
 unfold fitS at h
 by_cases h1 : val v = false
 ·rw [if_pos h1] at h; cases h
 rw [if_neg h1] at h
 have hv : val v = true := by simpa using h1
 by_cases h2 : v.Kind = 0
 ·exact ⟨hv, .inl h2, fun k => by omega⟩
 rw [if_neg h2] at h
 by_cases h3 : v.Kind ≠ c.Kind
 ·rw [if_pos h3] at h; cases h
 rw [if_neg h3] at h
 by_cases h4 : (v.Kind = 4 ∨ v.Kind = 5) ∧ (v.S.length : Int) > c.Max
 ·rw [if_pos h4] at h; cases h
 exact ⟨hv, .inr (by simpa using h3), fun k => by
  rcases Int.lt_or_le c.Max v.S.length with q | q
  ·exact absurd ⟨k, q⟩ h4
  ·exact q⟩
structure Fit (cols : List ApiColumn) (l : List ApiValue) : Prop where
 rc : colsS cols = true
 len : l.length = cols.length
 fit : ∀ i (h1 : i < cols.length) (h2 : i < l.length), fitS cols[i] l[i] = 0
theorem Fit.of {cols : List ApiColumn} {l : List ApiValue} (h : fitsS cols l = 0) : Fit cols l := by
 unfold fitsS at h
 by_cases q : colsS cols = false ∨ l.length ≠ cols.length
 ·rw [if_pos q] at h; cases h
 rw [if_neg q] at h
 simp only [not_or, Bool.not_eq_false, ne_eq, Decidable.not_not] at q
 refine ⟨q.1, q.2, fun i h1 h2 => ?_⟩
 have hn : (cols.zip l).findSome? fitE = none := by
  cases hf : (cols.zip l).findSome? fitE with
  | none => rfl
  | some e =>
   rw [hf] at h
   exfalso
   obtain ⟨p, _, hp⟩ := List.exists_of_findSome?_eq_some hf
   unfold fitE at hp
   by_cases k : fitS p.1 p.2 = 0
   ·rw [if_pos k] at hp; cases hp
   ·rw [if_neg k] at hp; cases hp; exact k h
 rw [List.findSome?_eq_none_iff] at hn
 have := hn (cols[i], l[i]) (List.mem_iff_getElem.2 ⟨i, by simp; omega, by rw [List.getElem_zip]⟩)
 unfold fitE at this
 by_cases k : fitS cols[i] l[i] = 0
 ·exact k
 ·rw [if_neg k] at this; cases this
theorem Fit.to {cols : List ApiColumn} {l : List ApiValue} (h : Fit cols l) : fitsS cols l = 0 := by
 unfold fitsS
 rw [if_neg (by rw [h.rc, h.len]; simp)]
 have hn : (cols.zip l).findSome? fitE = none := by
  rw [List.findSome?_eq_none_iff]
  intro p hp
  obtain ⟨i, hi, rfl⟩ := List.mem_iff_getElem.1 hp
  have hi' : i < cols.length ∧ i < l.length := by have := hi; simp at this; omega
  rw [List.getElem_zip]
  unfold fitE
  rw [if_pos (h.fit i hi'.1 hi'.2)]
 rw [hn]; rfl
theorem Fit.val {cols : List ApiColumn} {l : List ApiValue} (h : Fit cols l) : ∀ v ∈ l, val v = true := by
 intro v hv
 obtain ⟨i, hi, rfl⟩ := List.mem_iff_getElem.1 hv
 exact (fitS_ok (h.fit i (by rw [← h.len]; exact hi) hi)).1
def vAt (l : List ApiValue) (i : Int) : ApiValue := (l[i.toNat]?).getD default
theorem vAt_eq {l : List ApiValue} {i : Int} (h : 0 ≤ i ∧ i < l.length) : getI l i = some (vAt l i) := by
 unfold getI vAt
 rw [if_pos h.1]
 have hl : i.toNat < l.length := by omega
 rw [List.getElem?_eq_getElem hl]; rfl
theorem Fit.at {cols : List ApiColumn} {l : List ApiValue} (h : Fit cols l) {i : Int} (hi : 0 ≤ i ∧ i < cols.length) : fitS (colAt cols i) (vAt l i) = 0 := by
 unfold colAt vAt
 have h1 : i.toNat < cols.length := by omega
 have h2 : i.toNat < l.length := by rw [h.len]; exact h1
 rw [List.getElem?_eq_getElem h1, List.getElem?_eq_getElem h2]
 exact h.fit _ h1 h2
end Lv
namespace Lv
open Go Go.Proofs
variable [BaseTab]
variable [BaseTab]
end Lv
namespace Lv
open Go Go.Proofs
variable [BaseTab]
def sgI (a b : Int) : Int := if a < b then -1 else if b < a then 1 else 0
theorem Compare_int_eq (a b : Int) : cmp_Compare_int a b = some (sgI a b) := by
 unfold cmp_Compare_int sgI
 rw [show cmp_isNaN_int a = some () from rfl, bind_some', show cmp_isNaN_int b = some () from rfl, bind_some', show (a != a) = false by simp, cond_false, show (b != b) = false by simp, cond_false]
 by_cases h : a < b
 ·rw [bif_decT h, if_pos h]
 ·rw [bif_decF h, if_neg h]
  by_cases k : b < a
  ·rw [bif_decT k, if_pos k]
  ·rw [bif_decF k, if_neg k]
theorem Compare_int64_eq (a b : Int) : cmp_Compare_int64 a b = some (sgI a b) := by
 unfold cmp_Compare_int64 sgI
 rw [show cmp_isNaN_int64 a = some () from rfl, bind_some', show cmp_isNaN_int64 b = some () from rfl, bind_some', show (a != a) = false by simp, cond_false, show (b != b) = false by simp, cond_false]
 by_cases h : a < b
 ·rw [bif_decT h, if_pos h]
 ·rw [bif_decF h, if_neg h]
  by_cases k : b < a
  ·rw [bif_decT k, if_pos k]
  ·rw [bif_decF k, if_neg k]
theorem Compare_u64_eq (a b : UInt64) : cmp_Compare_uint64 a b = some (sgI a.toNat b.toNat) := by
 unfold cmp_Compare_uint64 sgI
 rw [show cmp_isNaN_uint64 a = some () from rfl, bind_some', show cmp_isNaN_uint64 b = some () from rfl, bind_some', show (a != a) = false by simp, cond_false, show (b != b) = false by simp, cond_false]
 by_cases h : a < b
 ·rw [bif_decT h, if_pos (by have := UInt64.lt_iff_toNat_lt.1 h; omega)]
 ·rw [bif_decF h, if_neg (by have : ¬ a.toNat < b.toNat := fun q => h (UInt64.lt_iff_toNat_lt.2 q); omega)]
  by_cases k : b < a
  ·rw [bif_decT k, if_pos (by have := UInt64.lt_iff_toNat_lt.1 k; omega)]
  ·rw [bif_decF k, if_neg (by have : ¬ b.toNat < a.toNat := fun q => k (UInt64.lt_iff_toNat_lt.2 q); omega)]
theorem Or3_eq (a b c : Int) : cmp_Or_int [a, b, c] = some (if a ≠ 0 then a else if b ≠ 0 then b else c) := by
 unfold cmp_Or_int
 refine lpE (lq2 [a, b, c] (fun v => if v ≠ 0 then some (.inr v : Unit ⊕ Int) else none) (.inl ()) (fun i => (i : Int)) (fun i hi => ?_) ?_ rfl) ?_
 ·show (bif _ then _ else _) = _
  rw [bif_decT (by omega), getI_at hi, bind_some', w64_succ (by simp at hi; omega)]
  by_cases q : [a, b, c][i] = 0
  ·rw [show ([a, b, c][i] != 0) = false by simpa using q, cond_false, if_neg (by simpa using q)]
  ·rw [show ([a, b, c][i] != 0) = true by simpa using q, cond_true, if_pos q]
 ·show (bif _ then _ else _) = _
  rw [bif_decF (by omega)]
 ·simp only [List.findSome?]
  by_cases ha : a = 0
  ·by_cases hb : b = 0
   ·by_cases hc : c = 0
    ·simp [ha, hb, hc]
    ·simp [ha, hb, hc]
   ·simp [ha, hb]
  ·simp [ha]
def cmpD (a b : ApiValue) : Int := if sgI a.Kind b.Kind = 0 ∧ a.Kind = 1 then sgI (i64u a.N) (i64u b.N) else sgI a.Kind b.Kind
def cmpV (a b : ApiValue) : Int := if cmpD a b ≠ 0 then cmpD a b else if sgI a.N.toNat b.N.toNat ≠ 0 then sgI a.N.toNat b.N.toNat else Go.Lib.compareBytes a.S b.S
theorem value_Cmp_eq (a b : ApiValue) : value_Cmp_1 a b = some (cmpV a b) := by
 unfold value_Cmp_1 cmpV
 rw [Compare_int_eq, bind_some']
 refine bo (a := cmpD a b) ?_ ?_
 ·unfold cmpD
  refine bo (a := decide (sgI a.Kind b.Kind = 0 ∧ a.Kind = 1)) ?_ ?_
  ·by_cases q : sgI a.Kind b.Kind = 0
   ·rw [show (sgI a.Kind b.Kind == 0) = true by simpa using q, cond_true]; simp [q, Bool.beq_eq_decide_eq]
   ·rw [show (sgI a.Kind b.Kind == 0) = false by simpa using q, cond_false]; simp [q]
  ·by_cases q : sgI a.Kind b.Kind = 0 ∧ a.Kind = 1
   ·rw [decide_eq_true q, cond_true, if_pos q, Compare_int64_eq, bind_some']
   ·rw [decide_eq_false q, cond_false, if_neg q]
 ·rw [Compare_u64_eq, bind_some', show cmpF a.S b.S = some (Go.Lib.compareBytes a.S b.S) from rfl, bind_some', Or3_eq, bind_some']
def takN (n : PredNode) : Nat := if n.Kind = 4 ∨ n.Kind = 5 then 2 else if n.Kind = 6 then 1 else 0
theorem takes_eq (n : PredNode) : pred_Node_takes n = some (takN n : Int) := by
 unfold pred_Node_takes takN
 refine bo (a := decide (n.Kind = 4 ∨ n.Kind = 5)) ?_ ?_
 ·by_cases h : n.Kind = 4
  ·simp [h]
  ·rw [show (n.Kind == 4) = false by simpa using h]; simp [h, Bool.beq_eq_decide_eq]
 ·by_cases h : n.Kind = 4 ∨ n.Kind = 5
  ·rw [decide_eq_true h, if_pos h]; rfl
  ·rw [decide_eq_false h, if_neg h]
   by_cases k : n.Kind = 6
   ·rw [show (n.Kind == 6) = true by simpa using k, if_pos k]; rfl
   ·rw [show (n.Kind == 6) = false by simpa using k, if_neg k]; rfl
theorem takN_le (n : PredNode) : takN n ≤ 2 := by unfold takN; split <;> (try split) <;> omega
inductive PT where
 | leaf (n : PredNode)
 | un (n : PredNode) (a : PT)
 | bin (n : PredNode) (a b : PT)
def flat : PT → List PredNode
 | .leaf n => [n]
 | .un n a => flat a ++ [n]
 | .bin n a b => flat a ++ (flat b ++ [n])
def okTr : PT → Prop
 | .leaf n => takN n = 0
 | .un n a => takN n = 1 ∧ okTr a
 | .bin n a b => takN n = 2 ∧ okTr a ∧ okTr b
def flats : List PT → List PredNode
 | [] => []
 | t :: ts => flats ts ++ flat t
def stk : List PredNode → Nat → Option Nat
 | [], k => some k
 | n :: r, k => if takN n ≤ k then stk r (k - takN n + 1) else none
theorem stk_trees : ∀ (p : List PredNode) (ts : List PT) (k : Nat), (∀ t ∈ ts, okTr t) → stk p ts.length = some k → ∃ us : List PT, (∀ t ∈ us, okTr t) ∧ us.length = k ∧ flats us = flats ts ++ p
 | [], ts, k, h, hs => by
  simp only [stk, Option.some.injEq] at hs
  exact ⟨ts, h, hs, by simp⟩
 | n :: r, ts, k, h, hs => by
  rw [stk] at hs
  split at hs
  ·rename_i hle
   have h2 := takN_le n
   rcases (by omega : takN n = 0 ∨ takN n = 1 ∨ takN n = 2) with e | e | e
   ·obtain ⟨us, h1, h2, h3⟩ := stk_trees r (.leaf n :: ts) k (fun t ht => by
     rcases List.mem_cons.1 ht with rfl | ht
     ·exact e
     ·exact h t ht) (by rw [e] at hs; simpa using hs)
    exact ⟨us, h1, h2, by rw [h3]; simp [flats, flat]⟩
   ·match ts, h, hs, hle with
    | a :: ts, h, hs, _ =>
     obtain ⟨us, h1, h2, h3⟩ := stk_trees r (.un n a :: ts) k (fun t ht => by
      rcases List.mem_cons.1 ht with rfl | ht
      ·exact ⟨e, h a (by simp)⟩
      ·exact h t (by simp [ht])) (by rw [e] at hs; simpa using hs)
     exact ⟨us, h1, h2, by rw [h3]; simp [flats, flat]⟩
    | [], _, _, hle => simp at hle; omega
   ·match ts, h, hs, hle with
    | b :: a :: ts, h, hs, _ =>
     obtain ⟨us, h1, h2, h3⟩ := stk_trees r (.bin n a b :: ts) k (fun t ht => by
      rcases List.mem_cons.1 ht with rfl | ht
      ·exact ⟨e, h a (by simp), h b (by simp)⟩
      ·exact h t (by simp [ht])) (by rw [e] at hs; simpa using hs)
     exact ⟨us, h1, h2, by rw [h3]; simp [flats, flat]⟩
    | [_], _, _, hle => simp at hle; omega
    | [], _, _, hle => simp at hle; omega
  ·cases hs
theorem stk_tree {p : List PredNode} (h : stk p 0 = some 1) : ∃ t, okTr t ∧ flat t = p := by
 obtain ⟨us, h1, h2, h3⟩ := stk_trees p [] 1 (by simp) h
 match us, h2 with
 | [t], _ => exact ⟨t, h1 t (by simp), by simpa [flats] using h3⟩
theorem flat_pos : ∀ t : PT, 0 < (flat t).length
 | .leaf n => by simp [flat]
 | .un n a => by simp [flat]
 | .bin n a b => by simp [flat] <;> omega
def formS (n : PredNode) (c : Int) : Bool :=
 if n.Kind = 2 then decide (0 ≤ n.Col ∧ n.Col < c ∧ 1 ≤ n.Op ∧ n.Op ≤ 6)
 else if n.Kind = 3 then decide (0 ≤ n.Col ∧ n.Col < c ∧ n.Op = 0 ∧ n.Val = ⟨0, 0, []⟩)
 else decide ((n.Kind = 1 ∨ n.Kind = 4 ∨ n.Kind = 5 ∨ n.Kind = 6) ∧ n = ⟨n.Kind, 0, 0, ⟨0, 0, []⟩⟩)
theorem eqV20 (v w : ApiValue) : eqApiValue v w = decide (v = w) := by
 cases v; cases w
 rw [Bool.eq_iff_iff]
 simp [eqApiValue]
theorem eqN20 (v w : PredNode) : eqPredNode v w = decide (v = w) := by
 cases v; cases w
 rw [Bool.eq_iff_iff]
 simp [eqPredNode, eqV20]
theorem form_eq (n : PredNode) (c : Int) : pred_Node_form n c = some (formS n c) := by
 unfold pred_Node_form formS
 by_cases h2 : n.Kind = 2
 ·rw [show (n.Kind == 2) = true by simpa using h2, if_pos h2]
  refine bo (a := decide (0 ≤ n.Col ∧ n.Col < c ∧ 1 ≤ n.Op ∧ n.Op ≤ 6)) ?_ rfl
  by_cases a1 : n.Col ≥ 0
  ·by_cases a2 : n.Col < c
   ·by_cases a3 : n.Op ≥ 1
    ·rw [bif_decT a1, bif_decT a2, bif_decT a3]; congr 1; exact decI (by omega)
    ·rw [bif_decT a1, bif_decT a2, bif_decF a3]; congr 1; exact (decide_eq_false (by omega)).symm
   ·rw [bif_decT a1, bif_decF a2]; congr 1; exact (decide_eq_false (by omega)).symm
  ·rw [bif_decF a1]; congr 1; exact (decide_eq_false (by omega)).symm
 rw [show (n.Kind == 2) = false by simpa using h2, if_neg h2]
 refine bf rfl ?_
 by_cases h3 : n.Kind = 3
 ·rw [show (n.Kind == 3) = true by simpa using h3, if_pos h3]
  refine bo (a := decide (0 ≤ n.Col ∧ n.Col < c ∧ n.Op = 0 ∧ n.Val = ⟨0, 0, []⟩)) ?_ rfl
  by_cases a1 : n.Col ≥ 0
  ·by_cases a2 : n.Col < c
   ·by_cases a3 : n.Op = 0
    ·rw [bif_decT a1, bif_decT a2, show (n.Op == 0) = true by simpa using a3]
     refine bt rfl ?_
     rw [eqV20]; congr 1; exact decI (by simp [a1, a2, a3])
    ·rw [bif_decT a1, bif_decT a2, show (n.Op == 0) = false by simpa using a3]; refine bf rfl ?_; congr 1; symm; rw [decide_eq_false_iff_not]; rintro ⟨_, _, q, _⟩; exact a3 q
   ·rw [bif_decT a1, bif_decF a2]; congr 1; symm; rw [decide_eq_false_iff_not]; rintro ⟨_, q, _⟩; exact a2 q
  ·rw [bif_decF a1]; congr 1; symm; rw [decide_eq_false_iff_not]; rintro ⟨q, _⟩; exact a1 q
 rw [show (n.Kind == 3) = false by simpa using h3, if_neg h3]
 refine bf rfl ?_
 refine bo (a := decide (n.Kind = 1 ∨ n.Kind = 4 ∨ n.Kind = 5 ∨ n.Kind = 6)) ?_ ?_
 ·by_cases b1 : n.Kind = 1
  ·simp [b1]
  by_cases b4 : n.Kind = 4
  ·simp [b4]
  by_cases b5 : n.Kind = 5
  ·simp [b5]
  rw [show (n.Kind == 1) = false by simpa using b1, show (n.Kind == 4) = false by simpa using b4, show (n.Kind == 5) = false by simpa using b5]
  simp [b1, b4, b5, Bool.beq_eq_decide_eq]
 ·by_cases q : n.Kind = 1 ∨ n.Kind = 4 ∨ n.Kind = 5 ∨ n.Kind = 6
  ·rw [decide_eq_true q]
   refine bt rfl ?_
   rw [eqN20]; congr 1; exact decI (by simp [q])
  ·rw [decide_eq_false q]; refine bf rfl ?_; congr 1; symm; rw [decide_eq_false_iff_not]; rintro ⟨r, _⟩; exact q r
def colK (cols : List ApiColumn) (i : Int) : Int := ((cols[i.toNat]?).map ApiColumn.Kind).getD 0
def typeS (cols : List ApiColumn) (n : PredNode) : Bool := decide (n.Kind = 2 ∧ (val n.Val = false ∨ n.Val.Kind = 0 ∨ n.Val.Kind ≠ colK cols n.Col))
def maxL (l : List Int) : Int := l.foldl max 0
def stepC (cols : List ApiColumn) (s : List Int) (n : PredNode) : List Int ⊕ (List Int ⊕ Int) :=
 if formS n cols.length = false ∨ s.length < takN n then .inr (.inr 1)
 else if typeS cols n = true then .inr (.inr 8)
 else .inl (s.take (s.length - takN n) ++ [maxL (s.drop (s.length - takN n)) + 1])
def checkS (cols : List ApiColumn) (p : List PredNode) : Int :=
 if p.length > 200 then 7 else match foldE (stepC cols) .inl [] p with
  | .inr e => e
  | .inl s => if s.length ≠ 1 then 1 else if s.headD 0 > 24 then 7 else 0
def OkN (n : PredNode) : Prop := n.Val.S.length < 4611686018427387904
theorem maxL_le {l : List Int} {b : Int} (hb : 0 ≤ b) (h : ∀ d ∈ l, d ≤ b) : 0 ≤ maxL l ∧ maxL l ≤ b := by
 unfold maxL
 have : ∀ (l : List Int) (a : Int), 0 ≤ a → a ≤ b → (∀ d ∈ l, d ≤ b) → 0 ≤ l.foldl max a ∧ l.foldl max a ≤ b := by
  intro l
  induction l with
  | nil => intro a h1 h2 _; exact ⟨h1, h2⟩
  | cons x l ih =>
   intro a h1 h2 h3
   rw [List.foldl_cons]
   have := h3 x (by simp)
   exact ih _ (by omega) (by omega) (fun d hd => h3 d (by simp [hd]))
 exact this l 0 (by omega) hb h
theorem getS_at {α : Type} {xs : List α} {off len i : Nat} (h : i < len) (h2 : off + i < xs.length) : getS xs off len (i : Int) = some xs[off + i] := by
 unfold getS
 rw [if_pos (by omega), Int.toNat_natCast, List.getElem?_eq_getElem h2]
theorem sub_nat {a b : Nat} (h : b ≤ a) (ha : a < 9223372036854775808) : w64 ((a : Int) - (b : Int)) = ((a - b : Nat) : Int) := by
 rw [show ((a : Int) - (b : Int)) = ((a - b : Nat) : Int) by omega]
 exact w64_nat (by omega)
theorem Check_eq (cols : List ApiColumn) (p : List PredNode) (hc : cols.length < 4611686018427387904) (hp : ∀ n ∈ p, OkN n) : pred_Check cols p = some (checkS cols p) := by
  unfold pred_Check checkS
  by_cases h2 : p.length > 200
  · rw [bif_decT (by omega), if_pos h2]
  rw [bif_decF (by omega), if_neg h2]
  refine lpE (lq4 p (fun i s => (s, (i : Int))) (stepC cols) .inl (fun i s => s.length ≤ i ∧ ∀ d ∈ s, 0 ≤ d ∧ d ≤ i) [] (fun i s hi hI => ⟨?_, fun s' hs => ?_⟩) (fun s hI => ?_) ⟨by simp, by simp⟩ rfl) ?_
  · obtain ⟨I1, I2⟩ := hI
    show (bif _ then _ else _) = _
    rw [bif_decT (by omega)]
    have hn := hp _ (List.getElem_mem hi)
    generalize hn' : p[i] = n at hn
    have ht := takN_le n
    have tyq : formS n cols.length = true → (bif (n.Kind == (2 : Int)) then
                    Option.bind (value_Valid n.Val) fun r1444 =>
                    bif (!r1444) then
                      some true
                    else
                      bif (n.Val.Kind == (0 : Int)) then
                        some true
                      else
                        Option.bind (getI cols n.Col) fun v1445 =>
                        some (n.Val.Kind != v1445.Kind)
                  else
                    some false) = some (typeS cols n) := by
      intro hf
      unfold typeS
      by_cases k2 : n.Kind = 2
      · rw [show (n.Kind == 2) = true by simpa using k2, value_Valid_eq n.Val hn]
        refine bt rfl ?_
        rw [bind_some']
        cases hv : val n.Val with
        | false => simp [k2]
        | true =>
          refine bf rfl ?_
          by_cases k0 : n.Val.Kind = 0
          · simp [k2, k0]
          · rw [show (n.Val.Kind == 0) = false by simpa using k0]
            refine bf rfl ?_
            unfold formS at hf
            rw [if_pos k2, decide_eq_true_eq] at hf
            have hl : n.Col.toNat < cols.length := by omega
            have hg : getI cols n.Col = some cols[n.Col.toNat] := by
              unfold getI
              rw [if_pos hf.1, List.getElem?_eq_getElem hl]
            rw [hg, bind_some']
            congr 1
            unfold colK
            rw [List.getElem?_eq_getElem hl]
            simp [k2, k0, bne, Bool.beq_eq_decide_eq]
      · rw [show (n.Kind == 2) = false by simpa using k2]
        refine bf rfl ?_
        simp [k2]
    have hk : ∀ {R : Type} {f : PredNode → Option R} {r : Option R}, f n = r → Option.bind (getI p (i : Int)) f = r := fun h => bo (by rw [getI_at hi, hn']) h
    have hw : w64 ((s.length : Int) - (takN n : Int)) = (s.length : Int) - (takN n : Int) := w64_id (by omega) (by omega)
    unfold stepC
    by_cases q : formS n cols.length = false ∨ s.length < takN n
    · rw [if_pos q]
      refine beE (x := 1) ?_ rfl
      refine hk ?_
      refine bo (takes_eq n) ?_
      refine bo (a := true) ?_ rfl
      refine bo (form_eq n _) ?_
      rcases q with q | q
      · rw [q]; rfl
      · cases formS n cols.length with
        | false => rfl
        | true =>
          refine bf rfl ?_
          rw [hw, decide_eq_true (by omega)]
    · rw [if_neg q]
      simp only [not_or, Bool.not_eq_false, Nat.not_lt] at q
      have tyq := tyq q.1
      by_cases ty : typeS cols n = true
      · rw [if_pos ty]
        refine beE (x := 8) ?_ rfl
        refine hk ?_
        refine bo (takes_eq n) ?_
        refine bo (a := false) ?_ ?_
        · refine bo (form_eq n _) ?_
          rw [q.1]
          refine bf rfl ?_
          rw [hw, decide_eq_false (by omega)]
        refine bf rfl ?_
        refine bo (a := true) ?_ rfl
        exact (tyq.trans (by rw [ty]))
      · rw [if_neg ty]
        have ty' : typeS cols n = false := by simpa using ty
        generalize hpile : s.take (s.length - takN n) ++ [maxL (s.drop (s.length - takN n)) + 1] = pile
        refine beY (y := pile) ?_ ?_
        · refine hk ?_
          refine bo (takes_eq n) ?_
          refine bo (a := false) ?_ ?_
          · refine bo (form_eq n _) ?_
            rw [q.1]
            refine bf rfl ?_
            rw [hw, decide_eq_false (by omega)]
          refine bf rfl ?_
          refine bo (a := false) (tyq.trans (by rw [ty'])) ?_
          refine bf rfl ?_
          rw [sub_nat q.2 (by omega), Int.toNat_natCast]
          refine bo (a := maxL (s.drop (s.length - takN n))) ?_ ?_
          · refine gt (by omega) ?_
            refine bo (a := maxL (s.drop (s.length - takN n))) (lq1 (fun j => (maxL ((s.drop (s.length - takN n)).take j), (j : Int))) (takN n) (fun j hj => ?_) ?_ rfl) rfl
            · show (bif _ then _ else _) = _
              rw [bif_decT (by omega), getS_at (by omega) (by omega), bind_some', w64_succ (by omega)]
              have e1 : (s.drop (s.length - takN n)).take (j + 1) = (s.drop (s.length - takN n)).take j ++ [s[0 + (s.length - takN n) + j]] := by
                rw [List.take_add_one, List.getElem?_drop, List.getElem?_eq_getElem (by omega)]
                simp
              rw [e1]
              unfold maxL
              rw [List.foldl_append]
              rfl
            · show (bif _ then _ else _) = _
              rw [bif_decF (by omega), List.take_of_length_le (by simp; omega)]
          · have hm := maxL_le (l := s.drop (s.length - takN n)) (b := i) (by omega) fun d hd => (I2 d (List.mem_of_mem_drop hd)).2
            refine gt (by omega) ?_
            refine gt (by omega) ?_
            rw [w64_id (n := maxL (s.drop (s.length - takN n)) + 1) (by omega) (by omega)]
            refine gt (by show (s.length - takN n + 1) * 8 ≤ room; rw [room_val]; omega) ?_
            rw [List.drop_zero, hpile]
        · show some (Sum.inl (_, _)) = _
          rw [w64_succ (by omega)]; rfl
  · obtain ⟨I1, I2⟩ := hI
    unfold stepC at hs
    split at hs
    · cases hs
    · rename_i q
      split at hs
      · cases hs
      · simp only [not_or, Bool.not_eq_false, Nat.not_lt] at q
        obtain rfl := Sum.inl.inj hs
        have ht := takN_le p[i]
        have hm := maxL_le (l := s.drop (s.length - takN p[i])) (b := i) (by omega) fun d hd => (I2 d (List.mem_of_mem_drop hd)).2
        refine ⟨by simp; omega, fun d hd => ?_⟩
        rcases List.mem_append.1 hd with hd | hd
        · have := I2 d (List.mem_of_mem_take hd); omega
        · obtain rfl : d = _ := by simpa using hd
          omega
  · show (bif _ then _ else _) = _
    rw [bif_decF (by omega)]
  · cases foldE (stepC cols) .inl [] p with
    | inr e => rfl
    | inl s =>
      show (bif ((s.length : Int) != 1) then _ else _) = some (if s.length ≠ 1 then 1 else if s.headD 0 > 24 then 7 else 0)
      by_cases h1 : s.length ≠ 1
      · rw [if_pos h1, show ((s.length : Int) != 1) = true by simp; omega]; rfl
      · rw [if_neg h1, show ((s.length : Int) != 1) = false by simp; omega]
        refine bf rfl ?_
        match s, h1 with
        | [d], _ =>
          refine bo (a := d) rfl ?_
          show (bif decide (d > 24) then _ else _) = some (if d > 24 then 7 else 0)
          by_cases h24 : d > 24
          · rw [bif_decT h24, if_pos h24]
          · rw [bif_decF h24, if_neg h24]
        | [], h1 => simp at h1
        | _ :: _ :: _, h1 => simp at h1
theorem foldC_ok (cols : List ApiColumn) : ∀ (p : List PredNode) (s s' : List Int), foldE (stepC cols) (.inl : List Int → List Int ⊕ Int) s p = .inl s' → (∀ n ∈ p, formS n cols.length = true ∧ typeS cols n = false) ∧ stk p s.length = some s'.length
 | [], s, s', h => by
  obtain rfl := Sum.inl.inj h
  exact ⟨by simp, rfl⟩
 | n :: p, s, s', h => by
  have ht := takN_le n
  unfold foldE stepC at h
  by_cases q : formS n cols.length = false ∨ s.length < takN n
  ·rw [if_pos q] at h; cases h
  rw [if_neg q] at h
  by_cases ty : typeS cols n = true
  ·rw [if_pos ty] at h; cases h
  rw [if_neg ty] at h
  simp only [not_or, Bool.not_eq_false, Nat.not_lt] at q
  obtain ⟨h1, h2⟩ := foldC_ok cols p _ s' h
  refine ⟨fun m hm => ?_, ?_⟩
  ·rcases List.mem_cons.1 hm with rfl | hm
   ·exact ⟨q.1, by simpa using ty⟩
   ·exact h1 m hm
  ·rw [stk, if_pos q.2, ← h2]
   congr 1
   rw [List.length_append, List.length_take, List.length_singleton]
   omega
theorem check_ok {cols : List ApiColumn} {p : List PredNode} (h : checkS cols p = 0) : p.length ≤ 200 ∧ (∀ n ∈ p, formS n cols.length = true ∧ typeS cols n = false) ∧ ∃ t, okTr t ∧ flat t = p := by
 unfold checkS at h
 by_cases h2 : p.length > 200
 ·rw [if_pos h2] at h; cases h
 rw [if_neg h2] at h
 refine ⟨by omega, ?_⟩
 split at h
 ·rename_i e he
  have : ∀ (p : List PredNode) (s : List Int) (e : Int), foldE (stepC cols) (.inl : List Int → List Int ⊕ Int) s p = .inr e → e = 1 ∨ e = 8 := by
   intro p
   induction p with
   | nil => intro s e h; cases h
   | cons n p ih =>
    intro s e h
    unfold foldE stepC at h
    split at h
    ·exact .inl (Sum.inr.inj h).symm
    ·split at h
     ·exact .inr (Sum.inr.inj h).symm
     ·exact ih _ _ h
  have := this p [] e he
  omega
 ·rename_i s hs
  by_cases h1 : s.length ≠ 1
  ·rw [if_pos h1] at h; cases h
  obtain ⟨k1, k2⟩ := foldC_ok cols p [] s hs
  have : s.length = 1 := by omega
  rw [this] at k2
  exact ⟨k1, stk_tree k2⟩
def holdS (op c : Int) : Bool :=
 if op = 1 then decide (c < 0) else if op = 2 then decide (c ≤ 0) else if op = 3 then decide (c = 0) else if op = 4 then decide (c ≥ 0) else if op = 5 then decide (c > 0) else decide (c ≠ 0)
def cmpN (n : PredNode) (v : ApiValue) : Bool := if v.Kind = 0 then false else holdS n.Op (cmpV v n.Val)
def leafV (row : List ApiValue) (n : PredNode) : Bool := if n.Kind = 2 then cmpN n (vAt row n.Col) else if n.Kind = 3 then decide ((vAt row n.Col).Kind = 0) else true
def valT (row : List ApiValue) : PT → Bool
 | .leaf n => leafV row n
 | .un n a => !valT row a
 | .bin n a b => if n.Kind = 4 then valT row a && valT row b else valT row a || valT row b
theorem compares_eq (n : PredNode) (v : ApiValue) : pred_Node_compares n v = some (cmpN n v) := by
 unfold pred_Node_compares cmpN
 by_cases h0 : v.Kind = 0
 ·rw [show (v.Kind == 0) = true by simpa using h0, if_pos h0]; rfl
 rw [show (v.Kind == 0) = false by simpa using h0, if_neg h0]
 refine bf rfl ?_
 refine bo (value_Cmp_eq v n.Val) ?_
 generalize cmpV v n.Val = c
 unfold holdS
 by_cases h1 : n.Op = 1
 ·rw [show (n.Op == 1) = true by simpa using h1, if_pos h1]; rfl
 rw [show (n.Op == 1) = false by simpa using h1, if_neg h1]
 refine bf rfl ?_
 by_cases h1 : n.Op = 2
 ·rw [show (n.Op == 2) = true by simpa using h1, if_pos h1]; rfl
 rw [show (n.Op == 2) = false by simpa using h1, if_neg h1]
 refine bf rfl ?_
 by_cases h1 : n.Op = 3
 ·rw [show (n.Op == 3) = true by simpa using h1, if_pos h1]; refine bt rfl ?_; rw [Bool.beq_eq_decide_eq]
 rw [show (n.Op == 3) = false by simpa using h1, if_neg h1]
 refine bf rfl ?_
 by_cases h1 : n.Op = 4
 ·rw [show (n.Op == 4) = true by simpa using h1, if_pos h1]; rfl
 rw [show (n.Op == 4) = false by simpa using h1, if_neg h1]
 refine bf rfl ?_
 by_cases h1 : n.Op = 5
 ·rw [show (n.Op == 5) = true by simpa using h1, if_pos h1]; rfl
 rw [show (n.Op == 5) = false by simpa using h1, if_neg h1]
 refine bf rfl ?_
 simp [bne, Bool.beq_eq_decide_eq]
def nodeR (row : List ApiValue) (n : PredNode) : Prop := (n.Kind = 1 ∨ n.Kind = 2 ∨ n.Kind = 3 ∨ n.Kind = 4 ∨ n.Kind = 5 ∨ n.Kind = 6) ∧ ((n.Kind = 2 ∨ n.Kind = 3) → 0 ≤ n.Col ∧ n.Col < row.length)
theorem nodeR_form {row : List ApiValue} {n : PredNode} (h : formS n row.length = true) : nodeR row n := by
 unfold formS at h
 unfold nodeR
 by_cases h2 : n.Kind = 2
 ·rw [if_pos h2, decide_eq_true_eq] at h
  exact ⟨.inr (.inl h2), fun _ => ⟨h.1, h.2.1⟩⟩
 rw [if_neg h2] at h
 by_cases h3 : n.Kind = 3
 ·rw [if_pos h3, decide_eq_true_eq] at h
  exact ⟨.inr (.inr (.inl h3)), fun _ => ⟨h.1, h.2.1⟩⟩
 rw [if_neg h3, decide_eq_true_eq] at h
 exact ⟨by rcases h.1 with h | h | h | h <;> simp [h], fun k => by rcases k with k | k <;> contradiction⟩
theorem Eval_eq (t : PT) (row : List ApiValue) (ht : okTr t) (hl : (flat t).length ≤ 1000000) (hn : ∀ n ∈ flat t, nodeR row n) : pred_Eval (flat t) row = some (valT row t) := by
  unfold pred_Eval
  refine bo (a := ()) rfl ?_
  refine lpA (w := [valT row t]) (nmB fun B hB => ?_) rfl
  generalize hp : flat t = p at hB hl hn
  -- one node
  have step : ∀ (i : Nat) (hi : i < p.length) (pile kids : List Bool) (v : Bool), kids.length = takN p[i] → (pile ++ kids).length ≤ i →
      (p[i].Kind = 1 → v = true) → (p[i].Kind = 2 → v = cmpN p[i] (vAt row p[i].Col)) → (p[i].Kind = 3 → v = decide ((vAt row p[i].Col).Kind = 0)) →
      (p[i].Kind = 4 → ∀ a b, kids = [a, b] → v = (a && b)) → (p[i].Kind = 5 → ∀ a b, kids = [a, b] → v = (a || b)) → (p[i].Kind = 6 → ∀ a, kids = [a] → v = !a) →
      B (pile ++ kids, (i : Int)) = some (.inl (pile ++ [v], ((i + 1 : Nat) : Int))) := by
    intro i hi pile kids v hk hlen h1 h2 h3 h4 h5 h6
    have hnode := hn _ (List.getElem_mem hi)
    rw [hB]
    show (bif _ then _ else _) = _
    rw [bif_decT (by omega)]
    refine bo (getI_at hi) ?_
    generalize p[i] = n at *
    refine bo (takes_eq n) ?_
    have htk := takN_le n
    rw [List.length_append] at hlen
    rw [sub_nat (a := (pile ++ kids).length) (b := takN n) (by simp; omega) (by simp; omega), Int.toNat_natCast]
    have hfrom : (pile ++ kids).length - takN n = pile.length := by simp; omega
    rw [hfrom]
    have g1 : 0 ≤ (pile.length : Int) ∧ (pile.length : Int) ≤ ((pile ++ kids).length : Int) := by rw [List.length_append]; omega
    refine gt g1 ?_
    have tail : ∀ {w : Bool}, w = v → (bif decide (0 + pile.length ≤ (pile ++ kids).length) then
            (bif decide ((pile.length + [w].length) * 1 ≤ room) then
            some (Sum.inl ((List.take pile.length (List.drop 0 (pile ++ kids)) ++ [w]), (w64 ((i : Int) + (1 : Int)))))
            else none)
            else none : Option ((List Bool × Int) ⊕ List Bool)) = some (.inl (pile ++ [v], ((i + 1 : Nat) : Int))) := by
      rintro w rfl
      rw [bif_decT (by simp), bif_decT (by show (pile.length + 1) * 1 ≤ room; rw [room_val]; omega), w64_succ (by omega), List.drop_zero, List.take_left]
    have col : n.Kind = 2 ∨ n.Kind = 3 → getI row n.Col = some (vAt row n.Col) := fun k => vAt_eq (hnode.2 k)
    have kid : ∀ (j : Nat) (hj : j < kids.length), getS (pile ++ kids) (0 + pile.length) ((pile ++ kids).length - pile.length) (j : Int) = some kids[j] := by
      intro j hj
      rw [getS_at (by simp; omega) (by simp; omega)]
      simp
    rcases hnode.1 with e | e | e | e | e | e
    · refine bt (by simpa using e) ?_
      refine gt g1 ?_
      refine bo (a := ()) rfl ?_
      exact tail (h1 e).symm
    · refine bf (by simp [e]) ?_
      refine bt (by simpa using e) ?_
      refine gt g1 ?_
      refine bo (a := v) ?_ (tail rfl)
      refine bo (col (.inl e)) ?_
      refine bo (compares_eq n _) ?_
      rw [h2 e]
    · refine bf (by simp [e]) ?_
      refine bf (by simp [e]) ?_
      refine bt (by simpa using e) ?_
      refine gt g1 ?_
      refine bo (a := v) ?_ (tail rfl)
      refine bo (col (.inr e)) ?_
      rw [h3 e, Bool.beq_eq_decide_eq]
    · refine bf (by simp [e]) ?_
      refine bf (by simp [e]) ?_
      refine bf (by simp [e]) ?_
      refine bt (by simpa using e) ?_
      refine gt g1 ?_
      have hk2 : kids.length = 2 := by rw [hk]; unfold takN; rw [if_pos (.inl e)]
      match kids, hk2, kid, h4 with
      | [a, b], _, kid, h4 =>
        refine bo (a := v) ?_ (tail rfl)
        refine bo (a := v) ?_ rfl
        refine bo (kid 0 (by simp)) ?_
        rw [h4 e a b rfl]
        cases a with
        | false => rfl
        | true =>
          refine bt rfl ?_
          exact bo (kid 1 (by simp)) rfl
    · refine bf (by simp [e]) ?_
      refine bf (by simp [e]) ?_
      refine bf (by simp [e]) ?_
      refine bf (by simp [e]) ?_
      refine bt (by simpa using e) ?_
      refine gt g1 ?_
      have hk2 : kids.length = 2 := by rw [hk]; unfold takN; rw [if_pos (.inr e)]
      match kids, hk2, kid, h5 with
      | [a, b], _, kid, h5 =>
        refine bo (a := v) ?_ (tail rfl)
        refine bo (a := v) ?_ rfl
        refine bo (kid 0 (by simp)) ?_
        rw [h5 e a b rfl]
        cases a with
        | true => rfl
        | false =>
          refine bf rfl ?_
          exact bo (kid 1 (by simp)) rfl
    · refine bf (by simp [e]) ?_
      refine bf (by simp [e]) ?_
      refine bf (by simp [e]) ?_
      refine bf (by simp [e]) ?_
      refine bf (by simp [e]) ?_
      refine bt (by simpa using e) ?_
      refine gt g1 ?_
      have hk1 : kids.length = 1 := by rw [hk]; unfold takN; rw [if_neg (by omega), if_pos e]
      match kids, hk1, kid, h6 with
      | [a], _, kid, h6 =>
        refine bo (a := v) ?_ (tail rfl)
        refine bo (kid 0 (by simp)) ?_
        rw [h6 e a rfl]; rfl
  have last : ∀ (pile : List Bool), B (pile, (p.length : Int)) = some (.inr pile) := by
    intro pile
    rw [hB]
    show (bif _ then _ else _) = _
    rw [bif_decF (by omega)]
  clear hB
  have tree : ∀ (t : PT) (pre post : List PredNode) (pile : List Bool), okTr t → p = pre ++ (flat t ++ post) → pile.length ≤ pre.length → loop B (pile, (pre.length : Int)) = loop B (pile ++ [valT row t], ((pre ++ flat t).length : Int)) := by
    intro t
    induction t with
    | leaf n =>
      intro pre post pile ok e hle
      have hi : pre.length < p.length := by rw [e]; simp [flat]
      have hx : p[pre.length] = n := by simp [e, flat]
      have := step pre.length hi pile [] (leafV row n) (by rw [hx]; exact (show takN n = 0 from ok).symm) (by simpa using hle) (fun k => by rw [hx] at k; simp [leafV, k]) (fun k => by rw [hx] at k; simp [leafV, k, hx]) (fun k => by rw [hx] at k; simp [leafV, k, hx]) (fun _ a b h => by cases h) (fun _ a b h => by cases h) (fun _ a h => by cases h)
      rw [List.append_nil] at this
      rw [loop_step this]
      simp [flat, valT]
    | un n a ih =>
      intro pre post pile ok e hle
      have e' : p = pre ++ (flat a ++ ([n] ++ post)) := by rw [e]; simp [flat]
      rw [ih pre ([n] ++ post) pile ok.2 e' hle]
      have hi : (pre ++ flat a).length < p.length := by rw [e']; simp
      have hx : p[(pre ++ flat a).length] = n := by simp [e']
      have hpos := flat_pos a
      have k6 : takN n = 1 := ok.1
      have kk : n.Kind ≠ 1 ∧ n.Kind ≠ 2 ∧ n.Kind ≠ 3 ∧ n.Kind ≠ 4 ∧ n.Kind ≠ 5 := by
        unfold takN at k6
        split at k6
        · omega
        · split at k6 <;> omega
      have := step (pre ++ flat a).length hi pile [valT row a] (!valT row a) (by rw [hx]; exact k6.symm) (by simp; omega) (fun k => by rw [hx] at k; omega) (fun k => by rw [hx] at k; omega) (fun k => by rw [hx] at k; omega) (fun _ a b h => by simp at h) (fun _ a b h => by simp at h) (fun _ x h => by simp at h; rw [h])
      rw [loop_step this]
      have el : (pre ++ flat a).length + 1 = (pre ++ flat (.un n a)).length := by simp [flat]; omega
      rw [el]; rfl
    | bin n a b iha ihb =>
      intro pre post pile ok e hle
      have e1 : p = pre ++ (flat a ++ (flat b ++ ([n] ++ post))) := by rw [e]; simp [flat]
      have e2 : p = (pre ++ flat a) ++ (flat b ++ ([n] ++ post)) := by rw [e1]; simp
      have hpa := flat_pos a
      have hpb := flat_pos b
      rw [iha pre _ pile ok.2.1 e1 hle, ihb (pre ++ flat a) _ (pile ++ [valT row a]) ok.2.2 e2 (by simp; omega)]
      have hi : ((pre ++ flat a) ++ flat b).length < p.length := by rw [e2]; simp
      have hx : p[((pre ++ flat a) ++ flat b).length] = n := by simp [e2]
      have k2 : takN n = 2 := ok.1
      have kk : n.Kind = 4 ∨ n.Kind = 5 := by
        unfold takN at k2
        split at k2
        · assumption
        · split at k2 <;> omega
      have := step ((pre ++ flat a) ++ flat b).length hi pile [valT row a, valT row b] (valT row (.bin n a b)) (by rw [hx]; exact k2.symm) (by simp; omega) (fun k => by rw [hx] at k; omega) (fun k => by rw [hx] at k; omega) (fun k => by rw [hx] at k; omega)
        (fun k x y h => by rw [hx] at k; simp at h; rw [valT, if_pos k, h.1, h.2]) (fun k x y h => by rw [hx] at k; simp at h; rw [valT, if_neg (by omega), h.1, h.2]) (fun k => by rw [hx] at k; omega)
      rw [show pile ++ [valT row a] ++ [valT row b] = pile ++ [valT row a, valT row b] by simp, loop_step this]
      have el : (pre ++ flat a ++ flat b).length + 1 = (pre ++ flat (.bin n a b)).length := by simp [flat]; omega
      rw [el]
  have h0 := tree t [] [] [] ht (by simp [hp]) (by simp)
  rw [show ((([] : List PredNode)).length : Int) = 0 from rfl, List.nil_append, List.nil_append] at h0
  rw [hp] at h0
  exact h0.trans (loop_end (last _))
theorem Fits_row {cols : List ApiColumn} {row : List ApiValue} (h : fitsS cols row = 0) : row.length = cols.length := (Fit.of h).len
theorem check_tree {cols : List ApiColumn} {p : List PredNode} {row : List ApiValue} (h : checkS cols p = 0) (hr : row.length = cols.length) : ∃ t, okTr t ∧ flat t = p ∧ p.length ≤ 200 ∧ ∀ n ∈ p, nodeR row n := by
 obtain ⟨h1, h2, t, h3, h4⟩ := check_ok h
 exact ⟨t, h3, h4, h1, fun n hn => nodeR_form (by rw [hr]; exact (h2 n hn).1)⟩
theorem icompact_ok' (d : Array Int) (hs : ∀ (i j : Nat) (hij : i < j) (hj : j < d.size), d[i]'(by omega) ≤ d[j]'hj) : ∀ m, m ≤ d.size → (Go.Lib.compactUpTo d m).Pairwise (· < ·) ∧ (∀ x, x ∈ Go.Lib.compactUpTo d m ↔ ∃ i, ∃ h : i < d.size, i < m ∧ d[i] = x)
 | 0, _ => by
  refine ⟨by simp [Go.Lib.compactUpTo], fun x => ?_⟩
  simp [Go.Lib.compactUpTo]
 | m + 1, hm => by
  obtain ⟨p1, p2⟩ := icompact_ok' d hs m (by omega)
  have hlt : m < d.size := by omega
  have eg : d[m]! = d[m] := getElem!_pos d m hlt
  rw [Go.Lib.compactUpTo_succ, eg]
  by_cases k : Go.Lib.keeps d m = true
  ·rw [if_pos k]
   refine ⟨?_, fun x => ?_⟩
   ·rw [List.pairwise_append]
    refine ⟨p1, by simp, fun x hx y hy => ?_⟩
    obtain rfl : y = d[m] := by simpa using hy
    obtain ⟨i, hi, him, rfl⟩ := (p2 x).1 hx
    have hm0 : 0 < m := by omega
    have eg1 : d[m - 1]! = d[m - 1]'(by omega) := getElem!_pos d (m - 1) (by omega)
    have hne : d[m] ≠ d[m - 1]'(by omega) := by
     intro e
     have := Go.Lib.keeps_neg (d := d) hm0 (by rw [eg, eg1]; exact e)
     rw [this] at k; cases k
    have h1 := hs (m - 1) m (by omega) hlt
    rcases Nat.lt_or_ge i (m - 1) with q | q
    ·have := hs i (m - 1) q (by omega)
     omega
    ·have : i = m - 1 := by omega
     subst this
     omega
   ·rw [List.mem_append, p2]
    constructor
    ·rintro (⟨i, hi, him, e⟩ | hx)
     ·exact ⟨i, hi, by omega, e⟩
     ·exact ⟨m, hlt, by omega, (by simpa using hx : x = d[m]).symm⟩
    ·rintro ⟨i, hi, him, e⟩
     rcases Nat.lt_or_ge i m with q | q
     ·exact .inl ⟨i, hi, q, e⟩
     ·have : i = m := by omega
      subst this
      exact .inr (by simp [e])
  ·rw [if_neg k, List.append_nil]
   refine ⟨p1, fun x => ?_⟩
   rw [p2]
   constructor
   ·rintro ⟨i, hi, him, e⟩
    exact ⟨i, hi, by omega, e⟩
   ·rintro ⟨i, hi, him, e⟩
    rcases Nat.lt_or_ge i m with q | q
    ·exact ⟨i, hi, q, e⟩
    ·have : i = m := by omega
     subst this
     have hm0 : 0 < i := by
      rcases Nat.eq_zero_or_pos i with h0 | h0
      ·subst h0
       exact absurd (Go.Lib.keeps_lt_one d 0 (by omega)) k
      ·exact h0
     have eg1 : d[i - 1]! = d[i - 1]'(by omega) := getElem!_pos d (i - 1) (by omega)
     by_cases q2 : d[i] = d[i - 1]'(by omega)
     ·exact ⟨i - 1, by omega, by omega, by rw [← q2]; exact e⟩
     ·exact absurd (Go.Lib.keeps_pos (by rw [eg, eg1]; exact q2)) k
def onceI (l : List Int) : List Int := Go.Lib.compact (l.mergeSort fun x y => decide (x ≤ y))
theorem once_ok (l : List Int) : (onceI l).Pairwise (· < ·) ∧ ∀ x, x ∈ onceI l ↔ x ∈ l := by
 have hp : (l.mergeSort fun x y => decide (x ≤ y)).Pairwise (fun x y => decide (x ≤ y) = true) := by
  refine List.pairwise_mergeSort (fun a b c h1 h2 => ?_) (fun a b => ?_) l
  ·simp only [decide_eq_true_eq] at *
   omega
  ·simp only [Bool.or_eq_true, decide_eq_true_eq]
   omega
 unfold onceI
 generalize hs : (l.mergeSort fun x y => decide (x ≤ y)) = s at hp
 have hm : ∀ x, x ∈ s ↔ x ∈ l := by
  intro x
  rw [← hs]
  exact List.mem_mergeSort
 unfold Go.Lib.compact
 have key := icompact_ok' s.toArray (fun i j hij hj => by
  have := List.pairwise_iff_getElem.1 hp i j (by simpa using (by omega : i < s.toArray.size)) (by simpa using hj) hij
  simpa using this) s.length (by simp)
 refine ⟨key.1, fun x => ?_⟩
 rw [key.2, ← hm]
 constructor
 ·rintro ⟨i, hi, _, e⟩
  rw [← e]
  simp
 ·intro hx
  obtain ⟨i, hi, e⟩ := List.mem_iff_getElem.1 hx
  exact ⟨i, by simpa using hi, hi, by simpa using e⟩
def askB (n : PredNode) : Bool := decide (n.Kind = 2 ∨ n.Kind = 3)
def askC (p : List PredNode) : List Int := (p.filter askB).map PredNode.Col
theorem ask_eq (n : PredNode) : (bif (n.Kind == (2 : Int)) then some true else some (n.Kind == (3 : Int))) = some (askB n) := by
 unfold askB
 by_cases h : n.Kind = 2
 ·simp [h]
 ·rw [show (n.Kind == 2) = false by simpa using h]; simp [h, Bool.beq_eq_decide_eq]
theorem Cols_eq (p : List PredNode) (h : p.length ≤ 1000000) : pred_Cols p = some (onceI (askC p)) := by
 unfold pred_Cols
 have hlen : ∀ i, ((p.take i).filter askB).length ≤ i := fun i => by
  have := List.length_filter_le askB (p.take i)
  rw [List.length_take] at this
  omega
 refine lpA (w := askC p) (lq1 (fun i => (askC (p.take i), (i : Int))) p.length (fun i hi => ?_) ?_ rfl) ?_
 ·show (bif _ then _ else _) = _
  rw [bif_decT (by omega)]
  refine bo (a := askC (p.take (i + 1))) ?_ ?_
  ·refine bo (getI_at hi) ?_
   refine bo (ask_eq p[i]) ?_
   have e : p.take (i + 1) = p.take i ++ [p[i]] := by rw [List.take_add_one, List.getElem?_eq_getElem hi]; rfl
   have hl := hlen i
   cases hq : askB p[i] with
   | true =>
    refine bt rfl ?_
    refine gt (by unfold askC; rw [List.length_map, List.length_singleton, room_val]; omega) ?_
    rw [e]; unfold askC; rw [List.filter_append, List.map_append]; simp [hq]
   | false =>
    refine bf rfl ?_
    rw [e]; unfold askC; rw [List.filter_append, List.map_append]; simp [hq]
  ·rw [w64_succ (by omega)]
 ·show (bif _ then _ else _) = _
  rw [bif_decF (by omega), List.take_length]
 ·have hl : (askC p).length ≤ p.length := by unfold askC; rw [List.length_map]; exact List.length_filter_le _ _
  refine bo (a := (askC p).mergeSort fun x y => decide (x ≤ y)) (by unfold isortF; rw [if_pos (by omega)]) ?_
  refine bo (a := onceI (askC p)) ?_ rfl
  unfold icompactF onceI
  rw [if_pos ⟨rfl, by rw [List.length_mergeSort], by rw [List.length_mergeSort]; omega⟩]
theorem askC_mem {p : List PredNode} {c : Int} : c ∈ askC p ↔ ∃ n ∈ p, (n.Kind = 2 ∨ n.Kind = 3) ∧ n.Col = c := by
 unfold askC askB
 simp only [List.mem_map, List.mem_filter, decide_eq_true_eq]
 constructor
 ·rintro ⟨n, ⟨h1, h2⟩, h3⟩; exact ⟨n, h1, h2, h3⟩
 ·rintro ⟨n, h1, h2, h3⟩; exact ⟨n, ⟨h1, h2⟩, h3⟩
theorem valT_congr {r s : List ApiValue} : ∀ (t : PT), (∀ n ∈ flat t, (n.Kind = 2 ∨ n.Kind = 3) → vAt r n.Col = vAt s n.Col) → valT r t = valT s t
 | .leaf n, h => by
  have h := h n (by simp [flat])
  unfold valT leafV
  by_cases h2 : n.Kind = 2
  ·rw [if_pos h2, if_pos h2, h (.inl h2)]
  rw [if_neg h2, if_neg h2]
  by_cases h3 : n.Kind = 3
  ·rw [if_pos h3, if_pos h3, h (.inr h3)]
  rw [if_neg h3, if_neg h3]
 | .un n a, h => by
  unfold valT
  rw [valT_congr a fun m hm => h m (by simp [flat, hm])]
 | .bin n a b, h => by
  unfold valT
  rw [valT_congr a fun m hm => h m (by simp [flat, hm]), valT_congr b fun m hm => h m (by simp [flat, hm])]
def mixS (row : List ApiValue) (m : List ApiValue) (l : List Int) : List ApiValue := l.foldl (fun m c => m.set c.toNat (vAt row c)) m
theorem mix_len (row : List ApiValue) : ∀ (l : List Int) (m : List ApiValue), (mixS row m l).length = m.length
 | [], m => rfl
 | c :: l, m => by
  show (mixS row (m.set c.toNat (vAt row c)) l).length = _
  rw [mix_len row l]; simp
theorem mix_keep (row : List ApiValue) (c : Int) : ∀ (l : List Int) (m : List ApiValue), (∀ x ∈ l, 0 ≤ x ∧ x < row.length) → 0 ≤ c → c < row.length → m.length = row.length → vAt m c = vAt row c → vAt (mixS row m l) c = vAt row c
 | [], m, _, _, _, _, h => h
 | x :: l, m, hl, h0, h1, hm, h => by
  show vAt (mixS row (m.set x.toNat (vAt row x)) l) c = _
  refine mix_keep row c l _ (fun y hy => hl y (by simp [hy])) h0 h1 (by simpa using hm) ?_
  have hx := hl x (by simp)
  by_cases e : x = c
  ·subst e
   unfold vAt
   rw [List.getElem?_set_self (by omega)]
   rfl
  ·unfold vAt at h ⊢
   rw [List.getElem?_set_ne (by omega)]
   exact h
theorem mix_at (row : List ApiValue) : ∀ (l : List Int) (m : List ApiValue), (∀ x ∈ l, 0 ≤ x ∧ x < row.length) → m.length = row.length → ∀ c ∈ l, vAt (mixS row m l) c = vAt row c
 | x :: l, m, hl, hm, c, hc => by
  have hx := hl x (by simp)
  rcases List.mem_cons.1 hc with rfl | hc
  ·show vAt (mixS row (m.set c.toNat (vAt row c)) l) c = _
   refine mix_keep row c l _ (fun y hy => hl y (by simp [hy])) hx.1 hx.2 (by simpa using hm) ?_
   unfold vAt
   rw [List.getElem?_set_self (by omega)]
   rfl
  ·exact mix_at row l _ (fun y hy => hl y (by simp [hy])) (by simpa using hm) c hc
theorem PredCols_aw (ha : law20_awake = some true) (cols : List ApiColumn) (p : List PredNode) (row other : List ApiValue) (hc : OkCs cols) (hp : ∀ n ∈ p, OkN n) (hr : OkVs row) (ho : OkVs other) (hro : other.length * 32 ≤ room) : law20_PredCols cols p row other = some true := by
 unfold law20_PredCols
 refine bo ha ?_
 refine bf rfl ?_
 by_cases g : cols.length ≤ 24 ∧ checkS cols p = 0 ∧ fitsS cols row = 0 ∧ fitsS cols other = 0
 rotate_left
 ·refine bo (a := true) ?_ rfl
  by_cases g1 : cols.length ≤ 24
  rotate_left
  ·rw [bif_decT (by omega)]
  rw [bif_decF (by omega)]
  refine bo (Check_eq cols p hc.1 hp) ?_
  by_cases g4 : checkS cols p = 0
  rotate_left
  ·refine bt (by simpa using g4) rfl
  refine bf (by simpa using g4) ?_
  refine bo (ref08_Fits_eq cols row hc hr) ?_
  by_cases g5 : fitsS cols row = 0
  rotate_left
  ·refine bt (by simpa using g5) rfl
  refine bf (by simpa using g5) ?_
  refine bo (ref08_Fits_eq cols other hc ho) ?_
  have : fitsS cols other ≠ 0 := fun h => g ⟨g1, g4, g5, h⟩
  simpa using this
 obtain ⟨g1, g2, g3, g4⟩ := g
 refine bo (a := false) ?_ ?_
 ·rw [bif_decF (by omega)]
  refine bo (Check_eq cols p hc.1 hp) ?_
  refine bf (by simpa using g2) ?_
  refine bo (ref08_Fits_eq cols row hc hr) ?_
  refine bf (by simpa using g3) ?_
  refine bo (ref08_Fits_eq cols other hc ho) ?_
  simpa using g4
 refine bf rfl ?_
 obtain ⟨t, kt, rfl, hl, nt⟩ := check_tree g2 (Fits_row g3)
 have lr := Fits_row g3
 have lo := Fits_row g4
 refine bo (Cols_eq _ (by omega)) ?_
 obtain ⟨u1, u2⟩ := once_ok (askC (flat t))
 generalize onceI (askC (flat t)) = U at u1 u2
 have hU : ∀ c ∈ U, 0 ≤ c ∧ c < row.length := by
  intro c hc'
  obtain ⟨n, h1, h2, rfl⟩ := askC_mem.1 ((u2 c).1 hc')
  exact (nt n h1).2 h2
 have hUl : U.length ≤ 24 := by
  have key : ∀ (l : List Int) (a : Int), l.Pairwise (· < ·) → (∀ c ∈ l, a ≤ c ∧ c < row.length) → a ≤ row.length → (l.length : Int) ≤ row.length - a := by
   intro l
   induction l with
   | nil => intro a _ _ h; simp; omega
   | cons x l ih =>
    intro a hp h ha'
    rw [List.pairwise_cons] at hp
    have hx := h x (by simp)
    have := ih (x + 1) hp.2 (fun c hc => ⟨by have := hp.1 c hc; omega, (h c (by simp [hc])).2⟩) (by omega)
    simp only [List.length_cons]
    omega
  have := key U 0 u1 hU (by omega)
  omega
 refine gt (by show (0 + other.length) * 32 ≤ room; omega) ?_
 rw [List.nil_append]
 refine lpE (w := .inl (mixS row other U)) (lq1 (fun i => (mixS row other (U.take i), (i : Int))) U.length (fun i hi => ?_) ?_ rfl) ?_
 ·show (bif _ then _ else _) = _
  have hx := hU _ (List.getElem_mem hi)
  rw [bif_decT (by omega)]
  refine bo (a := false) ?_ ?_
  ·refine bo (getI_at hi) ?_
   rw [bif_decF (by omega)]
   refine bo (getI_at hi) ?_
   rw [bif_decF (by omega)]
   by_cases hi0 : 0 < i
   ·rw [bif_decT (by omega)]
    have e : w64 ((i : Int) - 1) = ((i - 1 : Nat) : Int) := by
     rw [show ((i : Int) - 1) = ((i - 1 : Nat) : Int) by omega]
     exact w64_nat (by omega)
    rw [e]
    refine bo (getI_at (by omega)) ?_
    refine bo (getI_at hi) ?_
    have := List.pairwise_iff_getElem.1 u1 (i - 1) i (by omega) hi (by omega)
    rw [decide_eq_false (by omega)]
   ·rw [bif_decF (by omega)]
  ·refine bf rfl ?_
   refine bo (getI_at hi) ?_
   refine bo (getI_at hi) ?_
   refine bo (vAt_eq hx) ?_
   refine bo (vAt_eq (l := mixS row other (U.take i)) (by rw [mix_len]; omega)) ?_
   rw [w64_succ (by omega)]
   have e : U.take (i + 1) = U.take i ++ [U[i]] := by rw [List.take_add_one, List.getElem?_eq_getElem hi]; rfl
   rw [e]
   unfold mixS
   rw [List.foldl_append]
   rfl
 ·show (bif _ then _ else _) = _
  rw [bif_decF (by omega), List.take_length]
 ·have lm : (mixS row other U).length = row.length := by rw [mix_len]; omega
  refine bo (Eval_eq t _ kt (by omega) fun n hn => ⟨(nt n hn).1, by rw [lm]; exact (nt n hn).2⟩) ?_
  refine bo (Eval_eq t row kt (by omega) nt) ?_
  rw [valT_congr (r := mixS row other U) (s := row) t fun n hn hk => mix_at row U other hU (by omega) n.Col ((u2 _).2 (askC_mem.2 ⟨n, hn, hk, rfl⟩))]
  simp
end Lv
namespace Lv
open Go Go.Proofs
variable [BaseTab]
variable [BaseTab]
end Lv
namespace Lv
open Go Go.Proofs
variable [BaseTab]
def within (K : List UInt8) (s : ApiSpan) : Prop := ltS K s.Lo = false ∧ ltS K s.Hi = true ∧ s.Open = false
end Lv
namespace Lv
open Go Go.Proofs
variable [BaseTab] [TabOk]
omit [BaseTab] [TabOk] in
theorem okCs20 {R k : Nat} (hR : R ≤ 140737488355328) (hk : 0 < k) {l : List ApiColumn} (h : l.length * k ≤ R ∧ ∀ y ∈ l, okApiColumn R y) : OkCs l := by
 have h1 : l.length * 1 ≤ l.length * k := Nat.mul_le_mul_left _ hk
 refine ⟨by omega, fun c hc => ?_⟩
 obtain ⟨k1, _, _, _, k5, _⟩ := h.2 c hc
 have k6 := k5.2.2.1
 exact ⟨by omega, by omega⟩
omit [BaseTab] [TabOk] in
theorem okNs20 {R k : Nat} (hR : R ≤ 140737488355328) {l : List PredNode} (h : l.length * k ≤ R ∧ ∀ y ∈ l, okPredNode R y) : ∀ n ∈ l, OkN n := fun n hn => by
 obtain ⟨_, _, _, k4, _⟩ := h.2 n hn
 have k5 := k4.2.2.1
 show n.Val.S.length < 4611686018427387904
 omega
omit [BaseTab] [TabOk] in
theorem okVs20 {R k : Nat} (hR : R ≤ 140737488355328) (hk : 0 < k) {l : List ApiValue} (h : l.length * k ≤ R ∧ ∀ y ∈ l, okApiValue R y) : OkVs l := by
 have h1 : l.length * 1 ≤ l.length * k := Nat.mul_le_mul_left _ hk
 refine ⟨by omega, fun c hc => ?_⟩
 have := (h.2 c hc).2.2.1
 omega
omit [TabOk] in
theorem PredCols_true (cols : List ApiColumn) (p : List PredNode) (row other : List ApiValue) (hc : OkCs cols) (hp : ∀ n ∈ p, OkN n) (hr : OkVs row) (ho : OkVs other) (hro : other.length * 32 ≤ 140737488351232) : law20_PredCols cols p row other = some true := PredCols_aw law20_awake_some cols p row other hc hp hr ho (by rw [room_val]; omega)
end Lv
