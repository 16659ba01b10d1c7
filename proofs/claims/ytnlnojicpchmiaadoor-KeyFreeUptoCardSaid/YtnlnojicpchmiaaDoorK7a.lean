/- Plain laws of layer 07: values that are right. -/
import Derived.Test.YtnlnojicpchmiaaDoorXAll
import Derived.Test.YtnlnojicpchmiaaDoorGwPlain
import Derived.Lib.ValidLaws
namespace Lv
open Go Go.Proofs
set_option linter.unusedVariables false
set_option linter.unusedSimpArgs false
set_option linter.unusedSectionVars false
set_option maxRecDepth 100000
variable [BaseTab]

/-- What a value may be. -/
def val (v : ApiValue) : Bool :=
  (v.Kind == 0 && (v.N == 0 && v.S == [])) || ((v.Kind == 1 || v.Kind == 2) && v.S == []) || (v.Kind == 3 && (decide (v.N < 2) && v.S == [])) ||
  (v.Kind == 4 && (v.N == 0 && decide (v.S.length ≤ 64))) || (v.Kind == 5 && (v.N == 0 && (decide (v.S.length ≤ 64) && Go.Lib.validD v.S)))

theorem value_Valid_eq (v : ApiValue) (h : v.S.length < 4611686018427387904) : value_Valid v = some (val v) := by
  have e1 : validF v.S = some (Go.Lib.validD v.S) := by unfold validF; rw [if_pos (by omega)]
  have e2 : ((v.S.length : Int) ≤ 64) = (v.S.length ≤ 64) := propext (by omega)
  have e3 : (v.N ≤ 1) = (v.N < 2) := propext (by rw [UInt64.le_iff_toNat_le, UInt64.lt_iff_toNat_lt]; show _ ≤ 1 ↔ _ < 2; omega)
  obtain ⟨K, N, S⟩ := v
  unfold value_Valid val
  simp only [e1, e2, e3, eqApiValue, Bool.and_true] at *
  by_cases k0 : K = 0
  · subst k0; simp
  by_cases k1 : K = 1
  · subst k1; simp
  by_cases k2 : K = 2
  · subst k2; simp
  by_cases k3 : K = 3
  · subst k3; by_cases hN : N < 2 <;> simp [hN]
  by_cases k4 : K = 4
  · subst k4; cases hN : (N == 0) <;> simp [hN]
  by_cases k5 : K = 5
  · subst k5; cases hN : (N == 0) <;> by_cases hS : S.length ≤ 64 <;> simp [hN, hS]
  simp [beq_eq_false_iff_ne.2 k0, beq_eq_false_iff_ne.2 k1, beq_eq_false_iff_ne.2 k2, beq_eq_false_iff_ne.2 k3, beq_eq_false_iff_ne.2 k4, beq_eq_false_iff_ne.2 k5]

/-- A byte that goes on. -/
def utfB (s : List UInt8) (i n : Int) : Int × Int → Option ((Int × Int) ⊕ (Int ⊕ Bool)) := fun (y1265, y1266) =>
                      bif (decide (y1266 < n)) then
                        Option.bind (getI s (w64 (i + y1266))) fun v1279 =>
                        Option.bind (α := Bool)
                          (bif (decide ((v1279.toNat : Int) < (128 : Int))) then
                            some true
                          else
                            some (decide ((v1279.toNat : Int) ≥ (192 : Int))))
                          fun y1281 =>
                        bif y1281 then
                          some (Sum.inr (Sum.inr false))
                        else
                          some (Sum.inl ((w64 ((w64 ((w64 (y1265 * (64 : Int))) + (v1279.toNat : Int))) - (128 : Int))), (w64 (y1266 + (1 : Int)))))
                      else
                        some (Sum.inr (Sum.inl y1265))
theorem utf_more (s : List UInt8) (i : Nat) (n k c : Int) (b : UInt8) (hk : 0 ≤ k) (hn : k < n) (hn4 : n ≤ 4) (hi : i + k.toNat < s.length) (hs : s.length < 4611686018427387904) (hc : 0 ≤ c ∧ c < 4294967296) (hb : s.getD (i + k.toNat) 0 = b) :
    loop (utfB s i n) (c, k) = if b.toNat / 64 = 2 then loop (utfB s i n) (c * 64 + (b.toNat : Int) - 128, k + 1) else some (.inr false) := by
  have hg : getI s (w64 ((i : Int) + k)) = some b := by
    rw [w64_id (by omega) (by omega)]
    unfold getI
    rw [if_pos (by omega), show ((i : Int) + k).toNat = i + k.toNat by omega, List.getElem?_eq_getElem hi]
    rw [List.getD_eq_getElem?_getD, List.getElem?_eq_getElem hi] at hb
    exact congrArg some hb
  have hlt := b.toNat_lt
  by_cases h : b.toNat / 64 = 2
  · rw [if_pos h]
    refine loop_step ?_
    show (bif (decide (k < n)) then _ else _) = _
    rw [decide_eq_true hn, cond_true, hg, bind_some', bif_decF (show ¬ ((b.toNat : Int) < 128) by omega), bind_some', bif_decF (show ¬ ((b.toNat : Int) ≥ 192) by omega)]
    rw [w64_id (n := c * 64) (by omega) (by omega), w64_id (n := c * 64 + _) (by omega) (by omega), w64_id (n := c * 64 + _ - _) (by omega) (by omega), w64_id (n := k + 1) (by omega) (by omega)]
  · rw [if_neg h]
    refine loop_end ?_
    show (bif (decide (k < n)) then _ else _) = _
    rw [decide_eq_true hn, cond_true, hg, bind_some']
    by_cases h2 : b.toNat < 128
    · rw [bif_decT (show ((b.toNat : Int) < 128) by omega), bind_some', cond_true]
    · rw [bif_decF (show ¬ ((b.toNat : Int) < 128) by omega), bind_some', bif_decT (show ((b.toNat : Int) ≥ 192) by omega)]
theorem utf_end (s : List UInt8) (i : Nat) (n c : Int) : loop (utfB s i n) (c, n) = some (.inl c) := by
  refine loop_end ?_
  show (bif (decide (n < n)) then _ else _) = _
  rw [bif_decF (show ¬ (n < n) by omega)]

/-- One rune: how many bytes; 0: none. -/
def utfN (l : List UInt8) : Nat :=
  if (Go.Lib.decodeN l.length (l.getD 0 0).toNat (l.getD 1 0).toNat (l.getD 2 0).toNat (l.getD 3 0).toNat).1 = 65533 ∧ (Go.Lib.decodeN l.length (l.getD 0 0).toNat (l.getD 1 0).toNat (l.getD 2 0).toNat (l.getD 3 0).toNat).2 = 1 then 0
  else (Go.Lib.decodeN l.length (l.getD 0 0).toNat (l.getD 1 0).toNat (l.getD 2 0).toNat (l.getD 3 0).toNat).2
theorem validD_utfN (l : List UInt8) (hne : l ≠ []) : Go.Lib.validD l = if utfN l = 0 then false else Go.Lib.validD (l.drop (utfN l)) := by
  have hw := Go.Lib.decodeL_width l
  have hl : 0 < l.length := List.length_pos_iff.2 hne
  rw [Go.Lib.validD_step l hne, Go.Lib.decodeL_N]
  rw [Go.Lib.decodeL_N] at hw
  unfold utfN
  split
  · simp
  · rw [if_neg (by omega)]
/-- A rune of n bytes, told by its numbers. -/
theorem utfN_1 (l : List UInt8) (h : (l.getD 0 0).toNat < 128) : utfN l = 1 := by
  unfold utfN Go.Lib.decodeN
  rw [if_pos h]
  simp only
  rw [if_neg (by omega)]
theorem utfN_bad (l : List UInt8) (h : (128 ≤ (l.getD 0 0).toNat ∧ (l.getD 0 0).toNat < 194) ∨ 245 ≤ (l.getD 0 0).toNat) : utfN l = 0 := by
  unfold utfN
  have := (l.getD 0 0).toNat_lt
  rw [Go.Lib.decodeN_bad _ _ _ _ _ (by omega)]
  rfl
theorem utfN_2 (l : List UInt8) (h : 194 ≤ (l.getD 0 0).toNat ∧ (l.getD 0 0).toNat < 224) : utfN l = if 1 < l.length ∧ (l.getD 1 0).toNat / 64 = 2 then 2 else 0 := by
  unfold utfN Go.Lib.decodeN
  repeat' split
  all_goals first | rfl | (exfalso; omega) | (simp only at *; omega)
theorem utfN_3 (l : List UInt8) (h : 224 ≤ (l.getD 0 0).toNat ∧ (l.getD 0 0).toNat < 240) : utfN l = if (2 < l.length ∧ (l.getD 1 0).toNat / 64 = 2 ∧ (l.getD 2 0).toNat / 64 = 2) ∧ 2048 ≤ (l.getD 0 0).toNat % 16 * 4096 + (l.getD 1 0).toNat % 64 * 64 + (l.getD 2 0).toNat % 64 ∧ ((l.getD 0 0).toNat % 16 * 4096 + (l.getD 1 0).toNat % 64 * 64 + (l.getD 2 0).toNat % 64 < 55296 ∨ 57344 ≤ (l.getD 0 0).toNat % 16 * 4096 + (l.getD 1 0).toNat % 64 * 64 + (l.getD 2 0).toNat % 64) then 3 else 0 := by
  unfold utfN Go.Lib.decodeN
  repeat' split
  all_goals first | rfl | (exfalso; omega) | (simp only at *; omega)
theorem utfN_4 (l : List UInt8) (h : 240 ≤ (l.getD 0 0).toNat ∧ (l.getD 0 0).toNat < 245) : utfN l = if (3 < l.length ∧ (l.getD 1 0).toNat / 64 = 2 ∧ (l.getD 2 0).toNat / 64 = 2 ∧ (l.getD 3 0).toNat / 64 = 2) ∧ 65536 ≤ (l.getD 0 0).toNat % 8 * 262144 + (l.getD 1 0).toNat % 64 * 4096 + (l.getD 2 0).toNat % 64 * 64 + (l.getD 3 0).toNat % 64 ∧ (l.getD 0 0).toNat % 8 * 262144 + (l.getD 1 0).toNat % 64 * 4096 + (l.getD 2 0).toNat % 64 * 64 + (l.getD 3 0).toNat % 64 ≤ 1114111 then 4 else 0 := by
  unfold utfN Go.Lib.decodeN
  repeat' split
  all_goals first | rfl | (exfalso; omega) | (simp only at *; omega)

theorem decI {p q : Prop} [Decidable p] [Decidable q] (h : p ↔ q) : decide p = decide q := decide_eq_decide.2 h
/-- The rest of a round. -/
noncomputable def utfT (p0 : List UInt8) (y1079 y1207 y1208 y1209 : Int) : Option (Int ⊕ (Unit ⊕ Bool)) :=
              bif (decide ((w64 (y1079 + y1207)) > (p0.length : Int))) then
                some (Sum.inr (Sum.inr false))
              else
                bindE (Y := Int) (E := Bool)
                  (Option.bind (α := Int ⊕ Bool) (loop (utfB p0 y1079 y1207) (y1209, (1 : Int)))
                    (Sum.elim (fun e => some (Sum.inl e)) (fun e => some (Sum.inr e))))
                  (fun y1256 =>
                    Option.bind (α := Bool)
                      (bif (decide (y1256 < y1208)) then
                        some true
                      else
                        bif (decide (y1256 > (1114111 : Int))) then
                          some true
                        else
                          bif (decide (y1256 ≥ (55296 : Int))) then
                            some (decide (y1256 < (57344 : Int)))
                          else
                            some false)
                      fun y1289 =>
                    bif y1289 then
                      some (Sum.inr (Sum.inr false))
                    else
                      some (Sum.inl (w64 (y1079 + y1207))))
                  (fun e => some (Sum.inr (Sum.inr e)))
/-- A round that looked at all its bytes. -/
theorem utfT_all {s : List UInt8} {i n : Nat} {m c c' : Int} (hn : n ≤ 4) (hs : s.length < 4611686018427387904) (hi : i + n ≤ s.length) (h : loop (utfB s i n) (c, 1) = some (.inl c')) :
    utfT s i n m c = some (if c' < m ∨ c' > 1114111 ∨ (55296 ≤ c' ∧ c' < 57344) then .inr (.inr false) else .inl ((i + n : Nat) : Int)) := by
  unfold utfT
  rw [w64_id (n := (i : Int) + n) (by omega) (by omega), bif_decF (show ¬ ((i : Int) + n > (s.length : Int)) by omega), h, bind_some', Sum.elim_inl, bindE_l]
  by_cases h1 : c' < m
  · rw [bif_decT h1, bind_some', cond_true, if_pos (.inl h1)]
  rw [bif_decF h1]
  by_cases h2 : c' > 1114111
  · rw [bif_decT h2, bind_some', cond_true, if_pos (.inr (.inl h2))]
  rw [bif_decF h2]
  by_cases h3 : c' ≥ 55296
  · rw [bif_decT h3, bind_some']
    by_cases h4 : c' < 57344
    · rw [bif_decT h4, if_pos (.inr (.inr ⟨h3, h4⟩))]
    · rw [bif_decF h4, if_neg (by omega)]; rfl
  · rw [bif_decF h3, bind_some', cond_false, if_neg (by omega)]; rfl
theorem utfT_no {s : List UInt8} {i n : Nat} {m c : Int} (hn : n ≤ 4) (hs : s.length < 4611686018427387904) (hi : i + n ≤ s.length) (h : loop (utfB s i n) (c, 1) = some (.inr false)) :
    utfT s i n m c = some (.inr (.inr false)) := by
  unfold utfT
  rw [w64_id (n := (i : Int) + n) (by omega) (by omega), bif_decF (show ¬ ((i : Int) + n > (s.length : Int)) by omega), h, bind_some', Sum.elim_inr, bindE_r]
theorem utfT_short {s : List UInt8} {i n : Nat} {m c : Int} (hn : n ≤ 4) (hs : s.length < 4611686018427387904) (hi : i ≤ s.length) (hi : ¬ i + n ≤ s.length) : utfT s i n m c = some (.inr (.inr false)) := by
  unfold utfT
  rw [w64_id (n := (i : Int) + n) (by omega) (by omega), bif_decT (show ((i : Int) + n > (s.length : Int)) by omega)]
theorem ref06_utf8_eq (s : List UInt8) (hs : s.length < 4611686018427387904) : ref06_utf8 s = some (Go.Lib.validD s) := by
  unfold ref06_utf8
  refine Eq.trans (congrArg (fun x => bindE (Y := Unit) (E := Bool) (Option.bind (α := Unit ⊕ Bool) x (Sum.elim (fun e => some (Sum.inl e)) (fun e => some (Sum.inr e)))) (fun _ => some true) (fun e => some e))
    (loop_by (fun y : Int => ∃ i : Nat, y = i ∧ i ≤ s.length) (fun y => s.length - y.toNat) (fun y => if Go.Lib.validD (s.drop y.toNat) = true then .inl () else .inr false) ?_ 0 ⟨0, rfl, by omega⟩)) ?_
  · rintro y ⟨i, rfl, hi⟩
    rcases Nat.lt_or_ge i s.length with hlt | hge
    rotate_left
    · right
      have : i = s.length := by omega
      subst this
      simp only [ltI, Nat.lt_irrefl, decide_false, cond_false, Int.toNat_natCast, List.drop_length, Go.Lib.validD_nil, if_true]
    have hne : s.drop i ≠ [] := by intro e; have := congrArg List.length e; simp at this; omega
    have hv := validD_utfN (s.drop i) hne
    have hlen : (s.drop i).length = s.length - i := by simp
    have hd : ∀ k, (s.drop i).getD k 0 = s.getD (i + k) 0 := fun k => Go.Lib.getD_dropU s i k
    have hg : getI s (i : Int) = some (s.getD i 0) := by
      rw [getI_at hlt, List.getD_eq_getElem?_getD, List.getElem?_eq_getElem hlt]; rfl
    have hb := (s.getD i 0).toNat_lt
    -- what a round must show
    suffices hB : ∀ B : Option (Int ⊕ (Unit ⊕ Bool)), B = some (if utfN (s.drop i) = 0 then .inr (.inr false) else .inl ((i + utfN (s.drop i) : Nat) : Int)) → utfN (s.drop i) ≤ s.length - i →
        (∃ y', B = some (.inl y') ∧ (∃ j : Nat, y' = j ∧ j ≤ s.length) ∧ s.length - y'.toNat < s.length - ((i : Int)).toNat ∧ (if Go.Lib.validD (s.drop y'.toNat) = true then Sum.inl () else Sum.inr false) = (if Go.Lib.validD (s.drop ((i : Int)).toNat) = true then Sum.inl () else Sum.inr false)) ∨ B = some (.inr (if Go.Lib.validD (s.drop ((i : Int)).toNat) = true then .inl () else .inr false)) by
      have hle : utfN (s.drop i) ≤ s.length - i := by
        rcases Nat.lt_or_ge (s.getD i 0).toNat 128 with c1 | c1
        · rw [utfN_1 _ (by rw [hd]; exact c1)]; omega
        rcases Nat.lt_or_ge (s.getD i 0).toNat 194 with c2 | c2
        · rw [utfN_bad _ (by rw [hd, Nat.add_zero]; omega)]; omega
        rcases Nat.lt_or_ge (s.getD i 0).toNat 224 with c3 | c3
        · rw [utfN_2 _ (by rw [hd, Nat.add_zero]; omega)]; split <;> omega
        rcases Nat.lt_or_ge (s.getD i 0).toNat 240 with c4 | c4
        · rw [utfN_3 _ (by rw [hd, Nat.add_zero]; omega)]; split <;> omega
        rcases Nat.lt_or_ge (s.getD i 0).toNat 245 with c5 | c5
        · rw [utfN_4 _ (by rw [hd, Nat.add_zero]; omega)]; split <;> omega
        · rw [utfN_bad _ (by rw [hd, Nat.add_zero]; omega)]; omega
      refine hB _ ?_ hle
      rw [ltI, decide_eq_true hlt, cond_true, hg, bind_some']
      have d0 := hd 0
      rw [Nat.add_zero] at d0
      have d1 := hd 1
      have d2 := hd 2
      have d3 := hd 3
      have b1 := (s.getD (i + 1) 0).toNat_lt
      have b2 := (s.getD (i + 2) 0).toNat_lt
      have b3 := (s.getD (i + 3) 0).toNat_lt
      rcases Nat.lt_or_ge (s.getD i 0).toNat 128 with c1 | c1
      · have hu := utfN_1 (s.drop i) (by rw [d0]; exact c1)
        rw [hu, bif_decT (show ((s.getD i 0).toNat : Int) < 128 by omega), bindE_l]
        refine (utfT_all (n := 1) (by omega) hs (by omega) (utf_end s i 1 _)).trans ?_
        rw [if_neg (by omega), if_neg (by omega)]
      rw [bif_decF (show ¬ (((s.getD i 0).toNat : Int) < 128) by omega)]
      rcases Nat.lt_or_ge (s.getD i 0).toNat 194 with c2 | c2
      · have hu := utfN_bad (s.drop i) (by rw [d0]; omega)
        rw [hu, bif_decF (show ¬ (((s.getD i 0).toNat : Int) ≥ 194) by omega), bind_some', cond_false, bif_decF (show ¬ (((s.getD i 0).toNat : Int) ≥ 224) by omega), bind_some', cond_false, bif_decF (show ¬ (((s.getD i 0).toNat : Int) ≥ 240) by omega), bind_some', cond_false]
        rfl
      rw [bif_decT (show (((s.getD i 0).toNat : Int) ≥ 194) by omega), bind_some']
      rcases Nat.lt_or_ge (s.getD i 0).toNat 224 with c3 | c3
      · have hu := utfN_2 (s.drop i) (by rw [d0]; omega)
        rw [d1, hlen] at hu
        rw [bif_decT (show (((s.getD i 0).toNat : Int) < 224) by omega), bindE_l]
        show utfT s i (2 : Nat) 128 _ = _
        by_cases hn : i + 2 ≤ s.length
        · rw [w64_id (n := ((s.getD i 0).toNat : Int) - 192) (by omega) (by omega)]
          have q := utf_more s i 2 1 (((s.getD i 0).toNat : Int) - 192) (s.getD (i + 1) 0) (by omega) (by omega) (by omega) (by omega) hs (by omega) rfl
          by_cases t1 : (s.getD (i + 1) 0).toNat / 64 = 2
          · rw [if_pos t1] at q
            refine (utfT_all (n := 2) (by omega) hs (by omega) (q.trans (utf_end s i 2 _))).trans ?_
            rw [hu, if_pos (show 1 < s.length - i ∧ (s.getD (i + 1) 0).toNat / 64 = 2 by omega)]
            split
            · exfalso; omega
            · rfl
          · rw [if_neg t1] at q
            refine (utfT_no (n := 2) (by omega) hs (by omega) q).trans ?_
            rw [show utfN (s.drop i) = 0 by rw [hu]; exact if_neg (by omega)]
            rfl
        · rw [show utfN (s.drop i) = 0 by rw [hu]; exact if_neg (by omega)]
          exact utfT_short (by omega) hs hi hn
      rw [bif_decF (show ¬ (((s.getD i 0).toNat : Int) < 224) by omega), bif_decT (show (((s.getD i 0).toNat : Int) ≥ 224) by omega), bind_some']
      rcases Nat.lt_or_ge (s.getD i 0).toNat 240 with c4 | c4
      · have hu := utfN_3 (s.drop i) (by rw [d0]; omega)
        rw [d0, d1, d2, hlen] at hu
        rw [bif_decT (show (((s.getD i 0).toNat : Int) < 240) by omega), bindE_l]
        show utfT s i (3 : Nat) 2048 _ = _
        by_cases hn : i + 3 ≤ s.length
        · rw [w64_id (n := ((s.getD i 0).toNat : Int) - 224) (by omega) (by omega)]
          have q := utf_more s i 3 1 (((s.getD i 0).toNat : Int) - 224) (s.getD (i + 1) 0) (by omega) (by omega) (by omega) (by omega) hs (by omega) rfl
          by_cases t1 : (s.getD (i + 1) 0).toNat / 64 = 2
          · rw [if_pos t1] at q
            have q2 := utf_more s i 3 2 ((((s.getD i 0).toNat : Int) - 224) * 64 + ((s.getD (i + 1) 0).toNat : Int) - 128) (s.getD (i + 2) 0) (by omega) (by omega) (by omega) (by omega) hs (by omega) rfl
            by_cases t2 : (s.getD (i + 2) 0).toNat / 64 = 2
            · rw [if_pos t2] at q2
              refine (utfT_all (n := 3) (by omega) hs (by omega) (q.trans (q2.trans (utf_end s i 3 _)))).trans ?_
              split
              · rw [show utfN (s.drop i) = 0 by rw [hu]; exact if_neg (by omega)]
                rfl
              · rw [show utfN (s.drop i) = 3 by rw [hu]; exact if_pos (by omega)]
                rfl
            · rw [if_neg t2] at q2
              refine (utfT_no (n := 3) (by omega) hs (by omega) (q.trans q2)).trans ?_
              rw [show utfN (s.drop i) = 0 by rw [hu]; exact if_neg (by omega)]
              rfl
          · rw [if_neg t1] at q
            refine (utfT_no (n := 3) (by omega) hs (by omega) q).trans ?_
            rw [show utfN (s.drop i) = 0 by rw [hu]; exact if_neg (by omega)]
            rfl
        · rw [show utfN (s.drop i) = 0 by rw [hu]; exact if_neg (by omega)]
          exact utfT_short (by omega) hs hi hn
      rw [bif_decF (show ¬ (((s.getD i 0).toNat : Int) < 240) by omega), bif_decT (show (((s.getD i 0).toNat : Int) ≥ 240) by omega), bind_some']
      rcases Nat.lt_or_ge (s.getD i 0).toNat 245 with c5 | c5
      · have hu := utfN_4 (s.drop i) (by rw [d0]; omega)
        rw [d0, d1, d2, d3, hlen] at hu
        rw [bif_decT (show (((s.getD i 0).toNat : Int) < 245) by omega), bindE_l]
        show utfT s i (4 : Nat) 65536 _ = _
        by_cases hn : i + 4 ≤ s.length
        · rw [w64_id (n := ((s.getD i 0).toNat : Int) - 240) (by omega) (by omega)]
          have q := utf_more s i 4 1 (((s.getD i 0).toNat : Int) - 240) (s.getD (i + 1) 0) (by omega) (by omega) (by omega) (by omega) hs (by omega) rfl
          by_cases t1 : (s.getD (i + 1) 0).toNat / 64 = 2
          · rw [if_pos t1] at q
            have q2 := utf_more s i 4 2 ((((s.getD i 0).toNat : Int) - 240) * 64 + ((s.getD (i + 1) 0).toNat : Int) - 128) (s.getD (i + 2) 0) (by omega) (by omega) (by omega) (by omega) hs (by omega) rfl
            by_cases t2 : (s.getD (i + 2) 0).toNat / 64 = 2
            · rw [if_pos t2] at q2
              have q3 := utf_more s i 4 3 (((((s.getD i 0).toNat : Int) - 240) * 64 + ((s.getD (i + 1) 0).toNat : Int) - 128) * 64 + ((s.getD (i + 2) 0).toNat : Int) - 128) (s.getD (i + 3) 0) (by omega) (by omega) (by omega) (by omega) hs (by omega) rfl
              by_cases t3 : (s.getD (i + 3) 0).toNat / 64 = 2
              · rw [if_pos t3] at q3
                refine (utfT_all (n := 4) (by omega) hs (by omega) (q.trans (q2.trans (q3.trans (utf_end s i 4 _))))).trans ?_
                split
                · rw [show utfN (s.drop i) = 0 by rw [hu]; exact if_neg (by omega)]
                  rfl
                · rw [show utfN (s.drop i) = 4 by rw [hu]; exact if_pos (by omega)]
                  rfl
              · rw [if_neg t3] at q3
                refine (utfT_no (n := 4) (by omega) hs (by omega) (q.trans (q2.trans q3))).trans ?_
                rw [show utfN (s.drop i) = 0 by rw [hu]; exact if_neg (by omega)]
                rfl
            · rw [if_neg t2] at q2
              refine (utfT_no (n := 4) (by omega) hs (by omega) (q.trans q2)).trans ?_
              rw [show utfN (s.drop i) = 0 by rw [hu]; exact if_neg (by omega)]
              rfl
          · rw [if_neg t1] at q
            refine (utfT_no (n := 4) (by omega) hs (by omega) q).trans ?_
            rw [show utfN (s.drop i) = 0 by rw [hu]; exact if_neg (by omega)]
            rfl
        · rw [show utfN (s.drop i) = 0 by rw [hu]; exact if_neg (by omega)]
          exact utfT_short (by omega) hs hi hn
      · have hu := utfN_bad (s.drop i) (by rw [d0]; omega)
        rw [hu, bif_decF (show ¬ (((s.getD i 0).toNat : Int) < 245) by omega)]
        rfl
    intro B hB hle
    rw [Int.toNat_natCast, hv]
    by_cases h0 : utfN (s.drop i) = 0
    · right; rw [hB, if_pos h0, if_pos h0]; rfl
    · left
      rw [if_neg h0] at hB
      refine ⟨_, hB, ⟨_, rfl, by omega⟩, by rw [Int.toNat_natCast]; omega, ?_⟩
      rw [Int.toNat_natCast, if_neg h0, List.drop_drop]
  · simp only [Int.toNat_zero, List.drop_zero]
    by_cases h : Go.Lib.validD s = true
    · rw [h]; rfl
    · rw [if_neg h, Bool.eq_false_iff.2 h]; rfl

theorem ref06_Valid_eq (v : ApiValue) (h : v.S.length < 4611686018427387904) : ref06_Valid v = some (val v) := by
  have e1 := ref06_utf8_eq v.S h
  have e2 : ((v.S.length : Int) ≤ 64) = (v.S.length ≤ 64) := propext (by omega)
  obtain ⟨K, N, S⟩ := v
  unfold ref06_Valid val
  simp only [e1, e2, Bool.and_true] at *
  by_cases k0 : K = 0
  · subst k0; cases hN : (N == 0) <;> simp [hN]
  by_cases k1 : K = 1
  · subst k1; simp
  by_cases k2 : K = 2
  · subst k2; simp
  by_cases k3 : K = 3
  · subst k3; by_cases hN : N < 2 <;> simp [hN]
  by_cases k4 : K = 4
  · subst k4; cases hN : (N == 0) <;> simp [hN]
  by_cases k5 : K = 5
  · subst k5; cases hN : (N == 0) <;> by_cases hS : S.length ≤ 64 <;> simp [hN, hS, e1]
  simp [beq_eq_false_iff_ne.2 k0, beq_eq_false_iff_ne.2 k1, beq_eq_false_iff_ne.2 k2, beq_eq_false_iff_ne.2 k3, beq_eq_false_iff_ne.2 k4, beq_eq_false_iff_ne.2 k5]
end Lv
