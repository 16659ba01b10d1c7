/- Plain laws of layer 07: the laws KeyBack and KeyFree. -/
import Derived.Test.YtnlnojicpchmiaaDoorK7j
namespace Lv
open Go Go.Proofs
set_option linter.unusedVariables false
set_option linter.unusedSimpArgs false
set_option linter.unusedSectionVars false
set_option maxRecDepth 100000
variable [BaseTab]

theorem decL_enc : ∀ (l : List ApiValue) (ds : List Bool) (ks : List Int) (t : List UInt8), l.length = ds.length → l.length = ks.length → (∀ v ∈ l, val v = true) → (∀ (i : Nat) (v : ApiValue) (k : Int), l[i]? = some v → ks[i]? = some k → fitK k v) → decL ks ds (encL l ds ++ t) = some (l, t)
  | [], ds, ks, t, h1, h2, _, _ => by
    have e2 : ks = [] := List.eq_nil_of_length_eq_zero (by simpa using h2.symm)
    subst e2
    simp [encL, decL]
  | v :: l, [], ks, t, h1, _, _, _ => by simp at h1
  | v :: l, d :: ds, [], t, _, h2, _, _ => by simp at h2
  | v :: l, d :: ds, k :: ks, t, h1, h2, hv, hf => by
    have ih := decL_enc l ds ks t (by simpa using h1) (by simpa using h2) (fun w hw => hv w (List.mem_cons_of_mem _ hw)) (fun i w k' a b => hf (i + 1) w k' (by simpa using a) (by simpa using b))
    simp only [encL, decL]
    rw [List.append_assoc, turn_append, turn_turn, decV_enc k v _ (hv v (List.mem_cons_self ..)) (hf 0 v k rfl rfl)]
    simp only
    rw [List.drop_left' (turn_len _ _), ih]
    rfl
theorem turn_take (d : Bool) (b : List UInt8) (n : Nat) : turn d (b.take n) = (turn d b).take n := by cases d <;> simp [turn, List.map_take]
theorem enc_decL : ∀ (ks : List Int) (ds : List Bool) (b : List UInt8) (l : List ApiValue) (t : List UInt8), ks.length = ds.length → (∀ k ∈ ks, 1 ≤ k ∧ k ≤ 5) → decL ks ds b = some (l, t) →
    encL l ds ++ t = b ∧ l.length = ks.length ∧ (∀ v ∈ l, val v = true) ∧ (∀ (i : Nat) (v : ApiValue) (k : Int), l[i]? = some v → ks[i]? = some k → fitK k v)
  | [], ds, b, l, t, h1, _, h => by
    simp [decL] at h
    obtain ⟨rfl, rfl⟩ := h
    simp [encL]
  | k :: ks, [], b, l, t, h1, _, h => by simp at h1
  | k :: ks, d :: ds, b, l, t, h1, hk, h => by
    simp only [decL] at h
    cases hd : decV k (turn d b) with
    | none => rw [hd] at h; cases h
    | some z =>
      obtain ⟨v, n⟩ := z
      rw [hd] at h
      simp only at h
      cases hl : decL ks ds (b.drop n) with
      | none => rw [hl] at h; cases h
      | some y =>
        obtain ⟨l', t'⟩ := y
        rw [hl] at h
        injection h with h; injection h with e1 e2
        subst e1; subst e2
        obtain ⟨q1, q2, q3, q4⟩ := enc_decL ks ds (b.drop n) l' t' (by simpa using h1) (fun k' hk' => hk k' (List.mem_cons_of_mem _ hk')) hl
        obtain ⟨m1, m2, m3⟩ := enc_decV hd (hk k (List.mem_cons_self ..))
        refine ⟨?_, by simp [q2], fun w hw => ?_, fun i w k' a b' => ?_⟩
        · simp only [encL]
          rw [List.append_assoc, q1, ← m1, ← turn_take, turn_turn, List.take_append_drop]
        · rcases List.mem_cons.1 hw with rfl | hw
          · exact m2
          · exact q3 w hw
        · cases i with
          | zero => simp at a b'; subst a; subst b'; exact m3
          | succ i => exact q4 i w k' (by simpa using a) (by simpa using b')

theorem goodK {k : Int} (h : badK k = false) : 1 ≤ k ∧ k ≤ 5 := by
  unfold badK at h
  simp only [Bool.or_eq_false_iff, decide_eq_false_iff_not] at h
  omega
theorem goodKs {ks : List Int} (h : ks.any badK = false) : ∀ k ∈ ks, 1 ≤ k ∧ k ≤ 5 := fun k hk => by
  rw [List.any_eq_false] at h
  exact goodK (by simpa using h k hk)
theorem goodVs {l : List ApiValue} (h : l.any bad = false) : ∀ v ∈ l, val v = true := fun v hv => by
  rw [List.any_eq_false] at h
  have := h v hv
  unfold bad at this
  simpa using this
theorem noBad {l : List ApiValue} (h : ∀ v ∈ l, val v = true) : l.any bad = false := by
  rw [List.any_eq_false]
  intro v hv
  unfold bad
  simp [h v hv]

/-- What a key's code tells. -/
theorem encS_ok {l : List ApiValue} {ds : List Bool} (h : (encS l ds).2 = 0) : l.length = ds.length ∧ l.any bad = false ∧ (encL l ds).length ≤ 256 ∧ encS l ds = (encL l ds, 0) := by
  unfold encS at h ⊢
  split at h
  · rename_i h1
    split at h
    · cases h
    · rename_i h2
      split at h
      · cases h
      · rename_i h3
        refine ⟨h1, by simpa using h2, by omega, ?_⟩
        rw [if_pos h1, if_neg h2, if_neg h3]
  · cases h
theorem decS_ok {ks : List Int} {ds : List Bool} {b : List UInt8} (h : (decS ks ds b).2 = 0) : ks.length = ds.length ∧ ks.any badK = false ∧ b.length ≤ 256 ∧ ∃ l, decL ks ds b = some (l, []) ∧ decS ks ds b = (l, 0) := by
  unfold decS at h ⊢
  split at h
  · rename_i h1
    split at h
    · cases h
    · rename_i h2
      split at h
      · cases h
      · rename_i h3
        refine ⟨h1, by simpa using h2, by omega, ?_⟩
        rw [if_pos h1, if_neg h2, if_neg h3]
        cases hd : decL ks ds b with
        | none => rw [hd] at h; cases h
        | some y =>
          obtain ⟨l, t⟩ := y
          rw [hd] at h
          unfold endR at h ⊢
          simp only at h ⊢
          split at h
          · rename_i ht; subst ht; exact ⟨l, rfl, if_pos rfl⟩
          · cases h
  · cases h
theorem decS_bad {ks : List Int} {ds : List Bool} {b : List UInt8} (h : (decS ks ds b).2 ≠ 0) : (decS ks ds b).1 = [] := by
  unfold decS at h ⊢
  repeat' split
  all_goals first | rfl | skip
  rename_i h1 h2 h3
  rw [if_pos h1, if_neg h2, if_neg h3] at h
  unfold endR at h ⊢
  repeat' split
  all_goals first | rfl | skip
  rename_i hd ht
  rw [hd] at h
  simp only at h
  rw [if_pos ht] at h
  exact absurd rfl h

/-- A row that is filled place by place. -/
def filled {α : Type} (f : α → Int) (l : List α) (i : Nat) : List Int := (l.take i).map f ++ List.replicate (l.length - i) 0
theorem filled_zero {α : Type} (f : α → Int) (l : List α) : filled f l 0 = List.replicate l.length 0 := by simp [filled]
theorem filled_all {α : Type} (f : α → Int) (l : List α) : filled f l l.length = l.map f := by simp [filled]
theorem filled_get {α : Type} (f : α → Int) (l : List α) {i : Nat} (h : i < l.length) : ∃ x, (filled f l i)[i]? = some x := by
  have : i < (filled f l i).length := by simp [filled]; omega
  exact ⟨_, List.getElem?_eq_getElem this⟩
theorem filled_len {α : Type} (f : α → Int) (l : List α) {i : Nat} (h : i ≤ l.length) : (filled f l i).length = l.length := by simp [filled]; omega
theorem filled_set {α : Type} (f : α → Int) (l : List α) {i : Nat} (h : i < l.length) {x : Int} (hx : x = f (l[i]'h)) : (filled f l i).set i x = filled f l (i + 1) := by
  unfold filled
  rw [List.set_append_right _ _ (by simp; omega)]
  have : i - ((l.take i).map f).length = 0 := by simp; omega
  have e : l.length - i = (l.length - (i + 1)) + 1 := by omega
  rw [this, e, List.replicate_succ, List.set_cons_zero, List.take_succ_eq_append_getElem h, List.map_append, List.append_assoc, hx]
  rfl
theorem set_get {α : Type} {l : List α} {i : Nat} {x : α} (h : i < l.length) : (l.set i x)[i]? = some x := by simp [h]

def ownK (v : ApiValue) : Int := if v.Kind = 0 then 1 else v.Kind

theorem KeyBack_true (l : List ApiValue) (ds : List Bool) (ks : List Int) (s : List UInt8) (h : Sm l) (hk : ks.length ≤ 1048576) (hs : s.length ≤ 1048576) : law07_KeyBack l ds ks s = some true := by
  have hl := h.len
  unfold law07_KeyBack
  rw [show awakeF = some () from rfl, bind_some', key_Encode_eq l ds h, bind_some']
  have second : ∀ w : Unit, (Option.bind (key_Decode ks ds s) fun (r455, r456) =>
      bif (r456 != (0 : Int)) then
        some ((r455.length : Int) == (0 : Int))
      else
        Option.bind (key_Encode r455 ds) fun (r459, r460) =>
        Option.bind (α := Bool)
          (bif (r460 == (0 : Int)) then
            some (r459 == s)
          else
            some false)
          fun y463 =>
        some y463) = some true := by
    intro _
    rw [key_Decode_eq ks ds s hk, bind_some']
    by_cases hc : (decS ks ds s).2 = 0
    · obtain ⟨d1, d2, d3, l', d4, d5⟩ := decS_ok hc
      rw [d5]
      obtain ⟨q1, q2, q3, _⟩ := enc_decL ks ds s l' [] d1 (goodKs d2) d4
      rw [List.append_nil] at q1
      have hsm : Sm l' := ⟨by omega, fun v hv => by have := val_short (q3 v hv); omega⟩
      show Option.bind (key_Encode l' ds) _ = _
      rw [key_Encode_eq l' ds hsm, bind_some']
      have : encS l' ds = (s, 0) := by
        unfold encS
        rw [if_pos (by omega), if_neg (by rw [noBad q3]; simp), if_neg (by rw [q1]; omega), q1]
      rw [this]
      show Option.bind (some (s == s)) _ = _
      rw [BEq.rfl]
      rfl
    · have := decS_bad hc
      generalize decS ks ds s = y at hc this
      obtain ⟨y1, y2⟩ := y
      simp only at hc this
      subst this
      show (bif (y2 != 0) then _ else _) = _
      rw [show (y2 != 0) = true by simpa using hc]
      rfl
  by_cases hc : (encS l ds).2 = 0
  rotate_left
  · generalize encS l ds = x at hc
    obtain ⟨x1, x2⟩ := x
    simp only at hc
    show bindE (bif (x2 == 0) then _ else _) _ _ = _
    rw [beq_eq_false_iff_ne.2 hc, cond_false, bindE_l]
    exact second ()
  obtain ⟨e1, e2, e3, e4⟩ := encS_ok hc
  rw [e4]
  show bindE (bif decide (0 ≤ (l.length : Int) ∧ (l.length : Int) * 8 ≤ 70368744177664 ∧ (l.length : Int) ≤ 70368744177664) then _ else none) _ _ = _
  rw [bif_decT (by omega), Int.toNat_natCast]
  have q := loop_seq (B := (fun (y410, y411) =>
            bif (decide (y411 < (l.length : Int))) then
              Option.bind (α := (List Int))
                (Option.bind (getI l y411) fun v437 =>
                Option.bind (getI y410 y411) fun v438 =>
                Option.bind (getI (List.set y410 y411.toNat v437.Kind) y411) fun v439 =>
                bif (v439 == (0 : Int)) then
                  Option.bind (getI (List.set y410 y411.toNat v437.Kind) y411) fun v441 =>
                  some (List.set (List.set y410 y411.toNat v437.Kind) y411.toNat (1 : Int))
                else
                  some (List.set y410 y411.toNat v437.Kind))
                fun y435 =>
              some (Sum.inl (y435, (w64 (y411 + (1 : Int)))))
            else
              some (Sum.inr y410))) (fun i => (filled ownK l i, (i : Int))) l.length (w := l.map ownK) ?_ ?_
  · rw [filled_zero] at q
    rw [show (loop _ (List.replicate l.length (0 : Int), (0 : Int))) = _ from q, bind_some', bind_some']
    have hd := key_Decode_eq (l.map ownK) ds (encL l ds) (by simpa using hl)
    have hdec : decS (l.map ownK) ds (encL l ds) = (l, 0) := by
      have hkn : (l.map ownK).any badK = false := by
        rw [List.any_eq_false]
        intro k hk
        obtain ⟨v, hv, rfl⟩ := List.mem_map.1 hk
        have := val_kind (goodVs e2 v hv)
        unfold badK ownK
        simp only [Bool.or_eq_true, decide_eq_true_eq]
        split <;> omega
      have := decL_enc l ds (l.map ownK) [] e1 (by simp) (goodVs e2) (fun i v k a b => by
        rw [List.getElem?_map, a] at b
        injection b with b
        subst b
        unfold fitK ownK
        split
        · left; assumption
        · right; rfl)
      rw [List.append_nil] at this
      unfold decS
      rw [if_pos (by simpa using e1), if_neg (by rw [hkn]; simp), if_neg (by omega), this]
      rfl
    rw [hd, hdec]
    show bindE (Option.bind (bif ((0 : Int) != 0) then _ else Option.bind (raw_Values l l) _) _) _ _ = _
    rw [show ((0 : Int) != 0) = false from rfl, cond_false, Values_eq l l (by omega), decide_eq_true rfl]
    exact second ()
  · intro i hi
    obtain ⟨x, hx⟩ := filled_get ownK l hi
    have hfl := filled_len ownK l (Nat.le_of_lt hi)
    show (bif _ then Option.bind (Option.bind (getI l (i : Int)) fun v => Option.bind (getI (filled ownK l i) (i : Int)) _) _ else _) = _
    rw [bif_decT (by omega), getI_at hi, bind_some', getI_nat, hx, bind_some']
    show Option.bind (Option.bind (getI ((filled ownK l i).set i l[i].Kind) (i : Int)) fun v => bif (v == 0) then Option.bind (getI ((filled ownK l i).set i l[i].Kind) (i : Int)) fun _ => some (((filled ownK l i).set i l[i].Kind).set i 1) else some ((filled ownK l i).set i l[i].Kind)) _ = _
    rw [getI_nat, set_get (by omega), bind_some', bind_some']
    by_cases k0 : l[i].Kind = 0
    · rw [k0, BEq.rfl, cond_true, bind_some', List.set_set, filled_set ownK l hi (by unfold ownK; rw [if_pos k0])]
      show some (Sum.inl (_, w64 ((i : Int) + 1))) = _
      rw [w64_succ (by omega)]
    · rw [beq_eq_false_iff_ne.2 k0, cond_false, bind_some', filled_set ownK l hi (by unfold ownK; rw [if_neg k0])]
      show some (Sum.inl (_, w64 ((i : Int) + 1))) = _
      rw [w64_succ (by omega)]
  · show (bif _ then _ else _) = _
    rw [bif_decF (by omega), filled_all]
end Lv
