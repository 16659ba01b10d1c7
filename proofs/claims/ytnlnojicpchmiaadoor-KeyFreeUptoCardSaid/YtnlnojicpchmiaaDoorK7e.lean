/- Plain laws of layer 07: keys of lists. -/
import Derived.Test.YtnlnojicpchmiaaDoorK7d
namespace Lv
open Go Go.Proofs
set_option linter.unusedVariables false
set_option linter.unusedSimpArgs false
set_option linter.unusedSectionVars false
set_option maxRecDepth 100000
variable [BaseTab]

/-- A list of a bounded size. -/
structure Sm (l : List ApiValue) : Prop where
  len : l.length ≤ 1048576
  txt : ∀ v ∈ l, v.S.length ≤ 1048576
theorem Sm.get {l : List ApiValue} (h : Sm l) {i : Nat} (hi : i < l.length) : (l[i]'hi).S.length ≤ 1048576 := h.txt _ (List.getElem_mem hi)
def bad (v : ApiValue) : Bool := !val v
def encL : List ApiValue → List Bool → List UInt8
  | v :: l, d :: ds => turn d (enc v) ++ encL l ds
  | _, _ => []
def encS (l : List ApiValue) (ds : List Bool) : List UInt8 × Int :=
  if l.length = ds.length then
    if l.any bad = true then ([], 8) else if (encL l ds).length > 256 then ([], 7) else (encL l ds, 0)
  else ([], 1)
theorem encL_take : ∀ (l : List ApiValue) (ds : List Bool) (i : Nat) (h : i < l.length) (h2 : i < ds.length), encL (l.take (i + 1)) (ds.take (i + 1)) = encL (l.take i) (ds.take i) ++ turn ds[i] (enc l[i])
  | v :: l, d :: ds, 0, h, h2 => by simp [encL]
  | v :: l, d :: ds, i + 1, h, h2 => by
    simp only [List.take_succ_cons, encL, List.getElem_cons_succ]
    rw [encL_take l ds i (by simpa using h) (by simpa using h2), List.append_assoc]
theorem val_short {v : ApiValue} (h : val v = true) : v.S.length ≤ 64 := by
  unfold val at h
  simp only [Bool.or_eq_true, Bool.and_eq_true, beq_iff_eq, decide_eq_true_eq] at h
  rcases h with (((⟨_, _, h⟩ | ⟨_, h⟩) | ⟨_, _, h⟩) | ⟨_, _, h⟩) | ⟨_, _, h, _⟩
  · rw [h]; simp
  · rw [h]; simp
  · rw [h]; simp
  · exact h
  · exact h
theorem enc_short {v : ApiValue} (h : val v = true) : (enc v).length ≤ 137 := by
  have := body_len v
  have := val_short h
  unfold enc
  simp; omega
theorem encL_short : ∀ (l : List ApiValue) (ds : List Bool), l.any bad = false → (encL l ds).length ≤ 137 * l.length
  | [], ds, _ => by simp [encL]
  | v :: l, [], _ => by simp [encL]
  | v :: l, d :: ds, h => by
    rw [List.any_cons, Bool.or_eq_false_iff] at h
    have := enc_short (v := v) (by have := h.1; unfold bad at this; simpa using this)
    have := encL_short l ds h.2
    simp [encL, turn_len]
    omega
theorem any_take {α : Type} (p : α → Bool) (l : List α) (i : Nat) (h : l.any p = false) : (l.take i).any p = false := by
  rw [List.any_eq_false] at h ⊢
  exact fun x hx => h x (List.mem_of_mem_take hx)

theorem Encode_1_eq (v : ApiValue) (h : v.S.length ≤ 1048576) : key_Encode_1 v = some (bad v) := by
  unfold key_Encode_1; rw [value_Valid_eq v (by omega)]; rfl
theorem anyBad_eq (l : List ApiValue) (h : Sm l) : slices_ContainsFunc_api_Value_api_Value l = some (l.any bad) := by
  unfold slices_ContainsFunc_api_Value_api_Value slices_IndexFunc_api_Value_api_Value
  have hl := h.len
  have q := loop_search (B := (fun y69 =>
        bif (decide (y69 < (l.length : Int))) then
          Option.bind (getI l y69) fun v79 =>
          Option.bind (key_Encode_1 v79) fun r80 =>
          bif r80 then
            some (Sum.inr (Sum.inr y69))
          else
            some (Sum.inl (w64 (y69 + (1 : Int))))
        else
          some (Sum.inr (Sum.inl ())))) l bad (fun i => .inr (i : Int)) (.inl ()) (fun i hi => by
      show (bif _ then _ else _) = _
      rw [bif_decT (by omega), getI_at hi, bind_some', Encode_1_eq _ (h.get hi), bind_some']
      cases bad l[i]
      · rw [cond_false, w64_succ (by omega)]; rfl
      · rfl) (by
      show (bif _ then _ else _) = _
      rw [bif_decF (by omega)])
  rcases q with ⟨q1, i, _, _, q2⟩ | ⟨q1, q2⟩
  · rw [show (loop _ (0 : Int)) = _ from q2, q1]
    show some (decide ((i : Int) ≥ 0)) = _
    rw [decide_eq_true (by omega)]
  · rw [show (loop _ (0 : Int)) = _ from q2, q1]
    rfl

theorem key_Encode_eq (l : List ApiValue) (ds : List Bool) (h : Sm l) : key_Encode l ds = some (encS l ds) := by
  unfold key_Encode encS
  have hl := h.len
  by_cases he : l.length = ds.length
  rotate_left
  · rw [if_neg he, show ((l.length : Int) != (ds.length : Int)) = true by simp; omega]; rfl
  rw [if_pos he, show ((l.length : Int) != (ds.length : Int)) = false by simp; omega, cond_false, anyBad_eq l h, bind_some']
  cases hb : l.any bad with
  | true => rfl
  | false =>
    rw [cond_false, if_neg (by simp)]
    have hs := encL_short l ds hb
    have q := loop_seq (B := (fun (y97, y98) =>
            bif (decide (y98 < (l.length : Int))) then
              Option.bind (getI l y98) fun v110 =>
              Option.bind (getI ds y98) fun v111 =>
              Option.bind (key_one v110 v111) fun r112 =>
              bif decide ((y97.length + r112.length) * 1 ≤ room) then
              some (Sum.inl ((y97 ++ r112), (w64 (y98 + (1 : Int)))))
              else none
            else
              some (Sum.inr y97))) (fun i => (encL (l.take i) (ds.take i), (i : Int))) l.length (w := encL l ds) ?_ ?_
    · rw [show (loop _ (([] : List UInt8), (0 : Int))) = _ from q, bind_some', bind_some']
      by_cases hlen : (encL l ds).length > 256
      · rw [if_pos hlen, bif_decT (by omega)]
      · rw [if_neg hlen, bif_decF (by omega)]
    · intro i hi
      have h1 := encL_short (l.take i) (ds.take i) (any_take _ _ _ hb)
      have h2 := enc_short (v := l[i]) (by rw [List.any_eq_false] at hb; have := hb _ (List.getElem_mem hi); unfold bad at this; simpa using this)
      rw [List.length_take, Nat.min_eq_left (Nat.le_of_lt hi)] at h1
      show (bif _ then _ else _) = _
      rw [bif_decT (by omega), getI_at hi, bind_some', getI_at (by omega), bind_some', key_one_eq _ _ (h.get hi), bind_some', bif_decT (by rw [room_val, turn_len]; omega), w64_succ (by omega), encL_take l ds i hi (by omega)]
    · show (bif _ then _ else _) = _
      rw [bif_decF (by omega), List.take_length, he, List.take_length]

theorem ref07_Encode_eq (l : List ApiValue) (ds : List Bool) (h : Sm l) : ref07_Encode l ds = some (encS l ds) := by
  unfold ref07_Encode encS
  have hl := h.len
  by_cases he : l.length = ds.length
  rotate_left
  · rw [if_neg he, show ((l.length : Int) != (ds.length : Int)) = true by simp; omega]; rfl
  rw [if_pos he, show ((l.length : Int) != (ds.length : Int)) = false by simp; omega, cond_false]
  have q0 := loop_any (B := (fun y75 =>
          bif (decide (y75 < (l.length : Int))) then
            Option.bind (getI l y75) fun v85 =>
            Option.bind (ref06_Valid v85) fun r86 =>
            bif (!r86) then
              some (Sum.inr (Sum.inr (([] : List UInt8), (8 : Int))))
            else
              some (Sum.inl (w64 (y75 + (1 : Int))))
          else
            some (Sum.inr (Sum.inl ())))) l bad (.inr (([] : List UInt8), (8 : Int))) (.inl ()) (fun i hi => by
      show (bif _ then _ else _) = _
      rw [bif_decT (by omega), getI_at hi, bind_some', ref06_Valid_eq _ (by have := h.get hi; omega), bind_some']
      show (bif bad l[i] then _ else _) = _
      cases bad l[i]
      · rw [cond_false, w64_succ (by omega)]; rfl
      · rfl) (by
      show (bif _ then _ else _) = _
      rw [bif_decF (by omega)])
  rw [show (loop _ (0 : Int)) = _ from q0]
  cases hb : l.any bad with
  | true => rfl
  | false =>
    rw [if_neg (by simp), if_neg (by simp), bind_some', Sum.elim_inl, bindE_l]
    have hs := encL_short l ds hb
    have q := loop_seq (B := (fun (y107, y108) =>
        bif (decide (y108 < (l.length : Int))) then
          Option.bind (getI l y108) fun v122 =>
          Option.bind (getI ds y108) fun v123 =>
          Option.bind (ref07_part v122 v123) fun (r124, r125) =>
          bif decide (0 + r125 ≤ r124.length) then
          bif decide ((y107.length + (List.take r125 (List.drop 0 r124)).length) * 1 ≤ room) then
          some (Sum.inl ((y107 ++ (List.take r125 (List.drop 0 r124))), (w64 (y108 + (1 : Int)))))
          else none
          else none
        else
          some (Sum.inr y107))) (fun i => (encL (l.take i) (ds.take i), (i : Int))) l.length (w := encL l ds) ?_ ?_
    · unfold ref07_Key
      rw [show (loop _ (([] : List UInt8), (0 : Int))) = _ from q, bind_some', bind_some', bind_some']
      by_cases hlen : (encL l ds).length > 256
      · rw [if_pos hlen, bif_decT (by omega)]
      · rw [if_neg hlen, bif_decF (by omega)]
    · intro i hi
      have h1 := encL_short (l.take i) (ds.take i) (any_take _ _ _ hb)
      have h2 := enc_short (v := l[i]) (by rw [List.any_eq_false] at hb; have := hb _ (List.getElem_mem hi); unfold bad at this; simpa using this)
      rw [List.length_take, Nat.min_eq_left (Nat.le_of_lt hi)] at h1
      show (bif _ then _ else _) = _
      rw [bif_decT (by omega), getI_at hi, bind_some', getI_at (by omega), bind_some', ref07_part_eq _ _ (h.get hi), bind_some']
      have e : List.take (enc l[i]).length (List.drop 0 (turn ds[i] (enc l[i]))) = turn ds[i] (enc l[i]) := by
        rw [List.drop_zero, List.take_of_length_le (by rw [turn_len]; omega)]
      show (bif decide (0 + (enc l[i]).length ≤ (turn ds[i] (enc l[i])).length) then _ else _) = _
      rw [e, bif_decT (by rw [turn_len]; omega), bif_decT (by rw [room_val, turn_len]; omega), w64_succ (by omega), encL_take l ds i hi (by omega)]
    · show (bif _ then _ else _) = _
      rw [bif_decF (by omega), List.take_length, he, List.take_length]
end Lv
