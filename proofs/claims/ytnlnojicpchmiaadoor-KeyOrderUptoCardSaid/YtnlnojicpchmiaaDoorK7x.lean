/- Part of the proof of a law. -/
import Derived.Test.YtnlnojicpchmiaaDoorXAll
import Derived.Test.YtnlnojicpchmiaaDoorGwPlain
import Derived.Lib.ValidLaws
/- Plain laws of layer 07: values that are right. -/
namespace Lv
open Go Go.Proofs
set_option linter.unusedVariables false
set_option linter.unusedSimpArgs false
set_option linter.unusedSectionVars false
set_option maxRecDepth 100000
variable [BaseTab]
/-- What a value may be. -/
def val (v : ApiValue) : Bool :=
  (v.Kind == 0 && (v.N == 0 && v.S == [])) || ((v.Kind == 1 || v.Kind == 2) && v.S == []) || (v.Kind == 3 && (decide (v.N < 2) && v.S == [])) ||
  (v.Kind == 4 && (v.N == 0 && decide (v.S.length ≤ 64))) || (v.Kind == 5 && (v.N == 0 && (decide (v.S.length ≤ 64) && Go.Lib.validD v.S)))
theorem value_Valid_eq (v : ApiValue) (h : v.S.length < 4611686018427387904) : value_Valid v = some (val v) := by
  have e1 : validF v.S = some (Go.Lib.validD v.S) := by unfold validF; rw [if_pos (by omega)]
  have e2 : ((v.S.length : Int) ≤ 64) = (v.S.length ≤ 64) := propext (by omega)
  have e3 : (v.N ≤ 1) = (v.N < 2) := propext (by rw [UInt64.le_iff_toNat_le, UInt64.lt_iff_toNat_lt]; show _ ≤ 1 ↔ _ < 2; omega)
  obtain ⟨K, N, S⟩ := v
  unfold value_Valid val
  simp only [e1, e2, e3, eqApiValue, Bool.and_true] at *
  by_cases k0 : K = 0
  · subst k0; simp
  by_cases k1 : K = 1
  · subst k1; simp
  by_cases k2 : K = 2
  · subst k2; simp
  by_cases k3 : K = 3
  · subst k3; by_cases hN : N < 2 <;> simp [hN]
  by_cases k4 : K = 4
  · subst k4; cases hN : (N == 0) <;> simp [hN]
  by_cases k5 : K = 5
  · subst k5; cases hN : (N == 0) <;> by_cases hS : S.length ≤ 64 <;> simp [hN, hS]
  simp [beq_eq_false_iff_ne.2 k0, beq_eq_false_iff_ne.2 k1, beq_eq_false_iff_ne.2 k2, beq_eq_false_iff_ne.2 k3, beq_eq_false_iff_ne.2 k4, beq_eq_false_iff_ne.2 k5]
end Lv
/- Plain laws of layer 07: keys of values, keys of lists. -/
namespace Lv
open Go Go.Proofs
set_option linter.unusedVariables false
set_option linter.unusedSimpArgs false
set_option linter.unusedSectionVars false
set_option maxRecDepth 100000
variable [BaseTab]
/-- A number's low bytes, the highest first. -/
def bytesN (n : UInt64) : Nat → List UInt8
  | 0 => []
  | k + 1 => UInt8.ofNat (n.toNat / 2 ^ (8 * k)) :: bytesN n k
theorem bytesN_len (n : UInt64) : ∀ k, (bytesN n k).length = k
  | 0 => rfl
  | k + 1 => by simp [bytesN, bytesN_len n k]
theorem low8 (n : UInt64) : n.toUInt8 = UInt8.ofNat (n.toNat / 2 ^ (8 * 0)) := by
  rw [← UInt8.toNat_inj]; simp
/-- Turned, or not. -/
def turn (d : Bool) (b : List UInt8) : List UInt8 := if d then b.map (fun x => ~~~ x) else b
theorem turn_len (d : Bool) (b : List UInt8) : (turn d b).length = b.length := by cases d <;> simp [turn]
theorem turn_turn (d : Bool) (b : List UInt8) : turn d (turn d b) = b := by
  cases d with
  | false => rfl
  | true =>
    show List.map _ (List.map _ b) = b
    rw [List.map_map]
    exact (List.map_congr_left (fun x _ => UInt8.not_not)).trans (List.map_id b)
theorem turn_append (d : Bool) (a b : List UInt8) : turn d (a ++ b) = turn d a ++ turn d b := by cases d <;> simp [turn]
theorem key_turned_eq (b : List UInt8) (h : b.length < 4611686018427387904) : key_turned b = some (b.map (fun x => ~~~ x)) := by
  unfold key_turned
  have q := loop_seq (B := (fun (y57, y58) =>
        bif (decide (y58 < (b.length : Int))) then
          Option.bind (getI y57 y58) fun v67 =>
          Option.bind (getI y57 y58) fun v68 =>
          some (Sum.inl ((List.set y57 y58.toNat (~~~ v67)), (w64 (y58 + (1 : Int)))))
        else
          some (Sum.inr y57))) (fun i => (mapped (fun x => ~~~ x) b i, (i : Int))) b.length (w := b.map (fun x => ~~~ x)) ?_ ?_
  · rw [mapped_zero] at q
    rw [show (loop _ (b, (0 : Int))) = _ from q]
    rfl
  · intro i hi
    show (bif _ then _ else _) = _
    rw [bif_decT (by omega), getI_nat, mapped_get _ _ hi, bind_some', bind_some', w64_succ (by omega), Int.toNat_natCast]
    exact congrArg (fun x => some (Sum.inl (x, _))) (mapped_set _ _ hi)
  · show (bif _ then _ else _) = _
    rw [bif_decF (by omega), mapped_all]
/-- NULs marked. -/
def esc : List UInt8 → List UInt8
  | [] => []
  | x :: r => if x = 0 then 0 :: 255 :: esc r else x :: esc r
theorem esc_len : ∀ s, (esc s).length ≤ 2 * s.length
  | [] => by simp [esc]
  | x :: r => by have := esc_len r; unfold esc; split <;> simp <;> omega
open Go.Lib in
theorem index0_cons (b : UInt8) (l : List UInt8) : index (b :: l) [0] = if b = 0 then 0 else if index l [0] = -1 then -1 else index l [0] + 1 := by
  conv => lhs; unfold index
  by_cases hb : b = 0
  · subst hb; simp [List.isPrefixOf]
  · rw [if_neg hb]
    rw [if_neg (by simp [List.isPrefixOf]; exact fun h => hb h.symm)]
    by_cases h : index l [0] = -1
    · simp [h]
    · rw [if_neg h, if_neg (by simpa using h)]
open Go.Lib in
theorem replK0_cons (b : UInt8) (l new : List UInt8) (hb : b ≠ 0) : ∀ k, replaceK [0] new k (b :: l) = b :: replaceK [0] new k l
  | 0 => rfl
  | k + 1 => by
    have h := index0_cons b l
    rw [if_neg hb] at h
    unfold replaceK
    by_cases hm : index l [0] = -1
    · rw [if_pos hm] at h
      rw [h, hm]; rfl
    · have hge := index_ge l [0]
      rw [if_neg hm] at h
      rw [if_neg (by rw [h]; intro e; have := beq_iff_eq.1 e; omega), if_neg (by intro e; exact hm (beq_iff_eq.1 e)), h]
      have e1 : (index l [0] + 1).toNat = (index l [0]).toNat + 1 := by omega
      rw [e1, List.take_succ_cons, Nat.add_right_comm, List.drop_succ_cons]
      simp
open Go.Lib in
theorem count0_cons (b : UInt8) (l : List UInt8) : count (b :: l) [0] = if b = 0 then 1 + count l [0] else count l [0] := by
  have h := index0_cons b l
  by_cases hb : b = 0
  · rw [if_pos hb] at h ⊢
    exact count_hit (i := 0) (by simp) h
  · rw [if_neg hb] at h ⊢
    by_cases hm : index l [0] = -1
    · rw [if_pos hm] at h
      rw [count_miss h, count_miss hm]
    · have hge := index_ge l [0]
      rw [if_neg hm] at h
      have e1 : index (b :: l) [0] = ((index l [0]).toNat + 1 : Nat) := by omega
      have e2 : index l [0] = ((index l [0]).toNat : Nat) := by omega
      rw [count_hit (by simp) e1, count_hit (s := l) (by simp) e2]
      rfl
open Go.Lib in
theorem replace_esc (s : List UInt8) : replaceAll s [0] [0, 255] = esc s := by
  have e : replaceNum s [0] (-1) = count s [0] := by unfold replaceNum; rw [if_pos (.inl (by omega))]
  unfold replaceAll replace
  rw [if_neg (by decide), e]
  induction s with
  | nil => rfl
  | cons b l ih =>
    rw [count0_cons]
    unfold esc
    by_cases hb : b = 0
    · have h := index0_cons b l
      rw [if_pos hb] at h
      rw [if_pos hb, if_pos hb, Nat.add_comm, replaceK_hit _ _ _ _ 0 h]
      have e : replaceNum l [0] (-1) = count l [0] := by unfold replaceNum; rw [if_pos (.inl (by omega))]
      simp only [List.take_zero, List.nil_append, List.length_singleton, Nat.zero_add, List.drop_succ_cons, List.drop_zero]
      rw [ih e]; rfl
    · rw [if_neg hb, if_neg hb, replK0_cons _ _ _ hb, ih (by unfold replaceNum; rw [if_pos (.inl (by omega))])]
theorem replF_esc (s : List UInt8) (h : s.length ≤ 1048576) : replF s ([0] : List UInt8) ([0, 255] : List UInt8) = some (esc s) := by
  unfold replF
  have := Go.Lib.count_le s [0]
  rw [if_pos ⟨by omega, by simp, (by show s.length + Go.Lib.count s [0] * 2 ≤ _; omega)⟩, replace_esc]
/-- What lies behind the first byte. -/
def body (v : ApiValue) : List UInt8 :=
  if v.Kind = 1 then bytesN (v.N ^^^ 9223372036854775808) 8 else if v.Kind = 2 then bytesN v.N 8 else if v.Kind = 3 then bytesN v.N 1
  else if v.Kind = 4 ∨ v.Kind = 5 then esc v.S ++ [0, 0] else []
def enc (v : ApiValue) : List UInt8 := (if v.Kind = 0 then 0 else 1) :: body v
theorem body_len (v : ApiValue) : (body v).length ≤ 2 * v.S.length + 8 := by
  unfold body
  have := esc_len v.S
  repeat' split
  all_goals simp [bytesN_len] <;> omega
end Lv
/- Plain laws of layer 07: the program's keys and the document's. -/
namespace Lv
open Go Go.Proofs
set_option linter.unusedVariables false
set_option linter.unusedSimpArgs false
set_option linter.unusedSectionVars false
set_option maxRecDepth 100000
variable [BaseTab]
theorem out_put1 (a b : List UInt8) (h : b.length + a.length ≤ 70368744177664) : pack_Out_put_1 a b = some () := by
  unfold pack_Out_put_1; rw [bif_decT (by rw [room_val]; omega)]
theorem u16_hi (n : UInt64) (m : Nat) (x : UInt16) (h : x.toNat = n.toNat / 2 ^ m % 65536) : (shr16 x 8).toUInt8 = UInt8.ofNat (n.toNat / 2 ^ (m + 8)) := by
  unfold shr16
  rw [← UInt8.toNat_inj]
  have hx := x.toNat_lt
  have e : n.toNat / 2 ^ (m + 8) = n.toNat / 2 ^ m / 256 := by rw [Nat.pow_add, Nat.div_div_eq_div_mul]
  simp [UInt16.toNat_ofNat, e]
  omega
theorem u16_lo (n : UInt64) (m : Nat) (x : UInt16) (h : x.toNat = n.toNat / 2 ^ m % 65536) : x.toUInt8 = UInt8.ofNat (n.toNat / 2 ^ m) := by
  rw [← UInt8.toNat_inj]
  simp [h]
  try omega
theorem sh32 (n : UInt64) : (shr64 n 32).toUInt32.toNat = n.toNat / 2 ^ 32 := by
  unfold shr64
  have := n.toNat_lt
  simp [UInt64.toNat_ofNat]
  omega
theorem bytes8_eq (n : UInt64) (acc : List UInt8) : (((acc ++ [((shr16 ((shr32 ((shr64 n 32).toUInt32) 16).toUInt16) 8).toUInt8), (((shr32 ((shr64 n 32).toUInt32) 16).toUInt16).toUInt8)]) ++ [((shr16 (((shr64 n 32).toUInt32).toUInt16) 8).toUInt8), ((((shr64 n 32).toUInt32).toUInt16).toUInt8)]) ++ [((shr16 ((shr32 (n.toUInt32) 16).toUInt16) 8).toUInt8), (((shr32 (n.toUInt32) 16).toUInt16).toUInt8)]) ++ [((shr16 ((n.toUInt32).toUInt16) 8).toUInt8), (((n.toUInt32).toUInt16).toUInt8)] = acc ++ bytesN n 8 := by
  have hn := n.toNat_lt
  have h1 : ((shr32 ((shr64 n 32).toUInt32) 16).toUInt16).toNat = n.toNat / 2 ^ 48 % 65536 := by
    unfold shr32
    have := sh32 n
    simp [UInt32.toNat_ofNat] at *
    omega
  have h2 : (((shr64 n 32).toUInt32).toUInt16).toNat = n.toNat / 2 ^ 32 % 65536 := by
    have := sh32 n
    simp at *
    omega
  have h3 : ((shr32 (n.toUInt32) 16).toUInt16).toNat = n.toNat / 2 ^ 16 % 65536 := by
    unfold shr32
    simp [UInt32.toNat_ofNat]
    omega
  have h4 : ((n.toUInt32).toUInt16).toNat = n.toNat / 2 ^ 0 % 65536 := by
    simp
  rw [u16_hi n 48 _ h1, u16_lo n 48 _ h1, u16_hi n 32 _ h2, u16_lo n 32 _ h2, u16_hi n 16 _ h3, u16_lo n 16 _ h3, u16_hi n 0 _ h4, u16_lo n 0 _ h4]
  simp [bytesN]
theorem Out_U16_eq (x : UInt16) (b : List UInt8) (h : b.length + 2 ≤ 70368744177664) : pack_Out_U16 x b = some () := by
  unfold pack_Out_U16; rw [out_put1 _ _ (by simpa using h)]; rfl
theorem Out_U32_eq (x : UInt32) (b : List UInt8) (h : b.length + 4 ≤ 70368744177664) : pack_Out_U32 x b = some () := by
  unfold pack_Out_U32; rw [Out_U16_eq _ _ (by omega), bind_some', Out_U16_eq _ _ (by simp; omega)]; rfl
theorem Out_U64_eq (x : UInt64) (b : List UInt8) (h : b.length + 8 ≤ 70368744177664) : pack_Out_U64 x b = some () := by
  unfold pack_Out_U64; rw [Out_U32_eq _ _ (by omega), bind_some', Out_U32_eq _ _ (by simp; omega)]; rfl
theorem key_one_eq (v : ApiValue) (d : Bool) (h : v.S.length ≤ 1048576) : key_one v d = some (turn d (enc v)) := by
  have hf : pack_Out_Flag (v.Kind != (0 : Int)) = some [if v.Kind = 0 then 0 else 1] := by
    unfold pack_Out_Flag
    by_cases k : v.Kind = 0
    · rw [k]; rfl
    · rw [if_neg k, show (v.Kind != 0) = true by simpa using k]; rfl
  have hb := body_len v
  obtain ⟨K, N, S⟩ := v
  simp only at h hf hb
  unfold key_one
  simp only
  rw [hf, bind_some']
  -- the middle
  have key : ∀ (m : Option (List UInt8)) (q : List UInt8), m = some q → (if K = 4 ∨ K = 5 then q ++ (esc S ++ [0, 0]) else q) = enc ⟨K, N, S⟩ → q.length ≤ 100 →
      (Option.bind (α := (List UInt8)) m
    fun y50 =>
  Option.bind (pack_Out_Bytes y50) fun _ =>
  Option.bind (α := (List UInt8))
    (Option.bind (α := Bool)
      (bif (K == (4 : Int)) then
        some true
      else
        some (K == (5 : Int)))
      fun y71 =>
    bif y71 then
      Option.bind (replF S ([0] : List UInt8) ([0, 255] : List UInt8)) fun r75 =>
      bif decide ((y50.length + r75.length) * 1 ≤ room) then
      bif decide (((y50 ++ r75).length + [(0 : UInt8), (0 : UInt8)].length) * 1 ≤ room) then
      some ((y50 ++ r75) ++ [(0 : UInt8), (0 : UInt8)])
      else none
      else none
    else
      some y50)
    fun y68 =>
  bif d then
    Option.bind (key_turned y68) fun r80 =>
    some r80
  else
    some y68) = some (turn d (enc ⟨K, N, S⟩)) := by
    intro m q hm he hq
    subst hm
    have hl := esc_len S
    rw [bind_some', show pack_Out_Bytes q = some () by unfold pack_Out_Bytes; rw [bif_decT (by rw [room_val]; omega)], bind_some', replF_esc S h]
    have hlen : (enc ⟨K, N, S⟩).length ≤ 4194304 := by unfold enc; simp; omega
    have ht : (bif d then Option.bind (key_turned (enc ⟨K, N, S⟩)) fun r80 => some r80 else some (enc ⟨K, N, S⟩)) = some (turn d (enc ⟨K, N, S⟩)) := by
      cases d with
      | false => rfl
      | true => rw [cond_true, key_turned_eq _ (by omega)]; rfl
    by_cases k4 : K = 4
    · rw [if_pos (.inl k4)] at he
      rw [k4] at he ht ⊢
      simp only [BEq.rfl, cond_true, bind_some']
      rw [bif_decT (by rw [room_val]; omega), bif_decT (by rw [room_val]; simp; omega), bind_some', List.append_assoc, he]
      exact ht
    by_cases k5 : K = 5
    · rw [if_pos (.inr k5)] at he
      rw [k5] at he ht ⊢
      simp only [show ((5 : Int) == 4) = false from rfl, cond_false, BEq.rfl, cond_true, bind_some']
      rw [bif_decT (by rw [room_val]; omega), bif_decT (by rw [room_val]; simp; omega), bind_some', List.append_assoc, he]
      exact ht
    rw [if_neg (by omega)] at he
    subst he
    rw [beq_eq_false_iff_ne.2 k4, beq_eq_false_iff_ne.2 k5, cond_false, bind_some', cond_false, bind_some']
    exact ht
  by_cases k1 : K = 1
  · subst k1
    refine key _ ([1] ++ bytesN (N ^^^ 9223372036854775808) 8) ?_ ?_ ?_
    rotate_left
    · rfl
    · simp [bytesN_len]
    · simp only [BEq.rfl, cond_true]
      rw [Out_U64_eq _ _ (by simp), bind_some', bytes8_eq]
      rfl
  by_cases k2 : K = 2
  · subst k2
    refine key _ ([1] ++ bytesN N 8) ?_ ?_ ?_
    rotate_left
    · rfl
    · simp [bytesN_len]
    · simp only [show ((2 : Int) == 1) = false from rfl, cond_false, BEq.rfl, cond_true]
      rw [Out_U64_eq _ _ (by simp), bind_some', bytes8_eq]
      rfl
  by_cases k3 : K = 3
  · subst k3
    refine key _ ([1] ++ bytesN N 1) ?_ ?_ ?_
    rotate_left
    · rfl
    · simp [bytesN_len]
    · simp only [show ((3 : Int) == 1) = false from rfl, show ((3 : Int) == 2) = false from rfl, cond_false, BEq.rfl, cond_true]
      rw [show pack_Out_U8 (N.toUInt8) [if (3 : Int) = 0 then 0 else 1] = some () from by unfold pack_Out_U8; rw [out_put1 _ _ (by simp)]; rfl, bind_some', low8]
      rfl
  refine key _ ([if K = 0 then 0 else 1]) ?_ ?_ ?_
  rotate_left
  · unfold enc body
    simp only [k1, k2, k3, if_false]
    split <;> rfl
  · simp
  · rw [beq_eq_false_iff_ne.2 k1, beq_eq_false_iff_ne.2 k2, beq_eq_false_iff_ne.2 k3]; rfl
end Lv
/- Plain laws of layer 07: keys of lists, the document's and the program's. -/
namespace Lv
open Go Go.Proofs
set_option linter.unusedVariables false
set_option linter.unusedSimpArgs false
set_option linter.unusedSectionVars false
set_option maxRecDepth 100000
variable [BaseTab]
end Lv
/- Plain laws of layer 07: keys of lists. -/
namespace Lv
open Go Go.Proofs
set_option linter.unusedVariables false
set_option linter.unusedSimpArgs false
set_option linter.unusedSectionVars false
set_option maxRecDepth 100000
variable [BaseTab]
/-- A list of a bounded size. -/
structure Sm (l : List ApiValue) : Prop where
  len : l.length ≤ 1048576
  txt : ∀ v ∈ l, v.S.length ≤ 1048576
theorem Sm.get {l : List ApiValue} (h : Sm l) {i : Nat} (hi : i < l.length) : (l[i]'hi).S.length ≤ 1048576 := h.txt _ (List.getElem_mem hi)
def bad (v : ApiValue) : Bool := !val v
def encL : List ApiValue → List Bool → List UInt8
  | v :: l, d :: ds => turn d (enc v) ++ encL l ds
  | _, _ => []
def encS (l : List ApiValue) (ds : List Bool) : List UInt8 × Int :=
  if l.length = ds.length then
    if l.any bad = true then ([], 8) else if (encL l ds).length > 256 then ([], 7) else (encL l ds, 0)
  else ([], 1)
theorem encL_take : ∀ (l : List ApiValue) (ds : List Bool) (i : Nat) (h : i < l.length) (h2 : i < ds.length), encL (l.take (i + 1)) (ds.take (i + 1)) = encL (l.take i) (ds.take i) ++ turn ds[i] (enc l[i])
  | v :: l, d :: ds, 0, h, h2 => by simp [encL]
  | v :: l, d :: ds, i + 1, h, h2 => by
    simp only [List.take_succ_cons, encL, List.getElem_cons_succ]
    rw [encL_take l ds i (by simpa using h) (by simpa using h2), List.append_assoc]
theorem val_short {v : ApiValue} (h : val v = true) : v.S.length ≤ 64 := by
  unfold val at h
  simp only [Bool.or_eq_true, Bool.and_eq_true, beq_iff_eq, decide_eq_true_eq] at h
  rcases h with (((⟨_, _, h⟩ | ⟨_, h⟩) | ⟨_, _, h⟩) | ⟨_, _, h⟩) | ⟨_, _, h, _⟩
  · rw [h]; simp
  · rw [h]; simp
  · rw [h]; simp
  · exact h
  · exact h
theorem enc_short {v : ApiValue} (h : val v = true) : (enc v).length ≤ 137 := by
  have := body_len v
  have := val_short h
  unfold enc
  simp; omega
theorem encL_short : ∀ (l : List ApiValue) (ds : List Bool), l.any bad = false → (encL l ds).length ≤ 137 * l.length
  | [], ds, _ => by simp [encL]
  | v :: l, [], _ => by simp [encL]
  | v :: l, d :: ds, h => by
    rw [List.any_cons, Bool.or_eq_false_iff] at h
    have := enc_short (v := v) (by have := h.1; unfold bad at this; simpa using this)
    have := encL_short l ds h.2
    simp [encL, turn_len]
    omega
theorem any_take {α : Type} (p : α → Bool) (l : List α) (i : Nat) (h : l.any p = false) : (l.take i).any p = false := by
  rw [List.any_eq_false] at h ⊢
  exact fun x hx => h x (List.mem_of_mem_take hx)
theorem Encode_1_eq (v : ApiValue) (h : v.S.length ≤ 1048576) : key_Encode_1 v = some (bad v) := by
  unfold key_Encode_1; rw [value_Valid_eq v (by omega)]; rfl
theorem anyBad_eq (l : List ApiValue) (h : Sm l) : slices_ContainsFunc_api_Value_api_Value l = some (l.any bad) := by
  unfold slices_ContainsFunc_api_Value_api_Value slices_IndexFunc_api_Value_api_Value
  have hl := h.len
  have q := loop_search (B := (fun y69 =>
        bif (decide (y69 < (l.length : Int))) then
          Option.bind (getI l y69) fun v79 =>
          Option.bind (key_Encode_1 v79) fun r80 =>
          bif r80 then
            some (Sum.inr (Sum.inr y69))
          else
            some (Sum.inl (w64 (y69 + (1 : Int))))
        else
          some (Sum.inr (Sum.inl ())))) l bad (fun i => .inr (i : Int)) (.inl ()) (fun i hi => by
      show (bif _ then _ else _) = _
      rw [bif_decT (by omega), getI_at hi, bind_some', Encode_1_eq _ (h.get hi), bind_some']
      cases bad l[i]
      · rw [cond_false, w64_succ (by omega)]; rfl
      · rfl) (by
      show (bif _ then _ else _) = _
      rw [bif_decF (by omega)])
  rcases q with ⟨q1, i, _, _, q2⟩ | ⟨q1, q2⟩
  · rw [show (loop _ (0 : Int)) = _ from q2, q1]
    show some (decide ((i : Int) ≥ 0)) = _
    rw [decide_eq_true (by omega)]
  · rw [show (loop _ (0 : Int)) = _ from q2, q1]
    rfl
theorem key_Encode_eq (l : List ApiValue) (ds : List Bool) (h : Sm l) : key_Encode l ds = some (encS l ds) := by
  unfold key_Encode encS
  have hl := h.len
  by_cases he : l.length = ds.length
  rotate_left
  · rw [if_neg he, show ((l.length : Int) != (ds.length : Int)) = true by simp; omega]; rfl
  rw [if_pos he, show ((l.length : Int) != (ds.length : Int)) = false by simp; omega, cond_false, anyBad_eq l h, bind_some']
  cases hb : l.any bad with
  | true => rfl
  | false =>
    rw [cond_false, if_neg (by simp)]
    have hs := encL_short l ds hb
    have q := loop_seq (B := (fun (y97, y98) =>
            bif (decide (y98 < (l.length : Int))) then
              Option.bind (getI l y98) fun v110 =>
              Option.bind (getI ds y98) fun v111 =>
              Option.bind (key_one v110 v111) fun r112 =>
              bif decide ((y97.length + r112.length) * 1 ≤ room) then
              some (Sum.inl ((y97 ++ r112), (w64 (y98 + (1 : Int)))))
              else none
            else
              some (Sum.inr y97))) (fun i => (encL (l.take i) (ds.take i), (i : Int))) l.length (w := encL l ds) ?_ ?_
    · rw [show (loop _ (([] : List UInt8), (0 : Int))) = _ from q, bind_some', bind_some']
      by_cases hlen : (encL l ds).length > 256
      · rw [if_pos hlen, bif_decT (by omega)]
      · rw [if_neg hlen, bif_decF (by omega)]
    · intro i hi
      have h1 := encL_short (l.take i) (ds.take i) (any_take _ _ _ hb)
      have h2 := enc_short (v := l[i]) (by rw [List.any_eq_false] at hb; have := hb _ (List.getElem_mem hi); unfold bad at this; simpa using this)
      rw [List.length_take, Nat.min_eq_left (Nat.le_of_lt hi)] at h1
      show (bif _ then _ else _) = _
      rw [bif_decT (by omega), getI_at hi, bind_some', getI_at (by omega), bind_some', key_one_eq _ _ (h.get hi), bind_some', bif_decT (by rw [room_val, turn_len]; omega), w64_succ (by omega), encL_take l ds i hi (by omega)]
    · show (bif _ then _ else _) = _
      rw [bif_decF (by omega), List.take_length, he, List.take_length]
end Lv
/- Plain laws of layer 07: keys read, by the program. -/
namespace Lv
open Go Go.Proofs
set_option linter.unusedVariables false
set_option linter.unusedSimpArgs false
set_option linter.unusedSectionVars false
set_option maxRecDepth 100000
variable [BaseTab]
/-- Bytes as a number. -/
def num (l : List UInt8) : UInt64 := l.foldl (fun y b => shl64 y 8 ||| b.toUInt64) 0
theorem shl_or (y : UInt64) (b : UInt8) : shl64 y 8 + b.toUInt64 = shl64 y 8 ||| b.toUInt64 := by
  unfold shl64
  rw [← UInt64.toNat_inj]
  have hb := b.toNat_lt
  have hy := y.toNat_lt
  rw [UInt64.toNat_add, UInt64.toNat_or, UInt64.toNat_ofNat']
  have e : y.toNat * 2 ^ 8 % 2 ^ 64 = (y.toNat % 2 ^ 56) <<< 8 := by rw [Nat.shiftLeft_eq]; omega
  rw [e, ← Nat.shiftLeft_add_eq_or_of_lt (by simpa using hb), Nat.shiftLeft_eq, UInt8.toNat_toUInt64, Nat.mod_eq_of_lt]
  omega
/-- A marked text, and how many bytes it takes. -/
def unesc : List UInt8 → Option (List UInt8 × Nat)
  | [] => none
  | [_] => none
  | x :: y :: r => if x = 0 then (if y = 0 then some ([], 2) else if y = 255 then (unesc r).map (fun p => (0 :: p.1, p.2 + 2)) else none)
    else (unesc (y :: r)).map (fun p => (x :: p.1, p.2 + 1))
def raw (k : Int) (r : List UInt8) : Option (ApiValue × Nat) :=
  if k = 1 then (if 8 ≤ r.length then some (⟨k, num (r.take 8) ^^^ 9223372036854775808, []⟩, 8) else none)
  else if k = 2 then (if 8 ≤ r.length then some (⟨k, num (r.take 8), []⟩, 8) else none)
  else if k = 3 then (if 1 ≤ r.length then some (⟨k, num (r.take 1), []⟩, 1) else none)
  else (unesc r).map (fun p => (⟨k, 0, p.1⟩, p.2))
/-- One value, and how many bytes it takes. -/
def decV (k : Int) : List UInt8 → Option (ApiValue × Nat)
  | [] => none
  | f :: r => if f = 0 then some (⟨0, 0, []⟩, 1) else if f = 1 then
      (match raw k r with | none => none | some p => if val p.1 = true then some (p.1, p.2 + 1) else none) else none
end Lv
/- Plain laws of layer 07: one value read, by the program and by the document. -/
namespace Lv
open Go Go.Proofs
set_option linter.unusedVariables false
set_option linter.unusedSimpArgs false
set_option linter.unusedSectionVars false
set_option maxRecDepth 100000
variable [BaseTab]
/-- What a reader of a value answers. -/
def TakeOk (d : Option (ApiValue × Nat)) (x : Option (Int × Bool × ApiValue)) : Prop :=
  match d with
  | none => ∃ n v, x = some (n, false, v)
  | some (v, n) => x = some ((n : Int), true, v)
theorem TakeOk.of {d x y} (h : x = y) (k : TakeOk d y) : TakeOk d x := h ▸ k
def onVal (o : Option (ApiValue × Nat)) : Option (ApiValue × Nat) := match o with | none => none | some p => if val p.1 = true then some (p.1, p.2 + 1) else none
theorem decV_one (k : Int) (r : List UInt8) : decV k (1 :: r) = onVal (raw k r) := by simp only [decV, onVal]; rfl
theorem TakeOk.val {v : ApiValue} {n : Nat} {m : Int} (h : m = ((n + 1 : Nat) : Int)) : TakeOk (onVal (some (v, n))) (some (m, !false && val v, v)) := by
  subst h
  unfold onVal
  simp only
  by_cases hv : Lv.val v = true
  · rw [if_pos hv, hv]; rfl
  · rw [if_neg hv, Bool.eq_false_iff.2 hv]; exact ⟨_, _, rfl⟩
end Lv
/- Plain laws of layer 07: one value read, by the document. -/
namespace Lv
open Go Go.Proofs
set_option linter.unusedVariables false
set_option linter.unusedSimpArgs false
set_option linter.unusedSectionVars false
set_option maxRecDepth 100000
variable [BaseTab]
end Lv
/- Plain laws of layer 07: lists read; the law of all keys. -/
namespace Lv
open Go Go.Proofs
set_option linter.unusedVariables false
set_option linter.unusedSimpArgs false
set_option linter.unusedSectionVars false
set_option maxRecDepth 100000
variable [BaseTab]
def decL : List Int → List Bool → List UInt8 → Option (List ApiValue × List UInt8)
  | k :: ks, d :: ds, b => match decV k (turn d b) with
    | none => none
    | some (v, n) => (decL ks ds (b.drop n)).map (fun p => (v :: p.1, p.2))
  | _, _, b => some ([], b)
end Lv
/- Plain laws of layer 07: what is written is read back; what is read was written so. -/
namespace Lv
open Go Go.Proofs
set_option linter.unusedVariables false
set_option linter.unusedSimpArgs false
set_option linter.unusedSectionVars false
set_option maxRecDepth 100000
variable [BaseTab]
theorem num_cons_aux (l : List UInt8) : ∀ y : UInt64, (l.foldl (fun y b => shl64 y 8 ||| b.toUInt64) y).toNat = (y.toNat * 256 ^ l.length + l.foldl (fun a b => a * 256 + b.toNat) 0) % 18446744073709551616 := by
  have fold : ∀ (l : List UInt8) (a : Nat), l.foldl (fun a b => a * 256 + b.toNat) a = a * 256 ^ l.length + l.foldl (fun a b => a * 256 + b.toNat) 0 := by
    intro l
    induction l with
    | nil => intro a; simp
    | cons b l ih =>
      intro a
      rw [List.foldl_cons, List.foldl_cons, ih, ih (0 * 256 + b.toNat), List.length_cons, Nat.pow_succ]
      rw [Nat.add_mul, Nat.zero_mul, Nat.zero_add, Nat.mul_assoc, Nat.mul_comm 256 (256 ^ l.length), Nat.add_assoc]
  induction l with
  | nil =>
    intro y
    have := y.toNat_lt
    simp
  | cons b l ih =>
    intro y
    rw [List.foldl_cons, ih, List.foldl_cons, fold l (0 * 256 + b.toNat), ← shl_or]
    have h : (shl64 y 8 + b.toUInt64).toNat = (y.toNat * 256 + b.toNat) % 18446744073709551616 := by
      unfold shl64
      rw [UInt64.toNat_add, UInt64.toNat_ofNat', UInt8.toNat_toUInt64]
      omega
    rw [h, List.length_cons, Nat.pow_succ, Nat.zero_mul, Nat.zero_add]
    rw [← Nat.add_assoc, Nat.add_mod, Nat.mul_mod, Nat.mod_mod, ← Nat.mul_mod, ← Nat.add_mod]
    congr 2
    rw [Nat.add_mul, Nat.mul_assoc, Nat.mul_comm 256 (256 ^ l.length)]
theorem natB_bytesN (n : UInt64) : ∀ k, (bytesN n k).foldl (fun a b => a * 256 + b.toNat) 0 = n.toNat % 256 ^ k := by
  have fold : ∀ (l : List UInt8) (a : Nat), l.foldl (fun a b => a * 256 + b.toNat) a = a * 256 ^ l.length + l.foldl (fun a b => a * 256 + b.toNat) 0 := by
    intro l
    induction l with
    | nil => intro a; simp
    | cons b l ih =>
      intro a
      rw [List.foldl_cons, List.foldl_cons, ih, ih (0 * 256 + b.toNat), List.length_cons, Nat.pow_succ]
      rw [Nat.add_mul, Nat.zero_mul, Nat.zero_add, Nat.mul_assoc, Nat.mul_comm 256 (256 ^ l.length), Nat.add_assoc]
  intro k
  induction k with
  | zero => simp [bytesN, Nat.mod_one]
  | succ k ih =>
    rw [bytesN, List.foldl_cons, fold, bytesN_len, ih, Nat.zero_mul, Nat.zero_add, UInt8.toNat_ofNat']
    have e : (2 : Nat) ^ (8 * k) = 256 ^ k := by rw [Nat.pow_mul]
    have e2 : n.toNat % 256 ^ (k + 1) = n.toNat % 256 ^ k + 256 ^ k * (n.toNat / 256 ^ k % 256) := by rw [Nat.pow_succ, Nat.mod_mul]
    rw [e2, e, show (2 : Nat) ^ 8 = 256 from rfl, Nat.mul_comm, Nat.add_comm]
theorem num_bytes8 (n : UInt64) : num (bytesN n 8) = n := by
  have := n.toNat_lt
  rw [← UInt64.toNat_inj]
  unfold num
  rw [num_cons_aux, natB_bytesN]
  have e : (0 : UInt64).toNat = 0 := rfl
  rw [e]
  omega
theorem unesc_esc : ∀ (s t : List UInt8), unesc (esc s ++ 0 :: 0 :: t) = some (s, (esc s).length + 2)
  | [], t => by simp [esc, unesc]
  | x :: r, t => by
    have ih := unesc_esc r t
    unfold esc
    by_cases hx : x = 0
    · subst hx
      rw [if_pos rfl]
      show unesc (0 :: 255 :: (esc r ++ 0 :: 0 :: t)) = _
      rw [show unesc (0 :: 255 :: (esc r ++ 0 :: 0 :: t)) = (unesc (esc r ++ 0 :: 0 :: t)).map (fun p => (0 :: p.1, p.2 + 2)) by simp only [unesc, if_true]; rfl, ih]
      rfl
    · rw [if_neg hx]
      show unesc (x :: (esc r ++ 0 :: 0 :: t)) = _
      cases h : esc r ++ 0 :: 0 :: t with
      | nil => simp at h
      | cons y r' =>
        rw [h] at ih
        simp only [unesc, hx, if_false, ih]
        rfl
theorem xor_back (n m : UInt64) : n ^^^ m ^^^ m = n := by rw [UInt64.xor_assoc, UInt64.xor_self, UInt64.xor_zero]
/-- A kind that fits a value. -/
def fitK (k : Int) (v : ApiValue) : Prop := v.Kind = 0 ∨ v.Kind = k
theorem val_kind {v : ApiValue} (h : val v = true) : 0 ≤ v.Kind ∧ v.Kind ≤ 5 := by
  unfold val at h
  simp only [Bool.or_eq_true, Bool.and_eq_true, beq_iff_eq, decide_eq_true_eq] at h
  omega
theorem val_null {v : ApiValue} (h : val v = true) (k : v.Kind = 0) : v = ⟨0, 0, []⟩ := by
  unfold val at h
  obtain ⟨K, N, S⟩ := v
  simp only at k
  subst k
  simp only [Bool.or_eq_true, Bool.and_eq_true, beq_iff_eq, decide_eq_true_eq] at h
  have : N = 0 ∧ S = [] := by
    rcases h with (((⟨_, h⟩ | ⟨h, _⟩) | ⟨h, _⟩) | ⟨h, _⟩) | ⟨h, _⟩
    · exact h
    · omega
    · omega
    · omega
    · omega
  rw [this.1, this.2]
theorem val_num {v : ApiValue} (h : val v = true) (k : v.Kind = 1 ∨ v.Kind = 2 ∨ v.Kind = 3) : v.S = [] ∧ (v.Kind = 3 → v.N.toNat < 2) := by
  unfold val at h
  simp only [Bool.or_eq_true, Bool.and_eq_true, beq_iff_eq, decide_eq_true_eq, UInt64.lt_iff_toNat_lt] at h
  have e : (2 : UInt64).toNat = 2 := rfl
  rw [e] at h
  rcases h with (((⟨h, _⟩ | ⟨h, h2⟩) | ⟨h, h1, h2⟩) | ⟨h, _⟩) | ⟨h, _⟩
  · omega
  · exact ⟨h2, fun _ => by omega⟩
  · exact ⟨h2, fun _ => h1⟩
  · omega
  · omega
theorem val_txt {v : ApiValue} (h : val v = true) (k : v.Kind = 4 ∨ v.Kind = 5) : v.N = 0 := by
  unfold val at h
  simp only [Bool.or_eq_true, Bool.and_eq_true, beq_iff_eq, decide_eq_true_eq] at h
  rcases h with (((⟨h, _⟩ | ⟨h, _⟩) | ⟨h, _⟩) | ⟨h, h2, _⟩) | ⟨h, h2, _⟩
  · omega
  · omega
  · omega
  · exact h2
  · exact h2
/-- What is written is read back, whatever follows. -/
theorem decV_enc (k : Int) (v : ApiValue) (t : List UInt8) (hv : val v = true) (hk : fitK k v) : decV k (enc v ++ t) = some (v, (enc v).length) := by
  by_cases k0 : v.Kind = 0
  · have := val_null hv k0
    subst this
    rfl
  have hk : v.Kind = k := by rcases hk with h | h; · exact absurd h k0
                             · exact h
  subst hk
  have hr := val_kind hv
  have he : enc v = 1 :: body v := by unfold enc; rw [if_neg k0]
  rw [he, List.cons_append, decV_one]
  suffices hraw : raw v.Kind (body v ++ t) = some (v, (body v).length) by
    rw [hraw]; unfold onVal; simp only; rw [if_pos hv]; rfl
  obtain ⟨K, N, S⟩ := v
  simp only at k0 hr
  unfold raw body
  by_cases k1 : K = 1
  · subst k1
    have := (val_num hv (.inl rfl)).1
    simp only at this
    subst this
    simp only [if_true]
    rw [if_pos (by simp [bytesN_len]), List.take_left' (bytesN_len _ _), num_bytes8, xor_back, bytesN_len]
  by_cases k2 : K = 2
  · subst k2
    have := (val_num hv (.inr (.inl rfl))).1
    simp only at this
    subst this
    simp only [show ¬ (2 : Int) = 1 by omega, if_false, if_true]
    rw [if_pos (by simp [bytesN_len]), List.take_left' (bytesN_len _ _), num_bytes8, bytesN_len]
  by_cases k3 : K = 3
  · subst k3
    have := val_num hv (.inr (.inr rfl))
    obtain ⟨h1, h2⟩ := this
    have h2 : N.toNat < 2 := h2 rfl
    simp only at h1
    subst h1
    simp only [show ¬ (3 : Int) = 1 by omega, show ¬ (3 : Int) = 2 by omega, if_false, if_true]
    rw [if_pos (by simp [bytesN_len]), List.take_left' (bytesN_len _ _), bytesN_len]
    have : num (bytesN N 1) = N := by
      rw [← UInt64.toNat_inj]
      unfold num
      rw [num_cons_aux, natB_bytesN]
      have e : (0 : UInt64).toNat = 0 := rfl
      rw [e]
      omega
    rw [this]
  have k45 : K = 4 ∨ K = 5 := by omega
  have := val_txt hv k45
  simp only at this
  subst this
  simp only [k1, k2, k3, k45, if_false, if_true]
  rw [List.append_assoc]
  show (unesc (esc S ++ 0 :: 0 :: t)).map _ = _
  rw [unesc_esc]
  simp
end Lv
/- Plain laws of layer 07: the laws KeyBack and KeyFree. -/
namespace Lv
open Go Go.Proofs
set_option linter.unusedVariables false
set_option linter.unusedSimpArgs false
set_option linter.unusedSectionVars false
set_option maxRecDepth 100000
variable [BaseTab]
theorem decL_enc : ∀ (l : List ApiValue) (ds : List Bool) (ks : List Int) (t : List UInt8), l.length = ds.length → l.length = ks.length → (∀ v ∈ l, val v = true) → (∀ (i : Nat) (v : ApiValue) (k : Int), l[i]? = some v → ks[i]? = some k → fitK k v) → decL ks ds (encL l ds ++ t) = some (l, t)
  | [], ds, ks, t, h1, h2, _, _ => by
    have e2 : ks = [] := List.eq_nil_of_length_eq_zero (by simpa using h2.symm)
    subst e2
    simp [encL, decL]
  | v :: l, [], ks, t, h1, _, _, _ => by simp at h1
  | v :: l, d :: ds, [], t, _, h2, _, _ => by simp at h2
  | v :: l, d :: ds, k :: ks, t, h1, h2, hv, hf => by
    have ih := decL_enc l ds ks t (by simpa using h1) (by simpa using h2) (fun w hw => hv w (List.mem_cons_of_mem _ hw)) (fun i w k' a b => hf (i + 1) w k' (by simpa using a) (by simpa using b))
    simp only [encL, decL]
    rw [List.append_assoc, turn_append, turn_turn, decV_enc k v _ (hv v (List.mem_cons_self ..)) (hf 0 v k rfl rfl)]
    simp only
    rw [List.drop_left' (turn_len _ _), ih]
    rfl
theorem goodVs {l : List ApiValue} (h : l.any bad = false) : ∀ v ∈ l, val v = true := fun v hv => by
  rw [List.any_eq_false] at h
  have := h v hv
  unfold bad at this
  simpa using this
/-- What a key's code tells. -/
theorem encS_ok {l : List ApiValue} {ds : List Bool} (h : (encS l ds).2 = 0) : l.length = ds.length ∧ l.any bad = false ∧ (encL l ds).length ≤ 256 ∧ encS l ds = (encL l ds, 0) := by
  unfold encS at h ⊢
  split at h
  · rename_i h1
    split at h
    · cases h
    · rename_i h2
      split at h
      · cases h
      · rename_i h3
        refine ⟨h1, by simpa using h2, by omega, ?_⟩
        rw [if_pos h1, if_neg h2, if_neg h3]
  · cases h
end Lv
/- Plain laws of layer 07: the law KeyFree. -/
namespace Lv
open Go Go.Proofs
set_option linter.unusedVariables false
set_option linter.unusedSimpArgs false
set_option linter.unusedSectionVars false
set_option maxRecDepth 100000
variable [BaseTab]
def bothK (p : ApiValue × ApiValue) : Int :=
  if p.1.Kind = p.2.Kind then (if p.1.Kind = 0 then 1 else p.1.Kind) else (if w64 (p.1.Kind + p.2.Kind) = 0 then 1 else w64 (p.1.Kind + p.2.Kind))
def clash (p : ApiValue × ApiValue) : Bool := p.1.Kind != p.2.Kind && (p.1.Kind != 0 && p.2.Kind != 0)
theorem fit_left {a b : ApiValue} (hb : -9223372036854775808 ≤ a.Kind ∧ a.Kind < 9223372036854775808) (h : clash (a, b) = false) : fitK (bothK (a, b)) a := by
  unfold fitK bothK
  unfold clash at h
  simp only at h ⊢
  by_cases e : a.Kind = b.Kind
  · rw [if_pos e]
    split
    · left; assumption
    · right; rfl
  · rw [if_neg e]
    by_cases ha : a.Kind = 0
    · left; exact ha
    · have : b.Kind = 0 := by
        simp only [Bool.and_eq_false_iff, bne_eq_false_iff_eq] at h
        rcases h with h | h | h
        · exact absurd h e
        · exact absurd h ha
        · exact h
      rw [this, Int.add_zero, w64_id hb.1 hb.2, if_neg ha]
      right; rfl
theorem fit_right {a b : ApiValue} (hb : -9223372036854775808 ≤ b.Kind ∧ b.Kind < 9223372036854775808) (h : clash (a, b) = false) : fitK (bothK (a, b)) b := by
  unfold fitK bothK
  unfold clash at h
  simp only at h ⊢
  by_cases e : a.Kind = b.Kind
  · rw [if_pos e]
    split
    · left; omega
    · right; omega
  · rw [if_neg e]
    by_cases ha : b.Kind = 0
    · left; exact ha
    · have : a.Kind = 0 := by
        simp only [Bool.and_eq_false_iff, bne_eq_false_iff_eq] at h
        rcases h with h | h | h
        · exact absurd h e
        · exact h
        · exact absurd h ha
      rw [this, Int.zero_add, w64_id hb.1 hb.2, if_neg ha]
      right; rfl
end Lv
/- Plain laws of layer 07: the span of what begins with a text. -/
namespace Lv
open Go Go.Proofs
set_option linter.unusedVariables false
set_option linter.unusedSimpArgs false
set_option linter.unusedSectionVars false
set_option maxRecDepth 100000
def leL (a b : List UInt8) : Bool := Op.bytesLess a b || a == b
/-- The least text behind all that begin so. -/
def afterL : List UInt8 → Option (List UInt8)
  | [] => none
  | x :: r => match afterL r with
    | some r' => some (x :: r')
    | none => if x = 255 then none else some [x + 1]
def inL (s k : List UInt8) : Bool := leL s k && (match afterL s with
  | some a => Op.bytesLess k a
  | none => true)
theorem u8_lt_succ {x y : UInt8} (h : x ≠ 255) : (y < x + 1) = (y ≤ x) := by
  have h1 : x.toNat ≠ 255 := fun e => h (UInt8.toNat_inj.1 e)
  have h2 : x.toNat < 256 := x.toNat_lt
  rw [UInt8.lt_iff_toNat_lt, UInt8.le_iff_toNat_le, UInt8.toNat_add]
  have : (x.toNat + UInt8.toNat 1) % 256 = x.toNat + 1 := by
    have : UInt8.toNat 1 = 1 := rfl
    omega
  simp only [Nat.reducePow, this]
  exact propext ⟨fun h => by omega, fun h => by omega⟩
theorem inL_prefix : ∀ s k : List UInt8, inL s k = s.isPrefixOf k
  | [], k => by cases k <;> rfl
  | x :: r, [] => by simp [inL, leL, Op.bytesLess]
  | x :: r, y :: k => by
    have ih := inL_prefix r k
    unfold inL leL at ih ⊢
    simp only [afterL, List.isPrefixOf]
    rw [← ih]
    have tri : (decide (x < y) = true ∧ (x == y) = false ∧ decide (y < x) = false ∧ (y == x) = false) ∨ (decide (x < y) = false ∧ (x == y) = true ∧ decide (y < x) = false ∧ (y == x) = true) ∨ (decide (x < y) = false ∧ (x == y) = false ∧ decide (y < x) = true ∧ (y == x) = false) := by
      simp only [decide_eq_true_eq, decide_eq_false_iff_not, beq_eq_false_iff_ne, beq_iff_eq, UInt8.lt_iff_toNat_lt, ne_eq, ← UInt8.toNat_inj]
      omega
    cases ha : afterL r with
    | some r' =>
      simp only [Op.bytesLess, List.cons_beq_cons]
      rcases tri with ⟨a, b, c, d⟩ | ⟨a, b, c, d⟩ | ⟨a, b, c, d⟩ <;> simp [a, b, c, d]
    | none =>
      by_cases h255 : x = 255
      · subst h255
        simp only [Op.bytesLess, List.cons_beq_cons, if_true]
        have : ¬ (255 : UInt8) < y := by
          rw [UInt8.lt_iff_toNat_lt]
          have : y.toNat < 256 := y.toNat_lt
          have e : UInt8.toNat 255 = 255 := rfl
          omega
        simp [this, Bool.and_or_distrib_left]
      · simp only [if_neg h255, Op.bytesLess, List.cons_beq_cons, Bool.and_false, Bool.or_false]
        have h1 : decide (y < x + 1) = decide (y ≤ x) := by simp only [u8_lt_succ h255]
        have h2 : decide (y ≤ x) = !decide (x < y) := by
          simp only [← decide_not, UInt8.lt_iff_toNat_lt, UInt8.le_iff_toNat_le, decide_eq_decide]
          omega
        rw [h1, h2]
        rcases tri with ⟨a, b, c, d⟩ | ⟨a, b, c, d⟩ | ⟨a, b, c, d⟩ <;> simp [a, b]
theorem afterL_full : ∀ {q : List UInt8}, (∀ x, x ∈ q → x = 255) → afterL q = none
  | [], _ => rfl
  | x :: q, h => by
    have hq : afterL q = none := afterL_full fun y hy => h y (List.mem_cons_of_mem _ hy)
    have hx : x = 255 := h x (List.mem_cons_self ..)
    simp only [afterL, hq, hx, if_true]
theorem afterL_append : ∀ (p : List UInt8) {q : List UInt8}, (∀ x, x ∈ q → x = 255) → afterL (p ++ q) = afterL p
  | [], q, h => by rw [List.nil_append, afterL_full h]; rfl
  | x :: p, q, h => by simp only [List.cons_append, afterL, afterL_append p h]
theorem afterL_last : ∀ (p : List UInt8) {x : UInt8}, x ≠ 255 → afterL (p ++ [x]) = some (p ++ [x + 1])
  | [], x, h => by simp [afterL, h]
  | y :: p, x, h => by simp only [List.cons_append, afterL, afterL_last p h]
variable [BaseTab]
theorem After_eq (s : List UInt8) (hs : s.length < 4611686018427387904) : key_After s = some (match afterL s with | some a => (a, true) | none => ([], false)) := by
  unfold key_After
  suffices hk : ∀ B : Nat → Option (Nat ⊕ Nat), (∀ y, y ≤ s.length → B y = some (if 0 < y ∧ s[y - 1]? = some 255 then .inl (y - 1) else .inr y)) → ∀ y, y ≤ s.length → ∃ n, n ≤ y ∧ loop B y = some n ∧ (∀ i, n ≤ i → i < y → s[i]? = some 255) ∧ (n = 0 ∨ s[n - 1]? ≠ some 255) by
    refine Exists.elim (hk (fun y106 =>
        Option.bind (α := Bool)
          (bif (decide ((y106 : Int) > (0 : Int))) then
            Option.bind (getS s 0 y106 (w64 ((y106 : Int) - (1 : Int)))) fun v123 =>
            some (v123 == (255 : UInt8))
          else
            some false)
          fun y120 =>
        bif y120 then
          bif decide (0 ≤ (w64 ((y106 : Int) - (1 : Int))) ∧ (w64 ((y106 : Int) - (1 : Int))) ≤ (y106 : Int)) then
          some (Sum.inl ((w64 ((y106 : Int) - (1 : Int))).toNat))
          else none
        else
          some (Sum.inr y106)) ?_ s.length (Nat.le_refl _)) ?_
    · intro y hy
      show Option.bind (bif _ then _ else _) _ = _
      by_cases h0 : 0 < y
      rotate_left
      · rw [bif_decF (by omega), bind_some', cond_false, if_neg (fun h => h0 h.1)]
      rw [bif_decT (by omega), w64_id (n := (y : Int) - 1) (by omega) (by omega)]
      have hg : getS s 0 y ((y : Int) - 1) = s[y - 1]? := by
        unfold getS
        rw [if_pos (by omega), Nat.zero_add, show ((y : Int) - 1).toNat = y - 1 by omega]
      rw [hg, List.getElem?_eq_getElem (by omega), bind_some', bind_some']
      by_cases h1 : s[y - 1]'(by omega) = 255
      · rw [h1, BEq.rfl, cond_true, bif_decT (by omega), if_pos ⟨h0, rfl⟩, show ((y : Int) - 1).toNat = y - 1 by omega]
      · rw [beq_eq_false_iff_ne.2 h1, cond_false, if_neg (fun h => h1 (Option.some.inj h.2))]
    · rintro n ⟨h1, h2, h3, h4⟩
      rw [h2, bind_some', bind_some']
      have hsplit : s = s.take n ++ s.drop n := (List.take_append_drop _ _).symm
      have hfull : ∀ x, x ∈ s.drop n → x = 255 := by
        intro x hx
        obtain ⟨i, hi⟩ := List.getElem?_of_mem hx
        rw [List.getElem?_drop] at hi
        have hlt := ltGet hi
        rw [h3 (n + i) (by omega) (by omega)] at hi
        exact (Option.some.inj hi).symm
      have e1 : afterL s = afterL (s.take n) := by
        conv => lhs; rw [hsplit]
        exact afterL_append _ hfull
      rw [e1]
      by_cases h0 : n = 0
      · subst h0; rfl
      obtain ⟨m, rfl⟩ : ∃ m, n = m + 1 := ⟨n - 1, by omega⟩
      have hm : m < s.length := by omega
      have hx : s[m] ≠ 255 := by
        rcases h4 with h4 | h4
        · omega
        · intro e; apply h4; rw [show m + 1 - 1 = m by omega, List.getElem?_eq_getElem hm, e]
      have hg : getS s 0 (m + 1) (m : Int) = some s[m] := by
        unfold getS
        rw [if_pos (by omega), Nat.zero_add, Int.toNat_natCast, List.getElem?_eq_getElem hm]
      rw [beq_eq_false_iff_ne.2 (show ¬ ((m + 1 : Nat) : Int) = 0 by omega), cond_false, w64_id (n := ((m + 1 : Nat) : Int) - 1) (by omega) (by omega), show ((m + 1 : Nat) : Int) - 1 = (m : Int) by omega, hg, bind_some', bind_some', Int.toNat_natCast, bif_decT (by simp; omega)]
      rw [List.take_succ_eq_append_getElem hm, afterL_last _ hx]
      simp only
      congr 2
      rw [List.drop_zero, List.take_set, List.take_succ_eq_append_getElem hm, List.set_append_right _ _ (by simp; omega)]
      have : m - (s.take m).length = 0 := by simp; omega
      rw [this, List.set_cons_zero]
  intro B hB y
  induction y with
  | zero => intro _; exact ⟨0, by omega, loop_end (by rw [hB 0 (by omega), if_neg (by omega)]), fun i _ _ => by omega, .inl rfl⟩
  | succ y ih =>
    intro hy
    have hb := hB (y + 1) hy
    by_cases h : s[y]? = some 255
    · rw [if_pos ⟨by omega, by simpa using h⟩] at hb
      obtain ⟨n, h1, h2, h3, h4⟩ := ih (by omega)
      refine ⟨n, by omega, (loop_step hb).trans h2, fun i k1 k2 => ?_, h4⟩
      by_cases e : i = y
      · rw [e]; exact h
      · exact h3 i k1 (by omega)
    · rw [if_neg (fun k => h (by simpa using k.2))] at hb
      exact ⟨y + 1, by omega, loop_end hb, fun i _ _ => by omega, .inr (by simpa using h)⟩
/-- A text lies in the span of what begins with s, if it begins so. -/
theorem In_Under (s k : List UInt8) (hs : s.length < 4611686018427387904) : ∃ u, key_Under s = some u ∧ key_In u k = some (s.isPrefixOf k) := by
  unfold key_Under
  rw [After_eq s hs, ← inL_prefix]
  cases h : afterL s with
  | none =>
    refine ⟨⟨s, [], true⟩, rfl, ?_⟩
    unfold key_In inL leL ltS
    simp only [h]
    cases (Op.bytesLess s k || s == k) <;> rfl
  | some a =>
    refine ⟨⟨s, a, false⟩, rfl, ?_⟩
    unfold key_In inL leL ltS
    simp only [h]
    cases (Op.bytesLess s k || s == k) <;> rfl
end Lv
/- Plain laws of layer 07: keys keep the order. -/
namespace Lv
open Go Go.Proofs
set_option linter.unusedVariables false
set_option linter.unusedSimpArgs false
set_option linter.unusedSectionVars false
set_option maxRecDepth 100000
variable [BaseTab]
/-- Where two texts differ: which is less. -/
def difB : List UInt8 → List UInt8 → Int
  | a :: x, b :: y => if a < b then -1 else if b < a then 1 else difB x y
  | _, _ => 0
theorem difB_turn : ∀ (x y : List UInt8), difB (x.map (fun c => ~~~ c)) (y.map (fun c => ~~~ c)) = - difB x y
  | [], [] => rfl
  | [], _ :: _ => rfl
  | _ :: _, [] => rfl
  | a :: x, b :: y => by
    have ih := difB_turn x y
    have h1 : (~~~ a < ~~~ b) = (b < a) := by
      have := a.toNat_lt; have := b.toNat_lt
      rw [UInt8.lt_iff_toNat_lt, UInt8.lt_iff_toNat_lt, UInt8.toNat_not, UInt8.toNat_not]
      exact propext ⟨fun h => by simp at *; omega, fun h => by simp at *; omega⟩
    have h2 : (~~~ b < ~~~ a) = (a < b) := by
      have := a.toNat_lt; have := b.toNat_lt
      rw [UInt8.lt_iff_toNat_lt, UInt8.lt_iff_toNat_lt, UInt8.toNat_not, UInt8.toNat_not]
      exact propext ⟨fun h => by simp at *; omega, fun h => by simp at *; omega⟩
    simp only [List.map_cons, difB, h1, h2, ih]
    by_cases c1 : a < b
    · have c2 : ¬ b < a := by rw [UInt8.lt_iff_toNat_lt] at *; omega
      rw [if_neg c2, if_pos c1, if_pos c1]; rfl
    · rw [if_neg c1, if_neg c1]
      split <;> rfl
theorem u8_tri (a b : UInt8) : a < b ∨ b < a ∨ a = b := by
  rw [UInt8.lt_iff_toNat_lt, UInt8.lt_iff_toNat_lt, ← UInt8.toNat_inj]; omega
theorem u8_irr (a : UInt8) : ¬ a < a := by rw [UInt8.lt_iff_toNat_lt]; omega
theorem u8_asym {a b : UInt8} (h : a < b) : ¬ b < a ∧ a ≠ b := by
  refine ⟨by rw [UInt8.lt_iff_toNat_lt] at *; omega, fun e => by subst e; exact u8_irr _ h⟩
theorem difB_less : ∀ {x y : List UInt8} (r t : List UInt8), difB x y < 0 → Op.bytesLess (x ++ r) (y ++ t) = true
  | [], [], _, _, h => by simp [difB] at h
  | [], _ :: _, _, _, h => by simp [difB] at h
  | _ :: _, [], _, _, h => by simp [difB] at h
  | a :: x, b :: y, r, t, h => by
    rcases u8_tri a b with c | c | c
    · simp [Op.bytesLess, c]
    · simp only [difB, if_neg (u8_asym c).1, if_pos c] at h; omega
    · subst c
      simp only [difB, if_neg (u8_irr a)] at h
      have := difB_less r t h
      simp [Op.bytesLess, this]
theorem difB_more : ∀ {x y : List UInt8} (r t : List UInt8), 0 < difB x y → Op.bytesLess (x ++ r) (y ++ t) = false ∧ x ++ r ≠ y ++ t
  | [], [], _, _, h => by simp [difB] at h
  | [], _ :: _, _, _, h => by simp [difB] at h
  | _ :: _, [], _, _, h => by simp [difB] at h
  | a :: x, b :: y, r, t, h => by
    rcases u8_tri a b with c | c | c
    · simp only [difB, if_pos c] at h; omega
    · have := u8_asym c
      simp [Op.bytesLess, this.1, this.2.symm]
    · subst c
      simp only [difB, if_neg (u8_irr a)] at h
      have := difB_more r t h
      simp [Op.bytesLess, this, u8_irr]
theorem less_same : ∀ (x r t : List UInt8), Op.bytesLess (x ++ r) (x ++ t) = Op.bytesLess r t
  | [], _, _ => rfl
  | a :: x, r, t => by simp [Op.bytesLess, u8_irr, less_same x r t]
/-- Numbers. -/
def ncmp (a b : Nat) : Int := if a < b then -1 else if b < a then 1 else 0
theorem difB_bytesN (n m : UInt64) : ∀ k, difB (bytesN n k) (bytesN m k) = ncmp (n.toNat % 256 ^ k) (m.toNat % 256 ^ k)
  | 0 => by simp [bytesN, difB, ncmp, Nat.mod_one]
  | k + 1 => by
    have ih := difB_bytesN n m k
    have e : (2 : Nat) ^ (8 * k) = 256 ^ k := by rw [Nat.pow_mul]
    have hp : 0 < 256 ^ k := Nat.pow_pos (by omega)
    simp only [bytesN, difB, ih, UInt8.lt_iff_toNat_lt, UInt8.toNat_ofNat', e]
    have e1 : n.toNat % 256 ^ (k + 1) = n.toNat % 256 ^ k + 256 ^ k * (n.toNat / 256 ^ k % 256) := by rw [Nat.pow_succ, Nat.mod_mul]
    have e2 : m.toNat % 256 ^ (k + 1) = m.toNat % 256 ^ k + 256 ^ k * (m.toNat / 256 ^ k % 256) := by rw [Nat.pow_succ, Nat.mod_mul]
    rw [e1, e2, show (2 : Nat) ^ 8 = 256 from rfl]
    have h1 : n.toNat % 256 ^ k < 256 ^ k := Nat.mod_lt _ hp
    have h2 : m.toNat % 256 ^ k < 256 ^ k := Nat.mod_lt _ hp
    generalize n.toNat / 256 ^ k % 256 = x
    generalize m.toNat / 256 ^ k % 256 = y
    generalize n.toNat % 256 ^ k = u at h1
    generalize m.toNat % 256 ^ k = w at h2
    generalize 256 ^ k = B at h1 h2
    unfold ncmp
    rcases Nat.lt_trichotomy x y with c | c | c
    · have : B * x + B ≤ B * y := by rw [← Nat.mul_succ]; exact Nat.mul_le_mul_left _ c
      rw [if_pos c, if_pos (by omega)]
    · subst c
      rw [if_neg (Nat.lt_irrefl _), if_neg (Nat.lt_irrefl _)]
      by_cases c2 : u < w
      · rw [if_pos c2, if_pos (by omega)]
      · rw [if_neg c2, if_neg (show ¬ (u + B * x < w + B * x) by omega)]
        by_cases c3 : w < u
        · rw [if_pos c3, if_pos (by omega)]
        · rw [if_neg c3, if_neg (by omega)]
    · have : B * y + B ≤ B * x := by rw [← Nat.mul_succ]; exact Nat.mul_le_mul_left _ c
      rw [if_neg (by omega), if_pos c, if_neg (show ¬ (u + B * x < w + B * y) by omega), if_pos (by omega)]
/-- The sign's bit turned: half the range added. -/
theorem xor_top (n : UInt64) : (n ^^^ 9223372036854775808).toNat = if n.toNat < 9223372036854775808 then n.toNat + 9223372036854775808 else n.toNat - 9223372036854775808 := by
  have hn := n.toNat_lt
  rw [UInt64.toNat_xor, show (9223372036854775808 : UInt64).toNat = 2 ^ 63 from rfl]
  have low : ∀ m : Nat, m < 2 ^ 63 → m ^^^ 2 ^ 63 = 2 ^ 63 + m := by
    intro m hm
    apply Nat.eq_of_testBit_eq
    intro i
    rw [Nat.testBit_xor, Nat.testBit_two_pow]
    rcases Nat.lt_trichotomy i 63 with c | c | c
    · rw [Nat.testBit_two_pow_add_gt c, decide_eq_false (by omega)]; simp
    · subst c; rw [Nat.testBit_two_pow_add_eq]; simp
    · rw [decide_eq_false (by omega), Nat.testBit_lt_two_pow (Nat.lt_of_lt_of_le hm (Nat.pow_le_pow_right (by omega) (by omega))), Nat.testBit_lt_two_pow (Nat.lt_of_lt_of_le (show 2 ^ 63 + m < 2 ^ 64 by omega) (Nat.pow_le_pow_right (by omega) (by omega)))]; rfl
  by_cases h : n.toNat < 9223372036854775808
  · rw [if_pos h, low _ (by omega)]; omega
  · rw [if_neg h]
    have : n.toNat = (n.toNat - 2 ^ 63) ^^^ 2 ^ 63 := by rw [low _ (by omega)]; omega
    conv => lhs; rw [this]
    rw [Nat.xor_assoc, Nat.xor_self, Nat.xor_zero]
/-- As whole numbers with a sign. -/
theorem i64u_val (n : UInt64) : i64u n = if n.toNat < 9223372036854775808 then (n.toNat : Int) else (n.toNat : Int) - 18446744073709551616 := by
  have hn := n.toNat_lt
  unfold i64u IntKind.wrap
  have e1 : (2 : Int) ^ IntKind.i64.bits = 18446744073709551616 := rfl
  have e2 : (2 : Int) ^ (IntKind.i64.bits - 1) = 9223372036854775808 := rfl
  simp only [e1, e2, show IntKind.i64.signed = true from rfl, Bool.true_and, decide_eq_true_eq]
  repeat' split
  all_goals omega
def icmp (a b : Int) : Int := if a < b then -1 else if b < a then 1 else 0
theorem difB_signed (n m : UInt64) : difB (bytesN (n ^^^ 9223372036854775808) 8) (bytesN (m ^^^ 9223372036854775808) 8) = icmp (i64u n) (i64u m) := by
  have hn := n.toNat_lt
  have hm := m.toNat_lt
  rw [difB_bytesN, xor_top, xor_top, i64u_val, i64u_val]
  unfold ncmp icmp
  simp only [Nat.reducePow]
  repeat' split
  all_goals first | rfl | omega
theorem cmpB_pre : ∀ (s t : List UInt8), difB (esc s ++ [0, 0]) (esc t ++ [0, 0]) = Go.Lib.compareBytes s t
  | [], [] => by decide
  | [], y :: t => by
    unfold esc Go.Lib.compareBytes
    by_cases hy : y = 0
    · subst hy; rfl
    · have : (0 : UInt8) < y := by rw [UInt8.lt_iff_toNat_lt]; rw [← UInt8.toNat_inj] at hy; have e : (0 : UInt8).toNat = 0 := rfl; omega
      rw [if_neg hy]
      simp [difB, this, esc]
  | x :: s, [] => by
    unfold esc Go.Lib.compareBytes
    by_cases hx : x = 0
    · subst hx; rfl
    · have : (0 : UInt8) < x := by rw [UInt8.lt_iff_toNat_lt]; rw [← UInt8.toNat_inj] at hx; have e : (0 : UInt8).toNat = 0 := rfl; omega
      rw [if_neg hx]
      simp [difB, this, esc, (u8_asym this).1]
  | x :: s, y :: t => by
    have ih := cmpB_pre s t
    have pos : ∀ z : UInt8, z ≠ 0 → (0 : UInt8) < z := fun z hz => by rw [UInt8.lt_iff_toNat_lt]; rw [ne_eq, ← UInt8.toNat_inj] at hz; have e : (0 : UInt8).toNat = 0 := rfl; omega
    unfold esc Go.Lib.compareBytes
    by_cases hx : x = 0
    · by_cases hy : y = 0
      · subst hx; subst hy
        rw [if_pos rfl, if_pos rfl, if_neg (u8_irr _), if_neg (u8_irr _), ← ih]
        rfl
      · subst hx
        rw [if_pos rfl, if_neg hy, if_pos (pos y hy)]
        simp [difB, pos y hy]
    · by_cases hy : y = 0
      · subst hy
        rw [if_pos rfl, if_neg hx, if_neg (u8_asym (pos x hx)).1, if_pos (pos x hx)]
        simp [difB, (u8_asym (pos x hx)).1, pos x hx]
      · rw [if_neg hx, if_neg hy, List.cons_append, List.cons_append, difB, ih]
theorem compareBytes_zero : ∀ {s t : List UInt8}, Go.Lib.compareBytes s t = 0 ↔ s = t
  | [], [] => by simp [Go.Lib.compareBytes]
  | [], y :: t => by simp [Go.Lib.compareBytes]
  | x :: s, [] => by simp [Go.Lib.compareBytes]
  | x :: s, y :: t => by
    unfold Go.Lib.compareBytes
    rcases u8_tri x y with c | c | c
    · rw [if_pos c]
      exact ⟨fun h => by omega, fun h => by injection h with h; exact absurd h (u8_asym c).2⟩
    · rw [if_neg (u8_asym c).1, if_pos c]
      exact ⟨fun h => by omega, fun h => by injection h with h; exact absurd h.symm (u8_asym c).2⟩
    · subst c
      rw [if_neg (u8_irr _), if_neg (u8_irr _), compareBytes_zero]
      simp
/-- The order of values. -/
def vcmp (v w : ApiValue) : Int :=
  if v.Kind ≠ w.Kind then icmp v.Kind w.Kind
  else if (if v.Kind = 1 then icmp (i64u v.N) (i64u w.N) else 0) ≠ 0 then icmp (i64u v.N) (i64u w.N)
  else if ncmp v.N.toNat w.N.toNat ≠ 0 then ncmp v.N.toNat w.N.toNat else Go.Lib.compareBytes v.S w.S
theorem ncmp_zero {a b : Nat} : ncmp a b = 0 ↔ a = b := by unfold ncmp; repeat' split
                                                           all_goals omega
theorem icmp_zero {a b : Int} : icmp a b = 0 ↔ a = b := by unfold icmp; repeat' split
                                                           all_goals omega
theorem i64u_inj {n m : UInt64} (h : i64u n = i64u m) : n = m := by
  have hn := n.toNat_lt
  have hm := m.toNat_lt
  rw [i64u_val, i64u_val] at h
  rw [← UInt64.toNat_inj]
  repeat' split at h
  all_goals omega
theorem vcmp_zero {v w : ApiValue} : vcmp v w = 0 ↔ v = w := by
  obtain ⟨K, N, S⟩ := v
  obtain ⟨L, M, T⟩ := w
  unfold vcmp
  simp only [ApiValue.mk.injEq]
  by_cases hk : K = L
  rotate_left
  · rw [if_pos hk, icmp_zero]
    exact ⟨fun h => absurd h hk, fun h => h.1⟩
  rw [if_neg (fun h => h hk)]
  by_cases hn : N = M
  · subst hn
    have e1 : icmp (i64u N) (i64u N) = 0 := icmp_zero.2 rfl
    have e2 : ncmp N.toNat N.toNat = 0 := ncmp_zero.2 rfl
    rw [e1, e2]
    simp only [ite_self, ne_eq, not_true_eq_false, if_false]
    rw [compareBytes_zero]
    exact ⟨fun h => ⟨hk, trivial, h⟩, fun h => h.2.2⟩
  · have e2 : ncmp N.toNat M.toNat ≠ 0 := fun h => hn (UInt64.toNat_inj.1 (ncmp_zero.1 h))
    have e1 : icmp (i64u N) (i64u M) ≠ 0 := fun h => hn (i64u_inj (icmp_zero.1 h))
    by_cases k1 : K = 1
    · rw [if_pos k1, if_pos e1]
      exact ⟨fun h => absurd h e1, fun h => absurd h.2.1 hn⟩
    · rw [if_neg k1, if_neg (fun x => x rfl), if_pos e2]
      exact ⟨fun h => absurd h e2, fun h => absurd h.2.1 hn⟩
theorem difB_enc {v w : ApiValue} (hv : val v = true) (hw : val w = true) (h : clash (v, w) = false) : difB (enc v) (enc w) = vcmp v w := by
  unfold clash at h
  simp only [Bool.and_eq_false_iff, bne_eq_false_iff_eq] at h
  have kv := val_kind hv
  have kw := val_kind hw
  by_cases hk : v.Kind = w.Kind
  rotate_left
  · unfold vcmp
    rw [if_pos hk]
    rcases h with h | h | h
    · exact absurd h hk
    · unfold enc icmp
      rw [if_pos h, if_neg (show ¬ w.Kind = 0 by omega), if_pos (show v.Kind < w.Kind by omega)]
      rfl
    · unfold enc icmp
      rw [if_neg (show ¬ v.Kind = 0 by omega), if_pos h, if_neg (show ¬ v.Kind < w.Kind by omega), if_pos (show w.Kind < v.Kind by omega)]
      rfl
  by_cases h0 : v.Kind = 0
  · rw [val_null hv h0, val_null hw (by omega)]
    decide
  have he : difB (enc v) (enc w) = difB (body v) (body w) := by
    unfold enc
    rw [if_neg h0, if_neg (by omega)]
    rfl
  rw [he]
  unfold vcmp
  rw [if_neg (fun x => x hk)]
  have hn := v.N.toNat_lt
  have hm := w.N.toNat_lt
  by_cases k1 : v.Kind = 1
  · have s1 := (val_num hv (.inl k1)).1
    have s2 := (val_num hw (.inl (by omega))).1
    unfold body
    rw [if_pos k1, if_pos (by omega), difB_signed, if_pos k1]
    by_cases c : icmp (i64u v.N) (i64u w.N) = 0
    · have := i64u_inj (icmp_zero.1 c)
      rw [c, this, s1, s2]
      simp [ncmp, Go.Lib.compareBytes]
    · rw [if_pos c]
  rw [if_neg k1, if_neg (fun x => x rfl)]
  by_cases k2 : v.Kind = 2
  · have s1 := (val_num hv (.inr (.inl k2))).1
    have s2 := (val_num hw (.inr (.inl (by omega)))).1
    unfold body
    rw [if_neg k1, if_pos k2, if_neg (by omega), if_pos (by omega), difB_bytesN, s1, s2]
    rw [Nat.mod_eq_of_lt (by omega), Nat.mod_eq_of_lt (by omega)]
    split
    · rfl
    · rename_i c
      simpa [Go.Lib.compareBytes] using c
  by_cases k3 : v.Kind = 3
  · obtain ⟨s1, n1⟩ := val_num hv (.inr (.inr k3))
    obtain ⟨s2, n2⟩ := val_num hw (.inr (.inr (by omega)))
    have n1 := n1 k3
    have n2 := n2 (by omega)
    unfold body
    rw [if_neg k1, if_neg k2, if_pos k3, if_neg (by omega), if_neg (by omega), if_pos (by omega), difB_bytesN, s1, s2]
    rw [Nat.mod_eq_of_lt (by omega), Nat.mod_eq_of_lt (by omega)]
    split
    · rfl
    · rename_i c
      simpa [Go.Lib.compareBytes] using c
  have k45 : v.Kind = 4 ∨ v.Kind = 5 := by omega
  have n1 := val_txt hv k45
  have n2 := val_txt hw (by omega)
  unfold body
  rw [if_neg k1, if_neg k2, if_neg k3, if_pos k45, if_neg (by omega), if_neg (by omega), if_neg (by omega), if_pos (by omega), cmpB_pre, n1, n2]
  rw [if_neg (fun x => x (by rfl))]
/-- The order of lists. -/
def ordL : List ApiValue → List ApiValue → List Bool → Int
  | v :: a, w :: b, d :: ds => if vcmp v w = 0 then ordL a b ds else if d then - vcmp v w else vcmp v w
  | _, _, _ => 0
theorem ordL_keys : ∀ (a b : List ApiValue) (ds : List Bool), a.length = b.length → a.length = ds.length → (∀ v ∈ a, val v = true) → (∀ v ∈ b, val v = true) → (a.zip b).any clash = false →
    (ordL a b ds < 0 → Op.bytesLess (encL a ds) (encL b ds) = true) ∧ (0 < ordL a b ds → Op.bytesLess (encL a ds) (encL b ds) = false ∧ encL a ds ≠ encL b ds) ∧ (ordL a b ds = 0 → a = b)
  | [], b, ds, h1, h2, _, _, _ => by
    have := List.eq_nil_of_length_eq_zero h1.symm
    subst this
    simp [ordL]
  | v :: a, [], _, h1, _, _, _, _ => by simp at h1
  | v :: a, w :: b, [], _, h2, _, _, _ => by simp at h2
  | v :: a, w :: b, d :: ds, h1, h2, ha, hb, hc => by
    rw [List.zip_cons_cons, List.any_cons, Bool.or_eq_false_iff] at hc
    have ih := ordL_keys a b ds (by simpa using h1) (by simpa using h2) (fun x hx => ha x (List.mem_cons_of_mem _ hx)) (fun x hx => hb x (List.mem_cons_of_mem _ hx)) hc.2
    have hd := difB_enc (ha v (List.mem_cons_self ..)) (hb w (List.mem_cons_self ..)) hc.1
    simp only [ordL, encL]
    by_cases hz : vcmp v w = 0
    · have := vcmp_zero.1 hz
      subst this
      rw [if_pos hz, less_same]
      refine ⟨ih.1, fun h => ⟨(ih.2.1 h).1, fun e => (ih.2.1 h).2 (List.append_cancel_left e)⟩, fun h => by rw [ih.2.2 h]⟩
    · rw [if_neg hz]
      have ht : difB (turn d (enc v)) (turn d (enc w)) = if d then - vcmp v w else vcmp v w := by
        cases d with
        | false => exact hd
        | true => show difB (List.map _ _) (List.map _ _) = _; rw [difB_turn, hd]; rfl
      rw [← ht]
      refine ⟨fun h => difB_less _ _ h, fun h => difB_more _ _ h, fun h => ?_⟩
      rw [ht] at h
      cases d with
      | false => exact absurd h hz
      | true => simp only [if_true] at h; omega
end Lv
/- Plain laws of layer 07: the law KeyOrder. -/
namespace Lv
open Go Go.Proofs
set_option linter.unusedVariables false
set_option linter.unusedSimpArgs false
set_option linter.unusedSectionVars false
set_option maxRecDepth 100000
variable [BaseTab]
theorem Compare_int_eq (a b : Int) : cmp_Compare_int a b = some (icmp a b) := by
  unfold cmp_Compare_int icmp
  rw [show cmp_isNaN_int a = some () from rfl, show cmp_isNaN_int b = some () from rfl, bind_some', bind_some', bne_self_eq_false, bne_self_eq_false, cond_false, cond_false]
  by_cases h : a < b
  · rw [bif_decT h, if_pos h]
  · rw [bif_decF h, if_neg h]
    by_cases h2 : b < a
    · rw [bif_decT (show a > b from h2), if_pos h2]
    · rw [bif_decF (show ¬ a > b from h2), if_neg h2]
theorem Compare_int64_eq (a b : Int) : cmp_Compare_int64 a b = some (icmp a b) := Compare_int_eq a b
theorem Compare_uint64_eq (a b : UInt64) : cmp_Compare_uint64 a b = some (ncmp a.toNat b.toNat) := by
  unfold cmp_Compare_uint64 ncmp
  rw [show cmp_isNaN_uint64 a = some () from rfl, show cmp_isNaN_uint64 b = some () from rfl, bind_some', bind_some', bne_self_eq_false, bne_self_eq_false, cond_false, cond_false]
  by_cases h : a < b
  · rw [bif_decT h, if_pos (UInt64.lt_iff_toNat_lt.1 h)]
  · rw [bif_decF h, if_neg (fun x => h (UInt64.lt_iff_toNat_lt.2 x))]
    by_cases h2 : b < a
    · rw [bif_decT h2, if_pos (UInt64.lt_iff_toNat_lt.1 h2)]
    · rw [bif_decF h2, if_neg (fun x => h2 (UInt64.lt_iff_toNat_lt.2 x))]
theorem Or3_eq (a b c : Int) : cmp_Or_int [a, b, c] = some (if a ≠ 0 then a else if b ≠ 0 then b else c) := by
  unfold cmp_Or_int
  suffices hk : ∀ B : Int → Option (Int ⊕ (Unit ⊕ Int)), B 0 = (bif a != 0 then some (.inr (.inr a)) else some (.inl 1)) → B 1 = (bif b != 0 then some (.inr (.inr b)) else some (.inl 2)) → B 2 = (bif c != 0 then some (.inr (.inr c)) else some (.inl 3)) → B 3 = some (.inr (.inl ())) →
      (loop B 0).bind (Sum.elim (fun e => some (Sum.inl e)) (fun e => some (Sum.inr e))) = some (Sum.inr (if a ≠ 0 then a else if b ≠ 0 then b else c)) ∨ (loop B 0).bind (Sum.elim (fun e => some (Sum.inl e)) (fun e => some (Sum.inr e))) = some (Sum.inl () : Unit ⊕ Int) ∧ (if a ≠ 0 then a else if b ≠ 0 then b else c) = 0 by
    have := hk (fun y49 =>
        bif (decide (y49 < ([a, b, c].length : Int))) then
          Option.bind (getI [a, b, c] y49) fun v57 =>
          bif (v57 != (0 : Int)) then
            some (Sum.inr (Sum.inr v57))
          else
            some (Sum.inl (w64 (y49 + (1 : Int))))
        else
          some (Sum.inr (Sum.inl ()))) rfl rfl rfl rfl
    rcases this with h | ⟨h, h2⟩
    · rw [h]; rfl
    · rw [h, h2]; rfl
  intro B h0 h1 h2 h3
  by_cases ha : a = 0
  · rw [ha, bne_self_eq_false, cond_false] at h0
    rw [loop_step h0, if_neg (fun x => x ha)]
    by_cases hb : b = 0
    · rw [hb, bne_self_eq_false, cond_false] at h1
      rw [loop_step h1, if_neg (fun x => x hb)]
      by_cases hc : c = 0
      · rw [hc, bne_self_eq_false, cond_false] at h2
        rw [loop_step h2, loop_end h3]
        right; exact ⟨rfl, hc⟩
      · rw [show (c != 0) = true by simpa using hc, cond_true] at h2
        rw [loop_end h2]; left; rfl
    · rw [show (b != 0) = true by simpa using hb, cond_true] at h1
      rw [loop_end h1, if_pos hb]; left; rfl
  · rw [show (a != 0) = true by simpa using ha, cond_true] at h0
    rw [loop_end h0, if_pos ha]; left; rfl
theorem value_Cmp_eq (v w : ApiValue) : value_Cmp v w = some (vcmp v w) := by
  unfold value_Cmp vcmp
  rw [Compare_int_eq, bind_some', Compare_uint64_eq]
  by_cases hk : v.Kind = w.Kind
  rotate_left
  · have hz : icmp v.Kind w.Kind ≠ 0 := fun h => hk (icmp_zero.1 h)
    rw [if_pos hk, beq_eq_false_iff_ne.2 hz, cond_false, bind_some', cond_false, bind_some', bind_some']
    show Option.bind (cmp_Or_int [_, _, Go.Lib.compareBytes v.S w.S]) _ = _
    rw [Or3_eq, if_pos hz]; rfl
  · rw [if_neg (fun x => x hk), icmp_zero.2 hk, BEq.rfl, cond_true, bind_some']
    by_cases k1 : v.Kind = 1
    · rw [if_pos k1, k1, BEq.rfl, cond_true, Compare_int64_eq]
      show Option.bind (cmp_Or_int [_, _, Go.Lib.compareBytes v.S w.S]) _ = _
      rw [Or3_eq]; rfl
    · rw [if_neg k1, beq_eq_false_iff_ne.2 k1, cond_false]
      show Option.bind (cmp_Or_int [_, _, Go.Lib.compareBytes v.S w.S]) _ = _
      rw [Or3_eq]; rfl
theorem compareBytes_le : ∀ s t, -1 ≤ Go.Lib.compareBytes s t ∧ Go.Lib.compareBytes s t ≤ 1
  | [], [] => by simp [Go.Lib.compareBytes]
  | [], y :: t => by simp [Go.Lib.compareBytes]
  | x :: s, [] => by simp [Go.Lib.compareBytes]
  | x :: s, y :: t => by
    have := compareBytes_le s t
    unfold Go.Lib.compareBytes
    repeat' split
    all_goals omega
theorem vcmp_le (v w : ApiValue) : -1 ≤ vcmp v w ∧ vcmp v w ≤ 1 := by
  have := compareBytes_le v.S w.S
  unfold vcmp icmp ncmp
  repeat' split
  all_goals omega
theorem order_eq (a b : List ApiValue) (ds : List Bool) (h1 : a.length = b.length) (h2 : a.length = ds.length) (hl : a.length ≤ 1048576) : law07_order a b ds = some (ordL a b ds) := by
  unfold law07_order
  suffices hk : ∀ B : Int → Option (Int ⊕ (Unit ⊕ Int)), (∀ i (hi : i < a.length), B (i : Int) = (bif ((if ds[i]'(by omega) then w64 (0 - vcmp a[i] (b[i]'(by omega))) else vcmp a[i] (b[i]'(by omega))) != 0) then some (.inr (.inr (if ds[i]'(by omega) then w64 (0 - vcmp a[i] (b[i]'(by omega))) else vcmp a[i] (b[i]'(by omega))))) else some (.inl ((i + 1 : Nat) : Int)))) → B (a.length : Int) = some (.inr (.inl ())) →
      ∀ k i, i + k = a.length → loop B (i : Int) = some (if ordL (a.drop i) (b.drop i) (ds.drop i) = 0 then .inl () else .inr (ordL (a.drop i) (b.drop i) (ds.drop i))) by
    have q := hk (fun y139 =>
        bif (decide (y139 < (a.length : Int))) then
          Option.bind (getI a y139) fun v156 =>
          Option.bind (getI b y139) fun v157 =>
          Option.bind (value_Cmp v156 v157) fun r158 =>
          Option.bind (α := Int)
            (Option.bind (getI ds y139) fun v164 =>
            bif v164 then
              some (w64 (0 - r158))
            else
              some r158)
            fun y162 =>
          bif (y162 != (0 : Int)) then
            some (Sum.inr (Sum.inr y162))
          else
            some (Sum.inl (w64 (y139 + (1 : Int))))
        else
          some (Sum.inr (Sum.inl ()))) (fun i hi => by
      show (bif _ then _ else _) = _
      rw [bif_decT (by omega), getI_at hi, bind_some', getI_at (by omega), bind_some', value_Cmp_eq, bind_some', getI_at (by omega), bind_some', w64_succ (by omega)]
      cases ds[i]'(by omega) <;> rfl) (by
      show (bif _ then _ else _) = _
      rw [bif_decF (by omega)]) a.length 0 (by omega)
    rw [show (loop _ (0 : Int)) = _ from q]
    simp only [List.drop_zero]
    by_cases h : ordL a b ds = 0
    · rw [if_pos h, h]; rfl
    · rw [if_neg h]; rfl
  intro B hB he k
  induction k with
  | zero =>
    intro i hi
    have : i = a.length := by omega
    subst this
    rw [loop_end he, List.drop_length]
    rfl
  | succ k ih =>
    intro i hi
    have hi' : i < a.length := by omega
    have hb := hB i hi'
    rw [List.drop_eq_getElem_cons hi', List.drop_eq_getElem_cons (show i < b.length by omega), List.drop_eq_getElem_cons (show i < ds.length by omega)]
    have hO : ordL (a[i] :: a.drop (i + 1)) (b[i]'(by omega) :: b.drop (i + 1)) (ds[i]'(by omega) :: ds.drop (i + 1)) = if vcmp a[i] (b[i]'(by omega)) = 0 then ordL (a.drop (i + 1)) (b.drop (i + 1)) (ds.drop (i + 1)) else if ds[i]'(by omega) then - vcmp a[i] (b[i]'(by omega)) else vcmp a[i] (b[i]'(by omega)) := rfl
    have hv := vcmp_le a[i] (b[i]'(by omega))
    have hneg : (if ds[i]'(by omega) then w64 (0 - vcmp a[i] (b[i]'(by omega))) else vcmp a[i] (b[i]'(by omega))) = (if ds[i]'(by omega) then - vcmp a[i] (b[i]'(by omega)) else vcmp a[i] (b[i]'(by omega))) := by
      cases ds[i]'(by omega)
      · rfl
      · show w64 _ = _
        rw [w64_id (by omega) (by omega)]; simp
    rw [hneg] at hb
    by_cases hz : vcmp a[i] (b[i]'(by omega)) = 0
    · rw [if_pos hz] at hO
      rw [hO]
      rw [hz] at hb
      have : (if ds[i]'(by omega) then - (0 : Int) else 0) = 0 := by cases ds[i]'(by omega) <;> rfl
      rw [this, bne_self_eq_false, cond_false] at hb
      rw [loop_step hb, ih (i + 1) (by omega)]
    · rw [if_neg hz] at hO
      rw [hO]
      have hnz : (if ds[i]'(by omega) then - vcmp a[i] (b[i]'(by omega)) else vcmp a[i] (b[i]'(by omega))) ≠ 0 := by
        cases ds[i]'(by omega)
        · exact hz
        · simp only [if_true]; omega
      rw [show ((if ds[i]'(by omega) then - vcmp a[i] (b[i]'(by omega)) else vcmp a[i] (b[i]'(by omega))) != 0) = true by simpa using hnz, cond_true] at hb
      rw [loop_end hb, if_neg hnz]
theorem ref06_Cmp_eq (v w : ApiValue) : ∃ c, ref06_Cmp v w = some c ∧ (c == 0) = decide (v = w) := by
  have hz : ∀ c : Bool, ∃ x : Int, (bif c then some (-1 : Int) else some (1 : Int)) = some x ∧ (x == 0) = false := by
    intro c
    cases c
    · exact ⟨1, rfl, rfl⟩
    · exact ⟨-1, rfl, rfl⟩
  unfold ref06_Cmp
  by_cases hk : v.Kind = w.Kind
  rotate_left
  · rw [show (v.Kind != w.Kind) = true by simpa using hk, cond_true, show decide (v = w) = false from decide_eq_false (fun h => hk (by rw [h]))]
    exact hz _
  rw [show (v.Kind != w.Kind) = false by simpa using hk, cond_false]
  by_cases hn : v.N = w.N
  rotate_left
  · rw [show (v.N != w.N) = true by simpa using hn, cond_true, show decide (v = w) = false from decide_eq_false (fun h => hn (by rw [h]))]
    cases (v.Kind == 1)
    · exact hz _
    · exact hz _
  rw [show (v.N != w.N) = false by simpa using hn, cond_false]
  by_cases hs : v.S = w.S
  · rw [hs, BEq.rfl, cond_true]
    have : v = w := by cases v; cases w; simp_all
    exact ⟨0, rfl, by rw [decide_eq_true this]; rfl⟩
  · rw [beq_eq_false_iff_ne.2 hs, cond_false, show decide (v = w) = false from decide_eq_false (fun h => hs (by rw [h]))]
    exact hz _
theorem encL_split : ∀ (l : List ApiValue) (ds : List Bool) (k : Nat), encL l ds = encL (l.take k) (ds.take k) ++ encL (l.drop k) (ds.drop k)
  | l, ds, 0 => by simp [encL]
  | [], ds, k + 1 => by simp [encL]
  | v :: l, [], k + 1 => by simp [encL]
  | v :: l, d :: ds, k + 1 => by
    simp only [List.take_succ_cons, List.drop_succ_cons, encL]
    rw [List.append_assoc, ← encL_split l ds k]
theorem KeyOrder_true (a b : List ApiValue) (ds : List Bool) (n : Int) (ha : Sm a) (hb : Sm b) (ka : ∀ v ∈ a, -9223372036854775808 ≤ v.Kind ∧ v.Kind < 9223372036854775808) (kb : ∀ v ∈ b, -9223372036854775808 ≤ v.Kind ∧ v.Kind < 9223372036854775808) (hn : -9223372036854775808 ≤ n ∧ n < 9223372036854775808) : law07_KeyOrder a b ds n = some true := by
  have hal := ha.len
  unfold law07_KeyOrder
  rw [show awakeF = some () from rfl, bind_some']
  by_cases e1 : a.length = b.length
  rotate_left
  · rw [show ((a.length : Int) != (b.length : Int)) = true by simp; omega]; rfl
  by_cases e2 : a.length = ds.length
  rotate_left
  · rw [show ((a.length : Int) != (b.length : Int)) = false by simp; omega, show ((a.length : Int) != (ds.length : Int)) = true by simp; omega]; rfl
  rw [show ((a.length : Int) != (b.length : Int)) = false by simp; omega, show ((a.length : Int) != (ds.length : Int)) = false by simp; omega, cond_false, bind_some', cond_false]
  have hz : (a.zip b).length = a.length := by rw [List.length_zip]; omega
  have q := loop_any (B := (fun y309 =>
          bif (decide (y309 < (a.length : Int))) then
            Option.bind (α := Bool)
              (Option.bind (getI a y309) fun v338 =>
              Option.bind (getI b y309) fun v339 =>
              bif (v338.Kind != v339.Kind) then
                Option.bind (getI a y309) fun v341 =>
                bif (v341.Kind != (0 : Int)) then
                  Option.bind (getI b y309) fun v343 =>
                  some (v343.Kind != (0 : Int))
                else
                  some false
              else
                some false)
              fun y336 =>
            bif y336 then
              some (Sum.inr (Sum.inr true))
            else
              some (Sum.inl (w64 (y309 + (1 : Int))))
          else
            some (Sum.inr (Sum.inl ())))) (a.zip b) clash (.inr true) (.inl ()) (fun i hi => by
      rw [hz] at hi
      show (bif _ then Option.bind (Option.bind (getI a (i : Int)) fun v => Option.bind (getI b (i : Int)) _) _ else _) = _
      rw [bif_decT (by omega), getI_at hi, bind_some', getI_at (by omega), bind_some', List.getElem_zip, w64_succ (by omega)]
      unfold clash
      simp only
      rw [bind_some', bind_some']
      cases (a[i].Kind != (b[i]'(by omega)).Kind) <;> cases (a[i].Kind != 0) <;> cases ((b[i]'(by omega)).Kind != 0) <;> rfl) (by
      show (bif (decide (((a.zip b).length : Int) < (a.length : Int))) then _ else _) = _
      rw [hz, bif_decF (by omega)])
  rw [show (loop _ (0 : Int)) = _ from q]
  cases hany : (a.zip b).any clash with
  | true => rfl
  | false =>
    rw [if_neg (by simp), bind_some', Sum.elim_inl, bindE_l, key_Encode_eq a ds ha, bind_some', key_Encode_eq b ds hb]
    by_cases ca : (encS a ds).2 = 0
    rotate_left
    · generalize encS a ds = x at ca
      obtain ⟨x1, x2⟩ := x
      simp only at ca
      show Option.bind (some (encS b ds)) (fun _ => Option.bind (bif (x2 != 0) then _ else _) _) = _
      rw [show (x2 != 0) = true by simpa using ca]; rfl
    by_cases cb : (encS b ds).2 = 0
    rotate_left
    · generalize encS a ds = x at ca
      obtain ⟨x1, x2⟩ := x
      generalize encS b ds = y at cb
      obtain ⟨y1, y2⟩ := y
      simp only at ca cb
      show Option.bind (some (y1, y2)) (fun _ => Option.bind (bif (x2 != 0) then _ else some (y2 != 0)) _) = _
      rw [show (x2 != 0) = false by simpa using ca, show (y2 != 0) = true by simpa using cb]; rfl
    obtain ⟨_, a2, a3, a4⟩ := encS_ok ca
    obtain ⟨_, b2, b3, b4⟩ := encS_ok cb
    rw [a4, b4]
    have va := goodVs a2
    have vb := goodVs b2
    obtain ⟨o1, o2, o3⟩ := ordL_keys a b ds e1 e2 va vb hany
    have hkl : ((a.zip b).map bothK).length = a.length := by rw [List.length_map, hz]
    have hcl : ∀ i (hi : i < a.length), clash (a[i], b[i]'(by omega)) = false := fun i hi => by
      rw [List.any_eq_false] at hany
      have := hany ((a.zip b)[i]'(by omega)) (List.getElem_mem _)
      rw [List.getElem_zip] at this
      simpa using this
    have hkk : ∀ (i : Nat) (k : Int), ((a.zip b).map bothK)[i]? = some k → ∃ hi : i < a.length, k = bothK (a[i], b[i]'(by omega)) := by
      intro i k hk
      have hi : i < a.length := by have := ltGet hk; omega
      rw [List.getElem?_map, List.getElem?_eq_getElem (by omega), List.getElem_zip] at hk
      exact ⟨hi, (Option.some.inj hk).symm⟩
    show Option.bind (some (encL b ds, (0 : Int))) _ = _
    rw [bind_some']
    show Option.bind (bif ((0 : Int) != 0) then _ else some ((0 : Int) != 0)) _ = _
    rw [show ((0 : Int) != 0) = false from rfl, cond_false, bind_some', cond_false, order_eq a b ds e1 e2 hal, bind_some']
    generalize ordL a b ds = c at o1 o2 o3
    have hcmp : (bif (decide (c < (0 : Int))) then
              bif (!(ltS (encL a ds) (encL b ds))) then
                some true
              else
                bif (decide (c > (0 : Int))) then
                  bif (ltS (encL a ds) (encL b ds) || encL a ds == encL b ds) then
                    some true
                  else
                    bif (c == (0 : Int)) then
                      some (encL a ds != encL b ds)
                    else
                      some false
                else
                  bif (c == (0 : Int)) then
                    some (encL a ds != encL b ds)
                  else
                    some false
            else
              bif (decide (c > (0 : Int))) then
                bif (ltS (encL a ds) (encL b ds) || encL a ds == encL b ds) then
                  some true
                else
                  bif (c == (0 : Int)) then
                    some (encL a ds != encL b ds)
                  else
                    some false
              else
                bif (c == (0 : Int)) then
                  some (encL a ds != encL b ds)
                else
                  some false) = some false := by
      rcases Int.lt_trichotomy c 0 with h | h | h
      · rw [bif_decT h, show ltS (encL a ds) (encL b ds) = true from o1 h, bif_decF (show ¬ c > 0 by omega), beq_eq_false_iff_ne.2 (show c ≠ 0 by omega)]; rfl
      · rw [bif_decF (by omega), bif_decF (by omega), h, BEq.rfl, cond_true, o3 h, bne_self_eq_false]
      · obtain ⟨p1, p2⟩ := o2 h
        rw [bif_decF (show ¬ c < 0 by omega), bif_decT h, show ltS (encL a ds) (encL b ds) = false from p1, beq_eq_false_iff_ne.2 p2, beq_eq_false_iff_ne.2 (show c ≠ 0 by omega)]; rfl
    rw [hcmp, bind_some', cond_false]
    -- the front's length
    have hL : w64 ((a.length : Int) + 1) = (a.length : Int) + 1 := w64_id (by omega) (by omega)
    have t1 : -((a.length : Int) + 1) < Int.tmod n ((a.length : Int) + 1) ∧ Int.tmod n ((a.length : Int) + 1) < (a.length : Int) + 1 := by
      have p := Int.tmod_lt_of_pos n (show (0 : Int) < (a.length : Int) + 1 by omega)
      have m := Int.tmod_lt_of_pos (-n) (show (0 : Int) < (a.length : Int) + 1 by omega)
      rw [Int.neg_tmod] at m
      omega
    rw [hL, w64_id (n := Int.tmod n ((a.length : Int) + 1) + (a.length : Int)) (by omega) (by omega), w64_id (n := Int.tmod n ((a.length : Int) + 1) + (a.length : Int) + 1) (by omega) (by omega)]
    have m0 : 0 ≤ Int.tmod (Int.tmod n ((a.length : Int) + 1) + (a.length : Int) + 1) ((a.length : Int) + 1) := Int.tmod_nonneg _ (by omega)
    have m1 := Int.tmod_lt_of_pos (Int.tmod n ((a.length : Int) + 1) + (a.length : Int) + 1) (show (0 : Int) < (a.length : Int) + 1 by omega)
    generalize Int.tmod (Int.tmod n ((a.length : Int) + 1) + (a.length : Int) + 1) ((a.length : Int) + 1) = m at m0 m1
    obtain ⟨k, rfl⟩ : ∃ k : Nat, m = (k : Int) := ⟨m.toNat, by omega⟩
    have hkl2 : k ≤ a.length := by omega
    rw [Int.toNat_natCast]
    have lt : (a.take k).length = k := by simp; omega
    have ltb : (b.take k).length = k := by simp; omega
    have ltd : (ds.take k).length = k := by simp; omega
    rw [bif_decT (show ((a.length : Int) + 1) ≠ 0 by omega), bif_decT (show ((a.length : Int) + 1) ≠ 0 by omega), bif_decT (show 0 ≤ (k : Int) ∧ (k : Int) ≤ (a.length : Int) by omega), bif_decT (show ((([] : List ApiValue).length + (List.take k a).length) * 32 ≤ room) by rw [room_val, lt]; simp; omega),
      bif_decT (show 0 ≤ (k : Int) ∧ (k : Int) ≤ (ds.length : Int) by omega), bif_decT (show ((([] : List Bool).length + (List.take k ds).length) * 1 ≤ room) by rw [room_val, ltd]; simp; omega), List.nil_append, List.nil_append]
    have hsm : Sm (a.take k) := ⟨by omega, fun v hv => ha.txt v (List.mem_of_mem_take hv)⟩
    have hsp := encL_split a ds k
    have hspb := encL_split b ds k
    have hle : (encL (a.take k) (ds.take k)).length ≤ (encL a ds).length := by rw [hsp]; simp
    have hfr : encS (a.take k) (ds.take k) = (encL (a.take k) (ds.take k), 0) := by
      unfold encS
      rw [if_pos (by omega), if_neg (by rw [any_take bad a k a2]; simp), if_neg (by omega)]
    rw [key_Encode_eq _ _ hsm, hfr, bind_some']
    show Option.bind (bif ((0 : Int) != 0) then some true else bif decide (((encL (a.take k) (ds.take k)).length : Int) > ((encL a ds).length : Int)) then some true else bif decide (0 ≤ ((encL (a.take k) (ds.take k)).length : Int) ∧ ((encL (a.take k) (ds.take k)).length : Int) ≤ ((encL a ds).length : Int)) then (bif ((List.take ((encL (a.take k) (ds.take k)).length : Int).toNat (encL a ds)) != encL (a.take k) (ds.take k)) then some true else Option.bind (key_Under (encL (a.take k) (ds.take k))) _) else none) _ = _
    obtain ⟨u, hu1, hu2⟩ := In_Under (encL (a.take k) (ds.take k)) (encL a ds) (by omega)
    obtain ⟨u', hu1', hu3⟩ := In_Under (encL (a.take k) (ds.take k)) (encL b ds) (by omega)
    obtain rfl : u = u' := Option.some.inj (hu1.symm.trans hu1')
    have hpre : (encL (a.take k) (ds.take k)).isPrefixOf (encL a ds) = true := by rw [List.isPrefixOf_iff_prefix, hsp]; exact List.prefix_append _ _
    have htk : List.take (encL (a.take k) (ds.take k)).length (encL a ds) = encL (a.take k) (ds.take k) := by
      conv => lhs; rw [hsp]
      exact List.take_left' rfl
    rw [show ((0 : Int) != 0) = false from rfl, cond_false, bif_decF (by omega), bif_decT (by omega), Int.toNat_natCast, htk, bne_self_eq_false, cond_false, hu1, bind_some', hu2, bind_some', hpre]
    show Option.bind (some false) _ = _
    rw [bind_some', cond_false]
    have hzk : ((a.take k).zip (b.take k)).length = k := by rw [List.length_zip]; omega
    have q2 := loop_fold (B := (fun (y441, y442) =>
                    bif (decide (y442 < (k : Int))) then
                      bif y441 then
                        Option.bind (getI a y442) fun v455 =>
                        Option.bind (getI b y442) fun v456 =>
                        Option.bind (ref06_Cmp v455 v456) fun r457 =>
                        some (Sum.inl ((r457 == (0 : Int)), (w64 (y442 + (1 : Int)))))
                      else
                        some (Sum.inl (false, (w64 (y442 + (1 : Int)))))
                    else
                      some (Sum.inr y441))) ((a.take k).zip (b.take k)) (fun i s => (s, (i : Int))) (fun s p => .inl (s && decide (p.1 = p.2))) (fun s => s) (fun _ _ => True) ?_ ?_ true trivial
    rotate_left
    · intro i s hi _
      rw [hzk] at hi
      refine ⟨?_, fun _ _ => trivial⟩
      show (bif _ then bif s then Option.bind (getI a (i : Int)) fun v => Option.bind (getI b (i : Int)) _ else _ else _) = _
      rw [bif_decT (by omega), w64_succ (by omega), List.getElem_zip, List.getElem_take, List.getElem_take]
      cases s with
      | false => rfl
      | true =>
        obtain ⟨c, hc1, hc2⟩ := ref06_Cmp_eq (a[i]'(by omega)) (b[i]'(by omega))
        rw [cond_true, getI_at (show i < a.length by omega), bind_some', getI_at (show i < b.length by omega), bind_some', hc1, bind_some', hc2]
        rfl
    · intro s _
      show (bif (decide ((((a.take k).zip (b.take k)).length : Int) < (k : Int))) then _ else _) = _
      rw [hzk, bif_decF (by omega)]
    rw [show (loop _ (true, (0 : Int))) = _ from q2, bind_some', bind_some', bind_some', hu3, bind_some']
    have hall : ∀ (x y : List ApiValue) (s : Bool), x.length = y.length → foldE (W := Bool) (fun s p => .inl (s && decide (p.1 = p.2))) (fun s => s) s (x.zip y) = (s && decide (x = y)) := by
      intro x
      induction x with
      | nil =>
        intro y s h
        have := List.eq_nil_of_length_eq_zero h.symm
        subst this
        simp [foldE]
      | cons v x ih =>
        intro y s h
        cases y with
        | nil => simp at h
        | cons w y =>
          rw [List.zip_cons_cons]
          simp only [foldE, Sum.elim_inl]
          rw [ih y _ (by simpa using h), Bool.eq_iff_iff]
          simp [Bool.and_eq_true, and_assoc]
    rw [hall _ _ true (by omega), Bool.true_and]
    have hiff : (encL (a.take k) (ds.take k)).isPrefixOf (encL b ds) = decide (a.take k = b.take k) := by
      rw [Bool.eq_iff_iff, List.isPrefixOf_iff_prefix, decide_eq_true_iff]
      constructor
      · rintro ⟨t, ht⟩
        have hks : (((a.zip b).map bothK).take k).length = k := by simp; omega
        have fits : ∀ (i : Nat) (v : ApiValue) (kk : Int), (a.take k)[i]? = some v → (((a.zip b).map bothK).take k)[i]? = some kk → fitK kk v := by
          intro i v kk h1 h2
          rw [List.getElem?_take] at h1 h2
          split at h1
          rotate_left
          · cases h1
          rename_i hik
          rw [if_pos hik] at h2
          obtain ⟨hi, rfl⟩ := hkk i kk h2
          rw [List.getElem?_eq_getElem hi] at h1
          obtain rfl := Option.some.inj h1
          exact fit_left (ka _ (List.getElem_mem hi)) (hcl i hi)
        have fitsb : ∀ (i : Nat) (v : ApiValue) (kk : Int), (b.take k)[i]? = some v → (((a.zip b).map bothK).take k)[i]? = some kk → fitK kk v := by
          intro i v kk h1 h2
          rw [List.getElem?_take] at h1 h2
          split at h1
          rotate_left
          · cases h1
          rename_i hik
          rw [if_pos hik] at h2
          obtain ⟨hi, rfl⟩ := hkk i kk h2
          rw [List.getElem?_eq_getElem (by omega)] at h1
          obtain rfl := Option.some.inj h1
          exact fit_right (kb _ (List.getElem_mem _)) (hcl i hi)
        have d1 := decL_enc (a.take k) (ds.take k) (((a.zip b).map bothK).take k) t (by omega) (by omega) (fun v hv => va v (List.mem_of_mem_take hv)) fits
        have d2 := decL_enc (b.take k) (ds.take k) (((a.zip b).map bothK).take k) (encL (b.drop k) (ds.drop k)) (by omega) (by omega) (fun v hv => vb v (List.mem_of_mem_take hv)) fitsb
        rw [ht, hspb, d2] at d1
        injection d1 with d1
        injection d1 with d1 _
        exact d1.symm
      · intro h
        rw [hspb, h]
        exact List.prefix_append _ _
    rw [hiff]
    simp
end Lv
