/- Plain laws of layer 07: the program's keys and the document's. -/
import Derived.Test.YtnlnojicpchmiaaDoorK7b
namespace Lv
open Go Go.Proofs
set_option linter.unusedVariables false
set_option linter.unusedSimpArgs false
set_option linter.unusedSectionVars false
set_option maxRecDepth 100000
variable [BaseTab]

theorem out_put1 (a b : List UInt8) (h : b.length + a.length ≤ 70368744177664) : pack_Out_put_1 a b = some () := by
  unfold pack_Out_put_1; rw [bif_decT (by rw [room_val]; omega)]
theorem u16_hi (n : UInt64) (m : Nat) (x : UInt16) (h : x.toNat = n.toNat / 2 ^ m % 65536) : (shr16 x 8).toUInt8 = UInt8.ofNat (n.toNat / 2 ^ (m + 8)) := by
  unfold shr16
  rw [← UInt8.toNat_inj]
  have hx := x.toNat_lt
  have e : n.toNat / 2 ^ (m + 8) = n.toNat / 2 ^ m / 256 := by rw [Nat.pow_add, Nat.div_div_eq_div_mul]
  simp [UInt16.toNat_ofNat, e]
  omega
theorem u16_lo (n : UInt64) (m : Nat) (x : UInt16) (h : x.toNat = n.toNat / 2 ^ m % 65536) : x.toUInt8 = UInt8.ofNat (n.toNat / 2 ^ m) := by
  rw [← UInt8.toNat_inj]
  simp [h]
  try omega
theorem sh32 (n : UInt64) : (shr64 n 32).toUInt32.toNat = n.toNat / 2 ^ 32 := by
  unfold shr64
  have := n.toNat_lt
  simp [UInt64.toNat_ofNat]
  omega
theorem bytes8_eq (n : UInt64) (acc : List UInt8) : (((acc ++ [((shr16 ((shr32 ((shr64 n 32).toUInt32) 16).toUInt16) 8).toUInt8), (((shr32 ((shr64 n 32).toUInt32) 16).toUInt16).toUInt8)]) ++ [((shr16 (((shr64 n 32).toUInt32).toUInt16) 8).toUInt8), ((((shr64 n 32).toUInt32).toUInt16).toUInt8)]) ++ [((shr16 ((shr32 (n.toUInt32) 16).toUInt16) 8).toUInt8), (((shr32 (n.toUInt32) 16).toUInt16).toUInt8)]) ++ [((shr16 ((n.toUInt32).toUInt16) 8).toUInt8), (((n.toUInt32).toUInt16).toUInt8)] = acc ++ bytesN n 8 := by
  have hn := n.toNat_lt
  have h1 : ((shr32 ((shr64 n 32).toUInt32) 16).toUInt16).toNat = n.toNat / 2 ^ 48 % 65536 := by
    unfold shr32
    have := sh32 n
    simp [UInt32.toNat_ofNat] at *
    omega
  have h2 : (((shr64 n 32).toUInt32).toUInt16).toNat = n.toNat / 2 ^ 32 % 65536 := by
    have := sh32 n
    simp at *
    omega
  have h3 : ((shr32 (n.toUInt32) 16).toUInt16).toNat = n.toNat / 2 ^ 16 % 65536 := by
    unfold shr32
    simp [UInt32.toNat_ofNat]
    omega
  have h4 : ((n.toUInt32).toUInt16).toNat = n.toNat / 2 ^ 0 % 65536 := by
    simp
  rw [u16_hi n 48 _ h1, u16_lo n 48 _ h1, u16_hi n 32 _ h2, u16_lo n 32 _ h2, u16_hi n 16 _ h3, u16_lo n 16 _ h3, u16_hi n 0 _ h4, u16_lo n 0 _ h4]
  simp [bytesN]
theorem Out_U16_eq (x : UInt16) (b : List UInt8) (h : b.length + 2 ≤ 70368744177664) : pack_Out_U16 x b = some () := by
  unfold pack_Out_U16; rw [out_put1 _ _ (by simpa using h)]; rfl
theorem Out_U32_eq (x : UInt32) (b : List UInt8) (h : b.length + 4 ≤ 70368744177664) : pack_Out_U32 x b = some () := by
  unfold pack_Out_U32; rw [Out_U16_eq _ _ (by omega), bind_some', Out_U16_eq _ _ (by simp; omega)]; rfl
theorem Out_U64_eq (x : UInt64) (b : List UInt8) (h : b.length + 8 ≤ 70368744177664) : pack_Out_U64 x b = some () := by
  unfold pack_Out_U64; rw [Out_U32_eq _ _ (by omega), bind_some', Out_U32_eq _ _ (by simp; omega)]; rfl

theorem key_one_eq (v : ApiValue) (d : Bool) (h : v.S.length ≤ 1048576) : key_one v d = some (turn d (enc v)) := by
  have hf : pack_Out_Flag (v.Kind != (0 : Int)) = some [if v.Kind = 0 then 0 else 1] := by
    unfold pack_Out_Flag
    by_cases k : v.Kind = 0
    · rw [k]; rfl
    · rw [if_neg k, show (v.Kind != 0) = true by simpa using k]; rfl
  have hb := body_len v
  obtain ⟨K, N, S⟩ := v
  simp only at h hf hb
  unfold key_one
  simp only
  rw [hf, bind_some']
  -- the middle
  have key : ∀ (m : Option (List UInt8)) (q : List UInt8), m = some q → (if K = 4 ∨ K = 5 then q ++ (esc S ++ [0, 0]) else q) = enc ⟨K, N, S⟩ → q.length ≤ 100 →
      (Option.bind (α := (List UInt8)) m
    fun y50 =>
  Option.bind (pack_Out_Bytes y50) fun _ =>
  Option.bind (α := (List UInt8))
    (Option.bind (α := Bool)
      (bif (K == (4 : Int)) then
        some true
      else
        some (K == (5 : Int)))
      fun y71 =>
    bif y71 then
      Option.bind (replF S ([0] : List UInt8) ([0, 255] : List UInt8)) fun r75 =>
      bif decide ((y50.length + r75.length) * 1 ≤ room) then
      bif decide (((y50 ++ r75).length + [(0 : UInt8), (0 : UInt8)].length) * 1 ≤ room) then
      some ((y50 ++ r75) ++ [(0 : UInt8), (0 : UInt8)])
      else none
      else none
    else
      some y50)
    fun y68 =>
  bif d then
    Option.bind (key_turned y68) fun r80 =>
    some r80
  else
    some y68) = some (turn d (enc ⟨K, N, S⟩)) := by
    intro m q hm he hq
    subst hm
    have hl := esc_len S
    rw [bind_some', show pack_Out_Bytes q = some () by unfold pack_Out_Bytes; rw [bif_decT (by rw [room_val]; omega)], bind_some', replF_esc S h]
    have hlen : (enc ⟨K, N, S⟩).length ≤ 4194304 := by unfold enc; simp; omega
    have ht : (bif d then Option.bind (key_turned (enc ⟨K, N, S⟩)) fun r80 => some r80 else some (enc ⟨K, N, S⟩)) = some (turn d (enc ⟨K, N, S⟩)) := by
      cases d with
      | false => rfl
      | true => rw [cond_true, key_turned_eq _ (by omega)]; rfl
    by_cases k4 : K = 4
    · rw [if_pos (.inl k4)] at he
      rw [k4] at he ht ⊢
      simp only [BEq.rfl, cond_true, bind_some']
      rw [bif_decT (by rw [room_val]; omega), bif_decT (by rw [room_val]; simp; omega), bind_some', List.append_assoc, he]
      exact ht
    by_cases k5 : K = 5
    · rw [if_pos (.inr k5)] at he
      rw [k5] at he ht ⊢
      simp only [show ((5 : Int) == 4) = false from rfl, cond_false, BEq.rfl, cond_true, bind_some']
      rw [bif_decT (by rw [room_val]; omega), bif_decT (by rw [room_val]; simp; omega), bind_some', List.append_assoc, he]
      exact ht
    rw [if_neg (by omega)] at he
    subst he
    rw [beq_eq_false_iff_ne.2 k4, beq_eq_false_iff_ne.2 k5, cond_false, bind_some', cond_false, bind_some']
    exact ht
  by_cases k1 : K = 1
  · subst k1
    refine key _ ([1] ++ bytesN (N ^^^ 9223372036854775808) 8) ?_ ?_ ?_
    rotate_left
    · rfl
    · simp [bytesN_len]
    · simp only [BEq.rfl, cond_true]
      rw [Out_U64_eq _ _ (by simp), bind_some', bytes8_eq]
      rfl
  by_cases k2 : K = 2
  · subst k2
    refine key _ ([1] ++ bytesN N 8) ?_ ?_ ?_
    rotate_left
    · rfl
    · simp [bytesN_len]
    · simp only [show ((2 : Int) == 1) = false from rfl, cond_false, BEq.rfl, cond_true]
      rw [Out_U64_eq _ _ (by simp), bind_some', bytes8_eq]
      rfl
  by_cases k3 : K = 3
  · subst k3
    refine key _ ([1] ++ bytesN N 1) ?_ ?_ ?_
    rotate_left
    · rfl
    · simp [bytesN_len]
    · simp only [show ((3 : Int) == 1) = false from rfl, show ((3 : Int) == 2) = false from rfl, cond_false, BEq.rfl, cond_true]
      rw [show pack_Out_U8 (N.toUInt8) [if (3 : Int) = 0 then 0 else 1] = some () from by unfold pack_Out_U8; rw [out_put1 _ _ (by simp)]; rfl, bind_some', low8]
      rfl
  refine key _ ([if K = 0 then 0 else 1]) ?_ ?_ ?_
  rotate_left
  · unfold enc body
    simp only [k1, k2, k3, if_false]
    split <;> rfl
  · simp
  · rw [beq_eq_false_iff_ne.2 k1, beq_eq_false_iff_ne.2 k2, beq_eq_false_iff_ne.2 k3]; rfl
end Lv
