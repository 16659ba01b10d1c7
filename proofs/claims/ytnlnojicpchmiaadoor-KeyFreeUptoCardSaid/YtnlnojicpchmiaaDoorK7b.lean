/- Plain laws of layer 07: keys of values, keys of lists. -/
import Derived.Test.YtnlnojicpchmiaaDoorK7a
namespace Lv
open Go Go.Proofs
set_option linter.unusedVariables false
set_option linter.unusedSimpArgs false
set_option linter.unusedSectionVars false
set_option maxRecDepth 100000
variable [BaseTab]

/-- A number's low bytes, the highest first. -/
def bytesN (n : UInt64) : Nat → List UInt8
  | 0 => []
  | k + 1 => UInt8.ofNat (n.toNat / 2 ^ (8 * k)) :: bytesN n k
theorem bytesN_len (n : UInt64) : ∀ k, (bytesN n k).length = k
  | 0 => rfl
  | k + 1 => by simp [bytesN, bytesN_len n k]
theorem shr64_low (n : UInt64) (m : Nat) : (shr64 n m).toUInt8 = UInt8.ofNat (n.toNat / 2 ^ m) := by
  unfold shr64
  rw [← UInt8.toNat_inj]
  have h : n.toNat / 2 ^ m < 18446744073709551616 := Nat.lt_of_le_of_lt (Nat.div_le_self _ _) n.toNat_lt
  simp [UInt64.toNat_ofNat, Nat.mod_eq_of_lt h]
theorem low8 (n : UInt64) : n.toUInt8 = UInt8.ofNat (n.toNat / 2 ^ (8 * 0)) := by
  rw [← UInt8.toNat_inj]; simp

theorem Out_Num_eq (n : UInt64) (k : Nat) (acc : List UInt8) (hk : k ≤ 8) (hr : acc.length + 8 ≤ 70368744177664) : ref01_Out_Num_1 n k acc = some (acc ++ bytesN n k) := by
  unfold ref01_Out_Num_1
  rw [w64_id (n := (k : Int) - 1) (by omega) (by omega)]
  suffices h : ∀ (k : Nat) (acc : List UInt8), k ≤ 8 → acc.length + k ≤ 70368744177664 → ∀ B : Int × List UInt8 → Option ((Int × List UInt8) ⊕ List UInt8), B = (fun (y21, y22) =>
      bif (decide (y21 ≥ (0 : Int))) then
        bif decide (0 ≤ (w64 ((8 : Int) * y21))) then
        bif decide ((y22.length + [((shr64 n ((w64 ((8 : Int) * y21)).toNat)).toUInt8)].length) * 1 ≤ room) then
        some (Sum.inl ((w64 (y21 - (1 : Int))), (y22 ++ [((shr64 n ((w64 ((8 : Int) * y21)).toNat)).toUInt8)])))
        else none
        else none
      else
        some (Sum.inr y22)) → loop B ((k : Int) - 1, acc) = some (acc ++ bytesN n k) by
    rw [show (loop _ ((k : Int) - 1, acc)) = _ from h k acc hk (by omega) _ rfl]
    rfl
  intro k
  induction k with
  | zero =>
    intro acc _ _ B hB
    rw [bytesN, List.append_nil]
    refine loop_end ?_
    rw [hB]
    rfl
  | succ k ih =>
    intro acc hk hr B hB
    have e : w64 ((8 : Int) * (((k + 1 : Nat) : Int) - 1)) = ((8 * k : Nat) : Int) := by rw [w64_id (by omega) (by omega)]; omega
    have e2 : w64 ((((k + 1 : Nat) : Int) - 1) - 1) = (k : Int) - 1 := by rw [w64_id (by omega) (by omega)]; omega
    have st : B (((k + 1 : Nat) : Int) - 1, acc) = some (Sum.inl ((k : Int) - 1, acc ++ [UInt8.ofNat (n.toNat / 2 ^ (8 * k))])) := by
      rw [hB]
      show (bif _ then _ else _) = _
      rw [e, e2, bif_decT (by omega), bif_decT (by omega), Int.toNat_natCast, shr64_low, bif_decT (by rw [room_val]; simp; omega)]
    rw [loop_step st, ih (acc ++ [_]) (by omega) (by simp; omega) B hB, bytesN, List.append_assoc]
    rfl
theorem Out_Num_nil (n : UInt64) (k : Int) : ref01_Out_Num n k = ref01_Out_Num_1 n k [] := rfl

/-- Turned, or not. -/
def turn (d : Bool) (b : List UInt8) : List UInt8 := if d then b.map (fun x => ~~~ x) else b
theorem turn_len (d : Bool) (b : List UInt8) : (turn d b).length = b.length := by cases d <;> simp [turn]
theorem turn_turn (d : Bool) (b : List UInt8) : turn d (turn d b) = b := by
  cases d with
  | false => rfl
  | true =>
    show List.map _ (List.map _ b) = b
    rw [List.map_map]
    exact (List.map_congr_left (fun x _ => UInt8.not_not)).trans (List.map_id b)
theorem turn_append (d : Bool) (a b : List UInt8) : turn d (a ++ b) = turn d a ++ turn d b := by cases d <;> simp [turn]
theorem key_turned_eq (b : List UInt8) (h : b.length < 4611686018427387904) : key_turned b = some (b.map (fun x => ~~~ x)) := by
  unfold key_turned
  have q := loop_seq (B := (fun (y57, y58) =>
        bif (decide (y58 < (b.length : Int))) then
          Option.bind (getI y57 y58) fun v67 =>
          Option.bind (getI y57 y58) fun v68 =>
          some (Sum.inl ((List.set y57 y58.toNat (~~~ v67)), (w64 (y58 + (1 : Int)))))
        else
          some (Sum.inr y57))) (fun i => (mapped (fun x => ~~~ x) b i, (i : Int))) b.length (w := b.map (fun x => ~~~ x)) ?_ ?_
  · rw [mapped_zero] at q
    rw [show (loop _ (b, (0 : Int))) = _ from q]
    rfl
  · intro i hi
    show (bif _ then _ else _) = _
    rw [bif_decT (by omega), getI_nat, mapped_get _ _ hi, bind_some', bind_some', w64_succ (by omega), Int.toNat_natCast]
    exact congrArg (fun x => some (Sum.inl (x, _))) (mapped_set _ _ hi)
  · show (bif _ then _ else _) = _
    rw [bif_decF (by omega), mapped_all]

/-- NULs marked. -/
def esc : List UInt8 → List UInt8
  | [] => []
  | x :: r => if x = 0 then 0 :: 255 :: esc r else x :: esc r
theorem esc_len : ∀ s, (esc s).length ≤ 2 * s.length
  | [] => by simp [esc]
  | x :: r => by have := esc_len r; unfold esc; split <;> simp <;> omega
open Go.Lib in
theorem index0_cons (b : UInt8) (l : List UInt8) : index (b :: l) [0] = if b = 0 then 0 else if index l [0] = -1 then -1 else index l [0] + 1 := by
  conv => lhs; unfold index
  by_cases hb : b = 0
  · subst hb; simp [List.isPrefixOf]
  · rw [if_neg hb]
    rw [if_neg (by simp [List.isPrefixOf]; exact fun h => hb h.symm)]
    by_cases h : index l [0] = -1
    · simp [h]
    · rw [if_neg h, if_neg (by simpa using h)]
open Go.Lib in
theorem replK0_cons (b : UInt8) (l new : List UInt8) (hb : b ≠ 0) : ∀ k, replaceK [0] new k (b :: l) = b :: replaceK [0] new k l
  | 0 => rfl
  | k + 1 => by
    have h := index0_cons b l
    rw [if_neg hb] at h
    unfold replaceK
    by_cases hm : index l [0] = -1
    · rw [if_pos hm] at h
      rw [h, hm]; rfl
    · have hge := index_ge l [0]
      rw [if_neg hm] at h
      rw [if_neg (by rw [h]; intro e; have := beq_iff_eq.1 e; omega), if_neg (by intro e; exact hm (beq_iff_eq.1 e)), h]
      have e1 : (index l [0] + 1).toNat = (index l [0]).toNat + 1 := by omega
      rw [e1, List.take_succ_cons, Nat.add_right_comm, List.drop_succ_cons]
      simp
open Go.Lib in
theorem count0_cons (b : UInt8) (l : List UInt8) : count (b :: l) [0] = if b = 0 then 1 + count l [0] else count l [0] := by
  have h := index0_cons b l
  by_cases hb : b = 0
  · rw [if_pos hb] at h ⊢
    exact count_hit (i := 0) (by simp) h
  · rw [if_neg hb] at h ⊢
    by_cases hm : index l [0] = -1
    · rw [if_pos hm] at h
      rw [count_miss h, count_miss hm]
    · have hge := index_ge l [0]
      rw [if_neg hm] at h
      have e1 : index (b :: l) [0] = ((index l [0]).toNat + 1 : Nat) := by omega
      have e2 : index l [0] = ((index l [0]).toNat : Nat) := by omega
      rw [count_hit (by simp) e1, count_hit (s := l) (by simp) e2]
      rfl
open Go.Lib in
theorem replace_esc (s : List UInt8) : replaceAll s [0] [0, 255] = esc s := by
  have e : replaceNum s [0] (-1) = count s [0] := by unfold replaceNum; rw [if_pos (.inl (by omega))]
  unfold replaceAll replace
  rw [if_neg (by decide), e]
  induction s with
  | nil => rfl
  | cons b l ih =>
    rw [count0_cons]
    unfold esc
    by_cases hb : b = 0
    · have h := index0_cons b l
      rw [if_pos hb] at h
      rw [if_pos hb, if_pos hb, Nat.add_comm, replaceK_hit _ _ _ _ 0 h]
      have e : replaceNum l [0] (-1) = count l [0] := by unfold replaceNum; rw [if_pos (.inl (by omega))]
      simp only [List.take_zero, List.nil_append, List.length_singleton, Nat.zero_add, List.drop_succ_cons, List.drop_zero]
      rw [ih e]; rfl
    · rw [if_neg hb, if_neg hb, replK0_cons _ _ _ hb, ih (by unfold replaceNum; rw [if_pos (.inl (by omega))])]
theorem replF_esc (s : List UInt8) (h : s.length ≤ 1048576) : replF s ([0] : List UInt8) ([0, 255] : List UInt8) = some (esc s) := by
  unfold replF
  have := Go.Lib.count_le s [0]
  rw [if_pos ⟨by omega, by simp, (by show s.length + Go.Lib.count s [0] * 2 ≤ _; omega)⟩, replace_esc]

/-- What lies behind the first byte. -/
def body (v : ApiValue) : List UInt8 :=
  if v.Kind = 1 then bytesN (v.N ^^^ 9223372036854775808) 8 else if v.Kind = 2 then bytesN v.N 8 else if v.Kind = 3 then bytesN v.N 1
  else if v.Kind = 4 ∨ v.Kind = 5 then esc v.S ++ [0, 0] else []
def enc (v : ApiValue) : List UInt8 := (if v.Kind = 0 then 0 else 1) :: body v
theorem body_len (v : ApiValue) : (body v).length ≤ 2 * v.S.length + 8 := by
  unfold body
  have := esc_len v.S
  repeat' split
  all_goals simp [bytesN_len] <;> omega
end Lv
