/- Plain laws of layer 07: one value read, by the program and by the document. -/
import Derived.Test.YtnlnojicpchmiaaDoorK7f
namespace Lv
open Go Go.Proofs
set_option linter.unusedVariables false
set_option linter.unusedSimpArgs false
set_option linter.unusedSectionVars false
set_option maxRecDepth 100000
variable [BaseTab]

theorem Bad_eq (b : List UInt8) (x y : Nat) (z : Bool) : pack_In_Bad b x y z = some () := rfl
theorem Left_eq (b : List UInt8) (x y : Nat) (z : Bool) : pack_In_Left b x y z = some () := rfl
theorem num1_u8 (r : List UInt8) : (num (r.take 1)).toUInt8.toUInt64 = num (r.take 1) := by
  cases r with
  | nil => rfl
  | cons x r => rw [show (x :: r).take 1 = [x] from by simp, num_one, UInt8.toUInt8_toUInt64]

/-- The end of the program's reader of a value. -/
theorem take_end (p : List UInt8) (off len : Nat) (bd : Bool) (v : ApiValue) (hp : p.length < 1073741824) (hl : len ≤ p.length) (hv : v.S.length < 1073741824) :
    (Option.bind (α := Bool)
          (Option.bind (pack_In_Left p off len bd) fun _ =>
          Option.bind (pack_In_Bad p off len bd) fun _ =>
          bif (!bd) then
            Option.bind (value_Valid v) fun r176 =>
            some r176
          else
            some false)
          fun y171 =>
        some ((w64 ((p.length : Int) - (len : Int))), y171, v)) = some (((p.length - len : Nat) : Int), !bd && val v, v) := by
  rw [Left_eq, bind_some', Bad_eq, bind_some', w64_id (n := (p.length : Int) - len) (by omega) (by omega), show (p.length : Int) - (len : Int) = ((p.length - len : Nat) : Int) by omega]
  cases bd with
  | true => rfl
  | false =>
    show (Option.bind (Option.bind (value_Valid v) _) _) = _
    rw [value_Valid_eq v (by omega)]
    rfl

/-- What a reader of a value answers. -/
def TakeOk (d : Option (ApiValue × Nat)) (x : Option (Int × Bool × ApiValue)) : Prop :=
  match d with
  | none => ∃ n v, x = some (n, false, v)
  | some (v, n) => x = some ((n : Int), true, v)
theorem TakeOk.of {d x y} (h : x = y) (k : TakeOk d y) : TakeOk d x := h ▸ k
def onVal (o : Option (ApiValue × Nat)) : Option (ApiValue × Nat) := match o with | none => none | some p => if val p.1 = true then some (p.1, p.2 + 1) else none
theorem decV_one (k : Int) (r : List UInt8) : decV k (1 :: r) = onVal (raw k r) := by simp only [decV, onVal]; rfl
theorem TakeOk.no {n b v} : TakeOk none (some (n, !true && b, v)) := ⟨_, _, rfl⟩
theorem TakeOk.val {v : ApiValue} {n : Nat} {m : Int} (h : m = ((n + 1 : Nat) : Int)) : TakeOk (onVal (some (v, n))) (some (m, !false && val v, v)) := by
  subst h
  unfold onVal
  simp only
  by_cases hv : Lv.val v = true
  · rw [if_pos hv, hv]; rfl
  · rw [if_neg hv, Bool.eq_false_iff.2 hv]; exact ⟨_, _, rfl⟩

theorem key_take_eq (k : Int) (b : List UInt8) (hb : b.length < 1048576) : TakeOk (decV k b) (key_take k b) := by
  unfold key_take
  rw [show pack_To b = some () by unfold pack_To; rw [bif_decT (by rw [room_val]; omega)], bind_some', Flag_eq b (by omega), bind_some']
  cases b with
  | nil => exact ⟨_, _, rfl⟩
  | cons f r =>
    by_cases h0 : f = 0
    · subst h0
      exact rfl
    by_cases h1 : f = 1
    rotate_left
    · have e : flagR (f :: r) = (false, 0, r.length + 1, true) := by simp [flagR, h0, h1]
      rw [e, show decV k (f :: r) = none by simp [decV, h0, h1]]
      exact ⟨_, _, rfl⟩
    subst h1
    have e : flagR (1 :: r) = (true, 1, r.length, false) := by simp [flagR]
    rw [e, decV_one]
    have hd : ((1 : UInt8) :: r).drop 1 = r := rfl
    have hlen : ((1 : UInt8) :: r).length = r.length + 1 := rfl
    rw [hlen] at hb
    have n8 := number_1_eq (1 :: r) 8 1 r.length false (by rw [hlen]; omega) (by rw [hlen]; omega) (by omega)
    have n1 := number_1_eq (1 :: r) 1 1 r.length false (by rw [hlen]; omega) (by rw [hlen]; omega) (by omega)
    have nl := key_long_eq (1 :: r) 1 r.length (by rw [hlen]; omega) (by rw [hlen]; omega)
    rw [hd] at n8 n1 nl
    have u8 : pack_In_U64 (1 :: r) 1 r.length false = some (if false = true ∨ r.length < 8 then (0, 1, r.length, true) else (num (r.take 8), 1 + 8, r.length - 8, false)) := by
      unfold pack_In_U64; rw [show pack_In_number_1 (8 : Int) (1 :: r) 1 r.length false = _ from n8]; rfl
    show TakeOk _ (bindE (bif k == 1 then Option.bind (pack_In_U64 (1 :: r) 1 r.length false) _ else bif k == 2 then Option.bind (pack_In_U64 (1 :: r) 1 r.length false) _ else _) _ _)
    by_cases k1 : k = 1
    · subst k1
      rw [BEq.rfl, cond_true, show raw 1 r = (if 8 ≤ r.length then some (⟨1, num (r.take 8) ^^^ 9223372036854775808, []⟩, 8) else none) by simp [raw]]
      by_cases hl : r.length < 8
      · rw [if_pos (.inr hl)] at u8
        rw [u8, bind_some', if_neg (show ¬ 8 ≤ r.length by omega)]
        exact TakeOk.of (take_end (1 :: r) 1 r.length true ⟨1, 0 ^^^ 9223372036854775808, []⟩ (by rw [hlen]; omega) (by rw [hlen]; omega) (by simp)) TakeOk.no
      · rw [if_neg (by simpa using hl)] at u8
        rw [u8, bind_some', if_pos (show 8 ≤ r.length by omega)]
        exact TakeOk.of (take_end (1 :: r) (1 + 8) (r.length - 8) false ⟨1, num (r.take 8) ^^^ 9223372036854775808, []⟩ (by rw [hlen]; omega) (by rw [hlen]; omega) (by simp)) (TakeOk.val (n := 8) (by rw [hlen]; omega))
    by_cases k2 : k = 2
    · subst k2
      rw [show ((2 : Int) == 1) = false from rfl, cond_false, BEq.rfl, cond_true, show raw 2 r = (if 8 ≤ r.length then some (⟨2, num (r.take 8), []⟩, 8) else none) by simp [raw]]
      by_cases hl : r.length < 8
      · rw [if_pos (.inr hl)] at u8
        rw [u8, bind_some', if_neg (show ¬ 8 ≤ r.length by omega)]
        exact TakeOk.of (take_end (1 :: r) 1 r.length true ⟨2, 0, []⟩ (by rw [hlen]; omega) (by rw [hlen]; omega) (by simp)) TakeOk.no
      · rw [if_neg (by simpa using hl)] at u8
        rw [u8, bind_some', if_pos (show 8 ≤ r.length by omega)]
        exact TakeOk.of (take_end (1 :: r) (1 + 8) (r.length - 8) false ⟨2, num (r.take 8), []⟩ (by rw [hlen]; omega) (by rw [hlen]; omega) (by simp)) (TakeOk.val (n := 8) (by rw [hlen]; omega))
    rw [beq_eq_false_iff_ne.2 k1, beq_eq_false_iff_ne.2 k2, cond_false, cond_false]
    show TakeOk _ (bindE (bif k == 3 then Option.bind (pack_In_U8 (1 :: r) 1 r.length false) _ else bif _ then Option.bind (key_long (1 :: r) 1 r.length) _ else _) _ _)
    by_cases k3 : k = 3
    · subst k3
      have u1 : pack_In_U8 (1 :: r) 1 r.length false = some (if false = true ∨ r.length < 1 then (0, 1, r.length, true) else ((num (r.take 1)).toUInt8, 1 + 1, r.length - 1, false)) := by
        unfold pack_In_U8; rw [show pack_In_number_1 (1 : Int) (1 :: r) 1 r.length false = _ from n1]
        split <;> rfl
      rw [BEq.rfl, cond_true, show raw 3 r = (if 1 ≤ r.length then some (⟨3, num (r.take 1), []⟩, 1) else none) by simp [raw]]
      by_cases hl : r.length < 1
      · rw [if_pos (.inr hl)] at u1
        rw [u1, bind_some', if_neg (show ¬ 1 ≤ r.length by omega)]
        exact TakeOk.of (take_end (1 :: r) 1 r.length true ⟨3, (0 : UInt8).toUInt64, []⟩ (by rw [hlen]; omega) (by rw [hlen]; omega) (by simp)) TakeOk.no
      · rw [if_neg (by simpa using hl)] at u1
        rw [u1, bind_some', if_pos (show 1 ≤ r.length by omega)]
        have q := take_end (1 :: r) (1 + 1) (r.length - 1) false ⟨3, (num (r.take 1)).toUInt8.toUInt64, []⟩ (by rw [hlen]; omega) (by rw [hlen]; omega) (by simp)
        refine TakeOk.of q ?_
        rw [num1_u8]
        exact TakeOk.val (n := 1) (by rw [hlen]; omega)
    rw [beq_eq_false_iff_ne.2 k3, cond_false, bif_decT (by rw [hlen]; omega), nl, bind_some', show raw k r = (unesc r).map (fun p => (⟨k, 0, p.1⟩, p.2)) by simp [raw, k1, k2, k3]]
    cases hu : unesc r with
    | none => exact ⟨_, _, rfl⟩
    | some q =>
      obtain ⟨s, n⟩ := q
      have hle := unesc_le hu
      refine TakeOk.of (y := some ((n + 1 : Nat), !false && val ⟨k, 0, s⟩, ⟨k, 0, s⟩)) ?_ (TakeOk.val (n := n) rfl)
      show (bindE (Option.bind (Option.bind (value_Valid ⟨k, 0, s⟩) _) _) _ _) = _
      rw [value_Valid_eq ⟨k, 0, s⟩ (by show s.length < _; omega), bind_some', bind_some']
      show some (w64 (1 + (n : Int)), _, _) = _
      rw [w64_id (by omega) (by omega), Int.add_comm]
      rfl
end Lv
