/- Plain laws of layer 07: one value read, by the document. -/
import Derived.Test.YtnlnojicpchmiaaDoorK7g
namespace Lv
open Go Go.Proofs
set_option linter.unusedVariables false
set_option linter.unusedSimpArgs false
set_option linter.unusedSectionVars false
set_option maxRecDepth 100000
variable [BaseTab]

theorem In_Num_eq (k : Nat) (p : List UInt8) (pos : Nat) (b : Bool) (hp : p.length < 1073741824) (h : pos ≤ p.length) (hk : k < 100) :
    ref01_In_Num k p pos b = some (if b = true ∨ p.length - pos < k then (0, (pos : Int), true) else (num ((p.drop pos).take k), ((pos + k : Nat) : Int), false)) := by
  unfold ref01_In_Num
  cases b with
  | true => rfl
  | false =>
    rw [cond_false, show ref01_In_Left p pos false = some () from rfl, bind_some', bind_some', w64_id (n := (p.length : Int) - pos) (by omega) (by omega)]
    by_cases hl : p.length - pos < k
    · rw [if_pos (.inr hl), bif_decT (by omega)]
    · rw [if_neg (by simpa using hl), bif_decF (by omega)]
      have q := loop_seq (B := (fun (y63, y64) =>
          bif (decide (y64 < (k : Int))) then
            Option.bind (getI p (w64 ((pos : Int) + y64))) fun v72 =>
            some (Sum.inl (((shl64 y63 8) + (v72.toUInt64)), (w64 (y64 + (1 : Int)))))
          else
            some (Sum.inr y63))) (fun i => (num ((p.drop pos).take i), (i : Int))) k (w := num ((p.drop pos).take k)) ?_ ?_
      · rw [show (loop _ ((0 : UInt64), (0 : Int))) = _ from q, bind_some', bind_some', w64_id (n := (pos : Int) + k) (by omega) (by omega)]
        rfl
      · intro i hi
        show (bif _ then _ else _) = _
        have hlt : pos + i < p.length := by omega
        rw [bif_decT (by omega), w64_id (n := (pos : Int) + i) (by omega) (by omega), show (pos : Int) + (i : Int) = ((pos + i : Nat) : Int) by omega, getI_at hlt, bind_some', w64_succ (by omega), shl_or, ← num_snoc]
        congr 3
        rw [List.take_succ_eq_append_getElem (by simp; omega), List.getElem_drop]
      · show (bif _ then _ else _) = _
        rw [bif_decF (by omega)]

/-- One byte. -/
theorem In_one (p : List UInt8) (pos : Nat) (hp : p.length < 1073741824) (h : pos < p.length) : ref01_In_Num 1 p pos false = some ((p.getD pos 0).toUInt64, ((pos + 1 : Nat) : Int), false) := by
  have q := In_Num_eq 1 p pos false hp (by omega) (by omega)
  rw [if_neg (by simp; omega)] at q
  rw [show ref01_In_Num 1 p pos false = _ from q, show (p.drop pos).take 1 = [p.getD pos 0] by
    rw [List.drop_eq_getElem_cons h, List.getD_eq_getElem?_getD, List.getElem?_eq_getElem h]; rfl, num_one]
theorem In_none (p : List UInt8) (pos : Nat) (b : Bool) (hp : p.length < 1073741824) (h : pos = p.length) : ref01_In_Num 1 p pos b = some (0, (pos : Int), true) := by
  have q := In_Num_eq 1 p pos b hp (by omega) (by omega)
  rw [if_pos (.inr (by omega))] at q
  exact q
theorem u64_zero (x : UInt8) : (x.toUInt64 == (0 : UInt64)) = (x == 0) := by
  rw [Bool.eq_iff_iff]
  simp only [beq_iff_eq, ← UInt64.toNat_inj, ← UInt8.toNat_inj, UInt8.toNat_toUInt64]
  exact Iff.rfl
theorem u64_255 (x : UInt8) : (x.toUInt64 != (255 : UInt64)) = (x != 255) := by
  rw [Bool.eq_iff_iff]
  simp only [bne_iff_ne, ne_eq, ← UInt64.toNat_inj, ← UInt8.toNat_inj, UInt8.toNat_toUInt64]
  exact Iff.rfl

theorem one_turn (d : Bool) (b : List UInt8) (hb : b.length < 1073741824) : loop (Y := (List UInt8) × Int) (W := (List UInt8)) (fun (y614, y615) =>
        Option.bind (α := Bool)
          (bif (decide (y615 < (y614.length : Int))) then
            some d
          else
            some false)
          fun y628 =>
        bif y628 then
          Option.bind (getI y614 y615) fun v632 =>
          Option.bind (getI y614 y615) fun v633 =>
          some (Sum.inl ((List.set y614 y615.toNat ((255 : UInt8) - v632)), (w64 (y615 + (1 : Int)))))
        else
          some (Sum.inr y614)) (b, (0 : Int)) = some (turn d b) := by
  cases d with
  | false =>
    refine loop_end ?_
    show Option.bind (bif _ then _ else _) _ = _
    cases decide ((0 : Int) < (b.length : Int)) <;> rfl
  | true =>
    have q := loop_seq (B := (fun (y614, y615) =>
        Option.bind (α := Bool)
          (bif (decide (y615 < (y614.length : Int))) then
            some true
          else
            some false)
          fun y628 =>
        bif y628 then
          Option.bind (getI y614 y615) fun v632 =>
          Option.bind (getI y614 y615) fun v633 =>
          some (Sum.inl ((List.set y614 y615.toNat ((255 : UInt8) - v632)), (w64 (y615 + (1 : Int)))))
        else
          some (Sum.inr y614))) (fun i => (mapped (fun x => ~~~ x) b i, (i : Int))) b.length (w := b.map (fun x => ~~~ x)) ?_ ?_
    · rw [mapped_zero] at q
      exact q
    · intro i hi
      show Option.bind (bif (decide ((i : Int) < ((mapped (fun x => ~~~ x) b i).length : Int))) then _ else _) _ = _
      rw [mapped_len, bif_decT (by omega), bind_some', cond_true]
      show Option.bind (getI (mapped (fun x => ~~~ x) b i) (i : Int)) _ = _
      rw [getI_nat, mapped_get _ _ hi, bind_some', bind_some', u8_flip, w64_succ (by omega), Int.toNat_natCast]
      exact congrArg (fun x => some (Sum.inl (x, _))) (mapped_set (fun x => ~~~ x) _ hi)
    · show Option.bind (bif (decide ((b.length : Int) < ((mapped (fun x => ~~~ x) b b.length).length : Int))) then _ else _) _ = _
      rw [mapped_len, bif_decF (by omega), mapped_all]
      rfl

/-- The document's loop over a marked text. -/
noncomputable def escB (p : List UInt8) : List UInt8 × Int × Bool → Option ((List UInt8 × Int × Bool) ⊕ ((List UInt8 × Int × Bool) ⊕ (Int × ApiValue))) := (fun (y1063, y1064, y1065) =>
                    Option.bind (ref01_In_Num (1 : Int) p y1064 y1065) fun (r1106, r1107, r1108) =>
                    bindE (Y := UInt64 × Int × Bool) (E := ((List UInt8) × Int × Bool) ⊕ (Int × ApiValue))
                      (bif (r1106 == (0 : UInt64)) then
                        Option.bind (ref01_In_Num (1 : Int) p r1107 r1108) fun (r1128, r1129, r1130) =>
                        Option.bind (α := Bool)
                          (bif r1130 then
                            some true
                          else
                            bif (r1128 != (0 : UInt64)) then
                              some (r1128 != (255 : UInt64))
                            else
                              some false)
                          fun y1134 =>
                        bif y1134 then
                          some (Sum.inr (Sum.inr ((0 : Int), (ApiValue.mk (0 : Int) (0 : UInt64) ([] : List UInt8)))))
                        else
                          bif (r1128 == (0 : UInt64)) then
                            some (Sum.inr (Sum.inl (y1063, r1129, r1130)))
                          else
                            some (Sum.inl ((0 : UInt64), r1129, r1130))
                      else
                        some (Sum.inl (r1106, r1107, r1108)))
                      (fun (y1123, y1124, y1125) =>
                        bif decide ((y1063.length + [(y1123.toUInt8)].length) * 1 ≤ room) then
                        some (Sum.inl ((y1063 ++ [(y1123.toUInt8)]), y1124, y1125))
                        else none)
                      (Sum.elim (fun e => some (Sum.inr (Sum.inl e))) (fun e => some (Sum.inr (Sum.inr e)))))
theorem esc_loop (p : List UInt8) (hp : p.length < 1073741824) : ∀ (n i : Nat) (acc : List UInt8), p.length - i = n → acc.length ≤ i → i ≤ p.length →
    loop (escB p) (acc, (i : Int), false) = some (match unesc (p.drop i) with | none => .inr (0, ⟨0, 0, []⟩) | some (s, m) => .inl (acc ++ s, ((i + m : Nat) : Int), false)) := by
  intro n
  induction n using Nat.strongRecOn with
  | ind n ih =>
    intro i acc hn ha hi
    by_cases h1 : i = p.length
    · rw [show p.drop i = [] from List.drop_eq_nil_of_le (by omega)]
      refine loop_end ?_
      show Option.bind (ref01_In_Num 1 p i false) _ = _
      rw [In_none p i false hp h1, bind_some']
      show bindE (bif ((0 : UInt64) == 0) then Option.bind (ref01_In_Num 1 p i true) _ else _) _ _ = _
      rw [BEq.rfl, cond_true, In_none p i true hp h1]
      rfl
    have hlt : i < p.length := by omega
    have hd : p.drop i = p.getD i 0 :: p.drop (i + 1) := by
      rw [List.drop_eq_getElem_cons hlt, List.getD_eq_getElem?_getD, List.getElem?_eq_getElem hlt]; rfl
    rw [hd]
    by_cases h2 : p.getD i 0 = 0
    · rw [h2]
      by_cases h3 : i + 1 = p.length
      · rw [show p.drop (i + 1) = [] from List.drop_eq_nil_of_le (by omega)]
        refine loop_end ?_
        show Option.bind (ref01_In_Num 1 p i false) _ = _
        rw [In_one p i hp hlt, bind_some', h2]
        show bindE (bif (((0 : UInt8).toUInt64) == 0) then Option.bind (ref01_In_Num 1 p ((i + 1 : Nat) : Int) false) _ else _) _ _ = _
        rw [show ((0 : UInt8).toUInt64 == 0) = true from rfl, cond_true, In_none p (i + 1) false hp h3]
        rfl
      have hlt2 : i + 1 < p.length := by omega
      have hd2 : p.drop (i + 1) = p.getD (i + 1) 0 :: p.drop (i + 2) := by
        rw [List.drop_eq_getElem_cons hlt2, List.getD_eq_getElem?_getD, List.getElem?_eq_getElem hlt2]; rfl
      rw [hd2]
      have st : ∀ X, (bif ((p.getD (i + 1) 0).toUInt64 != 0) then some ((p.getD (i + 1) 0).toUInt64 != 255) else some false) = some X → escB p (acc, (i : Int), false) = (bindE (bif X then
                          some (Sum.inr (Sum.inr ((0 : Int), (ApiValue.mk (0 : Int) (0 : UInt64) ([] : List UInt8)))))
                        else
                          bif ((p.getD (i + 1) 0).toUInt64 == (0 : UInt64)) then
                            some (Sum.inr (Sum.inl (acc, ((i + 1 + 1 : Nat) : Int), false)))
                          else
                            some (Sum.inl ((0 : UInt64), ((i + 1 + 1 : Nat) : Int), false))) (fun (y1123, y1124, y1125) =>
                        bif decide ((acc.length + [(y1123.toUInt8)].length) * 1 ≤ room) then
                        some (Sum.inl ((acc ++ [(y1123.toUInt8)]), y1124, y1125))
                        else none)
                      (Sum.elim (fun e => some (Sum.inr (Sum.inl e))) (fun e => some (Sum.inr (Sum.inr e))))) := by
        intro X hX
        show Option.bind (ref01_In_Num 1 p i false) _ = _
        rw [In_one p i hp hlt, bind_some', h2]
        show bindE (bif (((0 : UInt8).toUInt64) == 0) then Option.bind (ref01_In_Num 1 p ((i + 1 : Nat) : Int) false) _ else _) _ _ = _
        rw [show ((0 : UInt8).toUInt64 == 0) = true from rfl, cond_true, In_one p (i + 1) hp hlt2, bind_some']
        show bindE (Option.bind (bif ((p.getD (i + 1) 0).toUInt64 != 0) then some ((p.getD (i + 1) 0).toUInt64 != 255) else some false) _) _ _ = _
        rw [hX]
        rfl
      by_cases h4 : p.getD (i + 1) 0 = 0
      · rw [h4] at st ⊢
        refine loop_end ((st false rfl).trans ?_)
        simp only [unesc, if_true]
        rw [List.append_nil]
        rfl
      by_cases h5 : p.getD (i + 1) 0 = 255
      · rw [h5] at st ⊢
        have st2 : escB p (acc, (i : Int), false) = some (.inl (acc ++ [0], ((i + 2 : Nat) : Int), false)) := by
          refine (st false rfl).trans ?_
          show (bif decide ((acc.length + 1) * 1 ≤ room) then _ else _) = _
          rw [bif_decT (by rw [room_val]; omega)]
          rfl
        rw [loop_step st2, ih (p.length - (i + 2)) (by omega) (i + 2) (acc ++ [0]) rfl (by simp; omega) (by omega)]
        rw [show unesc (0 :: 255 :: p.drop (i + 2)) = (unesc (p.drop (i + 2))).map (fun p => (0 :: p.1, p.2 + 2)) by simp only [unesc, if_true]; rfl]
        cases unesc (p.drop (i + 2)) with
        | none => rfl
        | some z =>
          obtain ⟨s, m⟩ := z
          show some (Sum.inl (acc ++ [0] ++ s, ((i + 2 + m : Nat) : Int), false)) = some (Sum.inl (acc ++ (0 :: s), ((i + (m + 2) : Nat) : Int), false))
          rw [List.append_assoc, show i + 2 + m = i + (m + 2) by omega]; rfl
      · refine loop_end ((st true ?_).trans ?_)
        · rw [show ((p.getD (i + 1) 0).toUInt64 != 0) = true by rw [bne, u64_zero]; simpa using h4, cond_true, u64_255]
          simpa using h5
        · generalize p.getD (i + 1) 0 = y at h4 h5
          simp only [unesc, h4, h5, if_true, if_false]
          rfl
    · have st : escB p (acc, (i : Int), false) = some (.inl (acc ++ [p.getD i 0], ((i + 1 : Nat) : Int), false)) := by
        show Option.bind (ref01_In_Num 1 p i false) _ = _
        rw [In_one p i hp hlt, bind_some']
        show bindE (bif ((p.getD i 0).toUInt64 == 0) then _ else _) _ _ = _
        rw [u64_zero, beq_eq_false_iff_ne.2 h2, cond_false, bindE_l]
        show (bif decide ((acc.length + 1) * 1 ≤ room) then _ else _) = _
        rw [bif_decT (by rw [room_val]; omega), UInt8.toUInt8_toUInt64]
      rw [loop_step st, ih (p.length - (i + 1)) (by omega) (i + 1) (acc ++ [p.getD i 0]) rfl (by simp; omega) (by omega)]
      cases hr : p.drop (i + 1) with
      | nil => simp [unesc]
      | cons y r =>
        cases hu : unesc (y :: r) with
        | none => simp only [unesc, h2, if_false, hu]; rfl
        | some z =>
          obtain ⟨s, m⟩ := z
          simp only [unesc, h2, if_false, hu]
          show some (Sum.inl (acc ++ [_] ++ s, ((i + 1 + m : Nat) : Int), false)) = some (Sum.inl (acc ++ (_ :: s), ((i + (m + 1) : Nat) : Int), false))
          rw [List.append_assoc, show i + 1 + m = i + (m + 1) by omega]; rfl

/-- What the document answers for one value. -/
def oneR : Option (ApiValue × Nat) → Int × ApiValue
  | none => (0, ⟨0, 0, []⟩)
  | some (v, n) => (n, v)
theorem one_end (b : Bool) (n : Nat) (v : ApiValue) (hv : v.S.length < 1073741824) :
    (Option.bind (α := Bool)
            (bif b then
              some true
            else
              Option.bind (ref06_Valid v) fun r1148 =>
              some (!r1148))
            fun y1145 =>
          bif y1145 then
            some ((0 : Int), (ApiValue.mk (0 : Int) (0 : UInt64) ([] : List UInt8)))
          else
            some ((n : Int), v)) = some (if b = true then oneR none else if val v = true then oneR (some (v, n)) else oneR none) := by
  cases b with
  | true => rfl
  | false =>
    rw [cond_false, ref06_Valid_eq v (by omega), bind_some', bind_some']
    cases val v <;> rfl
theorem onVal_some (v : ApiValue) (n : Nat) : oneR (onVal (some (v, n))) = if val v = true then oneR (some (v, n + 1)) else oneR none := by
  unfold onVal
  simp only
  split <;> rfl

theorem ref07_one_eq (k : Int) (d : Bool) (b : List UInt8) (hb : b.length < 1048576) : ref07_one k d b = some (oneR (decV k (turn d b))) := by
  unfold ref07_one
  rw [one_turn d b (by omega), bind_some', bind_some']
  have hb' : (turn d b).length < 1048576 := by rw [turn_len]; exact hb
  generalize turn d b = b at hb'
  cases b with
  | nil => rfl
  | cons f r =>
    have hlen : (f :: r).length = r.length + 1 := rfl
    have hz : (((f :: r).length : Int) == (0 : Int)) = false := by rw [hlen]; exact beq_eq_false_iff_ne.2 (by omega)
    rw [hz, cond_false, getI_zero, List.getElem?_cons_zero, bind_some', bind_some', bind_some']
    by_cases h0 : f = 0
    · subst h0; rfl
    by_cases h1 : f = 1
    rotate_left
    · have : (1 : UInt8) < f := by
        rw [UInt8.lt_iff_toNat_lt]
        have e : (1 : UInt8).toNat = 1 := rfl
        rw [e]
        rw [← UInt8.toNat_inj] at h0 h1
        have e0 : (0 : UInt8).toNat = 0 := rfl
        omega
      rw [decide_eq_true this, show decV k (f :: r) = none by simp [decV, h0, h1]]
      rfl
    subst h1
    rw [show decide ((1 : UInt8) < 1) = false from rfl, cond_false, show ((1 : UInt8) == 0) = false from rfl, cond_false, decV_one]
    rw [hlen] at hb'
    have n8 := In_Num_eq 8 (1 :: r) 1 false (by rw [hlen]; omega) (by rw [hlen]; omega) (by omega)
    have n1 := In_Num_eq 1 (1 :: r) 1 false (by rw [hlen]; omega) (by rw [hlen]; omega) (by omega)
    rw [show (((1 : UInt8) :: r).drop 1) = r from rfl, hlen, show r.length + 1 - 1 = r.length by omega] at n8 n1
    show bindE (bif k == 1 then Option.bind (ref01_In_Num 8 (1 :: r) 1 false) _ else bif k == 2 then Option.bind (ref01_In_Num 8 (1 :: r) 1 false) _ else bif k == 3 then Option.bind (ref01_In_Num 1 (1 :: r) 1 false) _ else bindE (Option.bind (loop (escB (1 :: r)) ([], (1 : Int), false)) _) _ _) _ _ = _
    by_cases k1 : k = 1
    · subst k1
      rw [BEq.rfl, cond_true, show raw 1 r = (if 8 ≤ r.length then some (⟨1, num (r.take 8) ^^^ 9223372036854775808, []⟩, 8) else none) by simp [raw]]
      by_cases hl : r.length < 8
      · rw [if_pos (.inr hl)] at n8
        rw [show ref01_In_Num 8 (1 :: r) 1 false = _ from n8, bind_some', if_neg (show ¬ 8 ≤ r.length by omega)]
        exact one_end true 1 ⟨1, 0 ^^^ 9223372036854775808, []⟩ (by simp)
      · rw [if_neg (by simpa using hl)] at n8
        rw [show ref01_In_Num 8 (1 :: r) 1 false = _ from n8, bind_some', if_pos (show 8 ≤ r.length by omega), onVal_some]
        exact one_end false (1 + 8) ⟨1, num (r.take 8) ^^^ 9223372036854775808, []⟩ (by simp)
    by_cases k2 : k = 2
    · subst k2
      rw [show ((2 : Int) == 1) = false from rfl, cond_false, BEq.rfl, cond_true, show raw 2 r = (if 8 ≤ r.length then some (⟨2, num (r.take 8), []⟩, 8) else none) by simp [raw]]
      by_cases hl : r.length < 8
      · rw [if_pos (.inr hl)] at n8
        rw [show ref01_In_Num 8 (1 :: r) 1 false = _ from n8, bind_some', if_neg (show ¬ 8 ≤ r.length by omega)]
        exact one_end true 1 ⟨2, 0, []⟩ (by simp)
      · rw [if_neg (by simpa using hl)] at n8
        rw [show ref01_In_Num 8 (1 :: r) 1 false = _ from n8, bind_some', if_pos (show 8 ≤ r.length by omega), onVal_some]
        exact one_end false (1 + 8) ⟨2, num (r.take 8), []⟩ (by simp)
    by_cases k3 : k = 3
    · subst k3
      rw [show ((3 : Int) == 1) = false from rfl, cond_false, show ((3 : Int) == 2) = false from rfl, cond_false, BEq.rfl, cond_true, show raw 3 r = (if 1 ≤ r.length then some (⟨3, num (r.take 1), []⟩, 1) else none) by simp [raw]]
      by_cases hl : r.length < 1
      · rw [if_pos (.inr hl)] at n1
        rw [show ref01_In_Num 1 (1 :: r) 1 false = _ from n1, bind_some', if_neg (show ¬ 1 ≤ r.length by omega)]
        exact one_end true 1 ⟨3, 0, []⟩ (by simp)
      · rw [if_neg (by simpa using hl)] at n1
        rw [show ref01_In_Num 1 (1 :: r) 1 false = _ from n1, bind_some', if_pos (show 1 ≤ r.length by omega), onVal_some]
        exact one_end false (1 + 1) ⟨3, num (r.take 1), []⟩ (by simp)
    rw [beq_eq_false_iff_ne.2 k1, beq_eq_false_iff_ne.2 k2, beq_eq_false_iff_ne.2 k3, cond_false, cond_false, cond_false]
    have q := esc_loop (1 :: r) (by rw [hlen]; omega) (r.length) 1 [] (by rw [hlen]; omega) (by simp) (by rw [hlen]; omega)
    rw [show (((1 : UInt8) :: r).drop 1) = r from rfl] at q
    rw [show loop (escB (1 :: r)) ([], (1 : Int), false) = _ from q, bind_some', show raw k r = (unesc r).map (fun p => (⟨k, 0, p.1⟩, p.2)) by simp [raw, k1, k2, k3]]
    cases hu : unesc r with
    | none => rfl
    | some z =>
      obtain ⟨s, n⟩ := z
      have hle := unesc_le hu
      show _ = some (oneR (onVal (some (⟨k, 0, s⟩, n))))
      rw [onVal_some, show n + 1 = 1 + n by omega]
      exact one_end false (1 + n) ⟨k, 0, s⟩ (by show s.length < _; omega)
end Lv
