/- Plain laws of layer 07: keys of lists, the document's and the program's. -/
import Derived.Test.YtnlnojicpchmiaaDoorK7c
namespace Lv
open Go Go.Proofs
set_option linter.unusedVariables false
set_option linter.unusedSimpArgs false
set_option linter.unusedSectionVars false
set_option maxRecDepth 100000
variable [BaseTab]

theorem u8_flip (x : UInt8) : (255 : UInt8) - x = ~~~ x := by
  rw [← UInt8.toNat_inj]
  have := x.toNat_lt
  rw [UInt8.toNat_sub, UInt8.toNat_not]
  show (256 - x.toNat + 255) % 256 = _
  simp
  omega
theorem one8 : bytesN 1 1 = [1] := by decide
theorem zero8 : bytesN 0 1 = [0] := by decide
theorem zeros8 : bytesN 0 2 = [0, 0] := by decide
theorem b8 (x : UInt8) : bytesN x.toUInt64 1 = [x] := by
  unfold bytesN
  simp [bytesN]
theorem b255 : bytesN 255 1 = [255] := by decide

theorem ref07_part_eq (v : ApiValue) (d : Bool) (h : v.S.length ≤ 1048576) : ref07_part v d = some (turn d (enc v), (enc v).length) := by
  have hl := esc_len v.S
  have hb := body_len v
  have hlen : (enc v).length ≤ 4194304 := by unfold enc; simp; omega
  unfold ref07_part
  have h1 : (bif (v.Kind == (0 : Int)) then
      Option.bind (ref01_Out_Num (0 : UInt64) (1 : Int)) fun r351 =>
      some r351
    else
      Option.bind (ref01_Out_Num (1 : UInt64) (1 : Int)) fun r353 =>
      some r353) = some [if v.Kind = 0 then 0 else 1] := by
    have e0 := Out_Num_eq 0 1 [] (by omega) (by simp)
    have e1 := Out_Num_eq 1 1 [] (by omega) (by simp)
    by_cases k : v.Kind = 0
    · rw [k, if_pos rfl]
      simp only [BEq.rfl, cond_true, Out_Num_nil]
      rw [show ref01_Out_Num_1 0 1 [] = _ from e0, zero8]; rfl
    · rw [if_neg k, beq_eq_false_iff_ne.2 k, cond_false, Out_Num_nil, show ref01_Out_Num_1 1 1 [] = _ from e1, one8]; rfl
  rw [h1, bind_some']
  -- the middle
  have key : ∀ (m : Option (List UInt8)) (f : List UInt8 → Option (List UInt8 × Nat)), m = some (enc v) → f (enc v) = some (turn d (enc v), (enc v).length) → Option.bind m f = some (turn d (enc v), (enc v).length) := by
    intro m f hm hf; subst hm; exact hf
  refine key _ _ ?_ ?_
  · by_cases k1 : v.Kind = 1
    · rw [k1, BEq.rfl, cond_true]
      rw [show ref01_Out_Num_1 (v.N ^^^ 9223372036854775808) 8 _ = _ from Out_Num_eq _ 8 _ (by omega) (by simp)]
      unfold enc body
      rw [k1]
      rfl
    by_cases k2 : v.Kind = 2
    · rw [k2, show ((2 : Int) == 1) = false from rfl, cond_false, BEq.rfl, cond_true]
      rw [show ref01_Out_Num_1 v.N 8 _ = _ from Out_Num_eq _ 8 _ (by omega) (by simp)]
      unfold enc body
      rw [k2]
      rfl
    by_cases k3 : v.Kind = 3
    · rw [k3, show ((3 : Int) == 1) = false from rfl, show ((3 : Int) == 2) = false from rfl, cond_false, cond_false, BEq.rfl, cond_true]
      rw [show ref01_Out_Num_1 v.N 1 _ = _ from Out_Num_eq _ 1 _ (by omega) (by simp)]
      unfold enc body
      rw [k3]
      rfl
    rw [beq_eq_false_iff_ne.2 k1, beq_eq_false_iff_ne.2 k2, beq_eq_false_iff_ne.2 k3, cond_false, cond_false, cond_false]
    by_cases k45 : v.Kind = 4 ∨ v.Kind = 5
    · have c : (bif v.Kind == 4 then some (v.Kind == 4) else some (v.Kind == 5)) = some true := by rcases k45 with k | k <;> rw [k] <;> rfl
      have k0 : ¬ v.Kind = 0 := by omega
      rw [c, bind_some', cond_true, if_neg k0]
      have q := loop_seq (B := (fun (y582, y583) =>
                  bif (decide (y582 < (v.S.length : Int))) then
                    Option.bind (α := (List UInt8))
                      (Option.bind (getI v.S y582) fun v615 =>
                      Option.bind (ref01_Out_Num_1 (v615.toUInt64) (1 : Int) y583) fun r616 =>
                      Option.bind (getI v.S y582) fun v618 =>
                      bif (v618 == (0 : UInt8)) then
                        Option.bind (ref01_Out_Num_1 (255 : UInt64) (1 : Int) r616) fun r620 =>
                        some r620
                      else
                        some r616)
                      fun y613 =>
                    some (Sum.inl ((w64 (y582 + (1 : Int))), y613))
                  else
                    some (Sum.inr y583))) (fun i => ((i : Int), [1] ++ esc (v.S.take i))) v.S.length (w := [1] ++ esc v.S) ?_ ?_
      · rw [show (loop _ ((0 : Int), [(1 : UInt8)])) = _ from q, bind_some', bind_some']
        rw [show ref01_Out_Num_1 0 2 _ = _ from Out_Num_eq 0 2 _ (by omega) (by simp; omega), zeros8]
        unfold enc body
        rcases k45 with k | k <;> simp [k]
      · intro i hi
        have es := esc_len (v.S.take i)
        have tl : (v.S.take i).length ≤ v.S.length := by simp; omega
        have he : esc (v.S.take (i + 1)) = esc (v.S.take i) ++ (if v.S[i] = 0 then [0, 255] else [v.S[i]]) := by
          rw [List.take_succ_eq_append_getElem hi]
          generalize v.S.take i = l
          induction l with
          | nil => unfold esc; simp only [List.nil_append]; split <;> simp_all [esc]
          | cons x l ih =>
            rw [List.cons_append]
            unfold esc
            split <;> simp [ih]
        show (bif _ then _ else _) = _
        rw [bif_decT (by omega), getI_at hi, bind_some']
        rw [show ref01_Out_Num_1 (v.S[i].toUInt64) 1 _ = _ from Out_Num_eq _ 1 _ (by omega) (by simp; omega), bind_some', bind_some', b8, he]
        by_cases hz : v.S[i] = 0
        · rw [hz, BEq.rfl, cond_true, if_pos rfl]
          rw [show ref01_Out_Num_1 255 1 _ = _ from Out_Num_eq 255 1 _ (by omega) (by simp; omega), bind_some', bind_some', b255, w64_succ (by omega)]
          simp
        · rw [beq_eq_false_iff_ne.2 hz, cond_false, if_neg hz, bind_some', w64_succ (by omega)]
          simp
      · show (bif _ then _ else _) = _
        rw [bif_decF (by omega), List.take_length]
    · have c : (bif v.Kind == 4 then some (v.Kind == 4) else some (v.Kind == 5)) = some false := by
        rw [beq_eq_false_iff_ne.2 (show ¬ v.Kind = 4 by omega), beq_eq_false_iff_ne.2 (show ¬ v.Kind = 5 by omega)]; rfl
      rw [c, bind_some', cond_false]
      unfold enc body
      simp only [k1, k2, k3, k45, if_false]
  · generalize enc v = b at hlen
    cases d with
    | false =>
      have q := loop_end (B := (fun (y662, y663) =>
        Option.bind (α := Bool)
          (bif (decide (y662 < (b.length : Int))) then
            some false
          else
            some false)
          fun y676 =>
        bif y676 then
          Option.bind (getS y663 0 b.length y662) fun v680 =>
          Option.bind (getS y663 0 b.length y662) fun v681 =>
          some (Sum.inl ((w64 (y662 + (1 : Int))), (List.set y663 y662.toNat ((255 : UInt8) - v680))))
        else
          some (Sum.inr y663))) (y := ((0 : Int), b)) (w := b) (by
            show Option.bind (bif _ then _ else _) _ = _
            cases decide ((0 : Int) < (b.length : Int)) <;> rfl)
      rw [show (loop _ ((0 : Int), b)) = _ from q]
      rfl
    | true =>
      have q := loop_seq (B := (fun (y662, y663) =>
        Option.bind (α := Bool)
          (bif (decide (y662 < (b.length : Int))) then
            some true
          else
            some false)
          fun y676 =>
        bif y676 then
          Option.bind (getS y663 0 b.length y662) fun v680 =>
          Option.bind (getS y663 0 b.length y662) fun v681 =>
          some (Sum.inl ((w64 (y662 + (1 : Int))), (List.set y663 y662.toNat ((255 : UInt8) - v680))))
        else
          some (Sum.inr y663))) (fun i => ((i : Int), mapped (fun x => ~~~ x) b i)) b.length (w := b.map (fun x => ~~~ x)) ?_ ?_
      · rw [mapped_zero] at q
        rw [show (loop _ ((0 : Int), b)) = _ from q]
        rfl
      · intro i hi
        have hg : getS (mapped (fun x => ~~~ x) b i) 0 b.length (i : Int) = some (b[i]'hi) := by
          unfold getS
          rw [if_pos (by omega), Nat.zero_add, Int.toNat_natCast, mapped_get _ _ hi]
        show Option.bind (bif _ then _ else _) _ = _
        rw [bif_decT (by omega), bind_some', cond_true]
        show Option.bind (getS (mapped (fun x => ~~~ x) b i) 0 b.length (i : Int)) _ = _
        rw [hg, bind_some', bind_some', u8_flip, w64_succ (by omega), Int.toNat_natCast]
        exact congrArg (fun x => some (Sum.inl (_, x))) (mapped_set (fun x => ~~~ x) _ hi)
      · show Option.bind (bif _ then _ else _) _ = _
        rw [bif_decF (by omega), mapped_all]
        rfl
end Lv
