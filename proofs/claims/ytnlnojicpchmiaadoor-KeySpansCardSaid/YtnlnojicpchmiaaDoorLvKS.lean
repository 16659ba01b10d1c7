/- Part of the proof of a law: a walk of the given functions. -/
import Derived.Test.YtnlnojicpchmiaaDoorLvKU3
import Derived.Test.YtnlnojicpchmiaaDoorLvPre
import Derived.Test.YtnlnojicpchmiaaDoorLvStr
namespace Lv
open Go Go.Proofs
set_option linter.unusedVariables false
set_option linter.unusedSimpArgs false
set_option maxRecDepth 100000
set_option maxHeartbeats 4000000
attribute [local go_sem] opds acall valsOf AV.val D.val mkAgg allD stepO wants aop opd afieldAddr fo0 fo1 fo2 ts9 ta9 ts4 ta4 ts38 ta38 aload ofCells ofVal ofCval AV.cells D.cells putA List.getElem?_cons_zero List.getElem?_cons_succ List.set_cons_zero List.set_cons_succ List.map_cons List.map_nil List.drop_zero List.drop_succ_cons List.take_succ_cons List.take_zero List.length_cons List.length_nil if_true if_false List.nil_append bTT bFT bTF bFF bin_str_leq bin_str_lss bin_str_eql Option.bind_some List.getElem?_toArray Bool.false_eq_true reduceIte Bool.or_true Bool.true_or Bool.or_false Bool.false_or Bool.and_true Bool.true_and Bool.and_false Bool.false_and
attribute [local go_sem] ts5 ta5 un51 un5 un9 un3 aconvert alen bin_i64_gtr bin_i64_sub bin_i64_eql bin_u8_eql bin_u8_add bin_str_neq bin_str_gtr not_bool partsOf List.cons_append Nat.zero_add
attribute [local go_sem] bin_str_geq bin_i64_geq bin_i64_add bin_u8_lss optOf D.cval
theorem geq_leq (a b : List UInt8) : (!Op.bytesLess a b) = (Op.bytesLess b a || b == a) := by
  have tri : ∀ a b : List UInt8, Op.bytesLess a b = true ∨ (b == a) = true ∨ Op.bytesLess b a = true := by
    intro a
    induction a with
    | nil => intro b; cases b <;> simp [Op.bytesLess]
    | cons x a ih =>
      intro b
      cases b with
      | nil => simp [Op.bytesLess]
      | cons y b =>
        have h3 : x < y ∨ x = y ∨ y < x := by
          simp only [UInt8.lt_iff_toNat_lt, ← UInt8.toNat_inj]
          omega
        rcases h3 with h | h | h
        · simp [Op.bytesLess, h]
        · subst h
          rcases ih b with h | h | h
          · simp [Op.bytesLess, h]
          · right; left; simpa using h
          · simp [Op.bytesLess, h]
        · simp [Op.bytesLess, h]
  cases h : Op.bytesLess a b with
  | true =>
    rw [ltL_asymm h]
    have : (b == a) = false := by
      rw [beq_eq_false_iff_ne]
      intro e
      subst e
      rw [ltL_irrefl] at h
      cases h
    rw [this]
    rfl
  | false =>
    rcases tri a b with k | k | k
    · rw [h] at k; cases k
    · rw [k]; simp
    · rw [k]; rfl
theorem ref_In (lo hi k : ByteArray) (op : Bool) : EvTo Tryd.prog p0 K0 20 [.d (.agg [.str lo, .str hi, .bool op]), .d (.str k)] [] (fun r σ => r = (.d (.bool (inF lo hi op k))) ∧ σ = []) := by
  unfold inF
  rw [← geq_leq]
  refine EvTo.enter rfl Tryd.func20 rfl ?_
  simp only [List.cons_append, List.nil_append, List.length_cons, List.length_nil, Tryd.ntmps20, List.replicate]
  refine WC.seq (WC.region ?_)
  repeat
    first
      | (apply WO.one
         case h =>
           intro call
           simp only [go_sem]
           try rfl)
  refine WO.nil ?_
  simp only [thenW]
  cases h1 : (!Op.bytesLess k.toList lo.toList) <;> cases op
  all_goals
    refine WC.seq (WC.region ?_)
    repeat
      first
        | (apply WO.one
           case h =>
             intro call
             simp only [go_sem, h1]
             try rfl)
    refine WO.nil ?_
    simp only [thenW]
    refine WC.ret ?_
    refine end_ret (vs := [_]) rfl rfl (fun _ => rfl) ⟨?_, rfl⟩
    simp only [go_sem, oneOr]
    try rfl

theorem maxB_gtr (a b : ByteArray) : maxB a b = if (!(Op.bytesLess b.toList a.toList || b.toList == a.toList)) = true then b else a := by
  unfold maxB
  rw [← geq_leq]
  cases h : Op.bytesLess a.toList b.toList <;> simp

theorem ref_Meet (alo ahi blo bhi : ByteArray) (aop bop : Bool) : EvTo Tryd.prog p0 K0 22 [.d (.agg [.str alo, .str ahi, .bool aop]), .d (.agg [.str blo, .str bhi, .bool bop])] [] (fun r σ => r = (.d (.bool (meetF alo ahi aop blo bhi bop))) ∧ σ = []) := by
  unfold meetF
  refine EvTo.enter rfl Tryd.func22 rfl ?_
  simp only [List.cons_append, List.nil_append, List.length_cons, List.length_nil, Tryd.ntmps22, List.replicate]
  refine WC.seq (WC.region ?_)
  repeat
    first
      | (apply WO.one
         case h =>
           intro call
           simp only [go_sem]
           try rfl)
  refine WO.nil ?_
  simp only [thenW, List.cons_append, List.nil_append]
  refine WC.seq (WC.region ?_)
  repeat
    first
      | (apply WO.one
         case h =>
           intro call
           simp only [go_sem]
           try rfl)
  refine WO.nil ?_
  simp only [thenW]
  refine WC.seq (WC.seq (WC.region ?_))
  have hm := maxB_gtr alo blo
  cases h0 : (!(Op.bytesLess blo.toList alo.toList || blo.toList == alo.toList))
  all_goals
    rw [h0] at hm
    simp only [if_true, Bool.false_eq_true, if_false] at hm
    rw [hm]
    repeat
      first
        | (apply WO.one
           case h =>
             intro call
             simp only [go_sem, h0]
             try rfl)
    refine WO.nil ?_
    simp only [thenW]
  · refine WC.condF rfl ?_
    refine WC.skip ?_
    simp only [thenW]
    refine WC.seq (WC.region ?_)
    cases h1 : inF alo ahi aop alo
    all_goals
      repeat
        first
          | (apply WO.one
             case h =>
               intro call
               simp only [go_sem, h1]
               try rfl)
          | (refine WO.call0 (hw := ?hw) rfl (hev := ref_In alo ahi alo aop) (hargs := ?ha) rfl rfl (by kernel_rfl) rfl (fun _ => rfl) (fun _ => rfl) ?_
             case ha =>
               simp only [go_sem, h1]
               try rfl
             case hw =>
               simp only [go_sem, h1]
               try rfl)
          | (refine WO.call0 (hw := ?hw) rfl (hev := ref_In blo bhi alo bop) (hargs := ?ha) rfl rfl (by kernel_rfl) rfl (fun _ => rfl) (fun _ => rfl) ?_
             case ha =>
               simp only [go_sem, h1]
               try rfl
             case hw =>
               simp only [go_sem, h1]
               try rfl)
      refine WO.nil ?_
      simp only [thenW]
      refine WC.ret ?_
      refine end_ret (vs := [_]) rfl rfl (fun _ => rfl) ⟨?_, rfl⟩
      simp only [go_sem, oneOr]
      try rfl
  · refine WC.condT rfl ?_
    refine WC.region ?_
    repeat
      first
        | (apply WO.one
           case h =>
             intro call
             simp only [go_sem]
             try rfl)
    refine WO.nil ?_
    simp only [thenW]
    refine WC.seq (WC.region ?_)
    cases h1 : inF alo ahi aop blo
    all_goals
      repeat
        first
          | (apply WO.one
             case h =>
               intro call
               simp only [go_sem, h1]
               try rfl)
          | (refine WO.call0 (hw := ?hw) rfl (hev := ref_In alo ahi blo aop) (hargs := ?ha) rfl rfl (by kernel_rfl) rfl (fun _ => rfl) (fun _ => rfl) ?_
             case ha =>
               simp only [go_sem, h1]
               try rfl
             case hw =>
               simp only [go_sem, h1]
               try rfl)
          | (refine WO.call0 (hw := ?hw) rfl (hev := ref_In blo bhi blo bop) (hargs := ?ha) rfl rfl (by kernel_rfl) rfl (fun _ => rfl) (fun _ => rfl) ?_
             case ha =>
               simp only [go_sem, h1]
               try rfl
             case hw =>
               simp only [go_sem, h1]
               try rfl)
      refine WO.nil ?_
      simp only [thenW]
      refine WC.ret ?_
      refine end_ret (vs := [_]) rfl rfl (fun _ => rfl) ⟨?_, rfl⟩
      simp only [go_sem, oneOr]
      try rfl
end Lv
