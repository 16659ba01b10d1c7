/- The law KeySpans, walked. -/
import Derived.Test.YtnlnojicpchmiaaDoorLvKS3
namespace Lv
open Go Go.Proofs
set_option linter.unusedVariables false
set_option linter.unusedSimpArgs false
set_option maxRecDepth 100000
set_option maxHeartbeats 8000000
attribute [local go_sem] opds acall valsOf AV.val D.val mkAgg allD stepO wants aop opd afieldAddr fo0 fo1 fo2 ts9 ta9 ts4 ta4 ts38 ta38 aload ofCells ofVal ofCval AV.cells D.cells putA List.getElem?_cons_zero List.getElem?_cons_succ List.set_cons_zero List.set_cons_succ List.map_cons List.map_nil List.drop_zero List.drop_succ_cons List.take_succ_cons List.take_zero List.length_cons List.length_nil if_true if_false List.nil_append bTT bFT bTF bFF bin_str_leq bin_str_lss bin_str_eql Option.bind_some List.getElem?_toArray Bool.false_eq_true reduceIte Bool.or_true Bool.true_or Bool.or_false Bool.false_or Bool.and_true Bool.true_and Bool.and_false Bool.false_and
attribute [local go_sem] ts5 ta5 un51 un5 un9 un3 aconvert alen bin_i64_gtr bin_i64_sub bin_i64_eql bin_u8_eql bin_u8_add bin_str_neq bin_str_gtr not_bool partsOf List.cons_append Nat.zero_add
attribute [local go_sem] bin_str_geq bin_i64_geq bin_i64_add bin_u8_lss optOf D.cval
attribute [local go_sem] bin_bool_neq sp_neq beq_self_eq_true Bool.not_true Bool.not_false
theorem n38' (a b a' b' : ByteArray) (c c' : Bool) : mkAgg (over (AV.cells (.d (.agg [.str a, .str b, .bool c]))) 0 (AV.cells (.d (.agg [.str a', .str b', .bool c'])))) = .d (.agg [.str a', .str b', .bool c']) := rfl
theorem law_KeySpans (alo ahi blo bhi s k : ByteArray) (aop bop : Bool) (hs : s.size ≤ 140737488351232) (hk : k.size ≤ 140737488351232) : EvTo Tryd.prog p0 K0 6 [.d (.agg [.str alo, .str ahi, .bool aop]), .d (.agg [.str blo, .str bhi, .bool bop]), .d (.str s), .d (.str k)] [] (fun r _ => r = .d (.bool true)) := by
  have hmm := meet_comm alo ahi aop blo bhi bop
  have hus : inF s (afterF s).1 (!(afterF s).2) s = true := (inU_iff s s).2 (List.prefix_refl _)
  refine EvTo.enter rfl Tryd.func6 rfl ?_
  simp only [List.cons_append, List.nil_append, List.length_cons, List.length_nil, Tryd.ntmps6, List.replicate]
  refine WC.seq (WC.region ?_)
  repeat
    first
      | (apply WO.one
         case h =>
           intro call
           simp only [go_sem]
           try rfl)
  refine WO.nil ?_
  simp only [thenW, underD, List.set_cons_zero, List.set_cons_succ, List.cons_append, List.nil_append, n38']
  refine WC.seq (WC.seq (WC.region ?_))
  repeat
    first
      | (apply WO.one
         case h =>
           intro call
           simp only [go_sem]
           try rfl)
      | (refine WO.call0 (hw := ?hw) rfl (hev := law_awake) (hargs := ?ha) rfl rfl (by kernel_rfl) rfl (fun _ => rfl) (fun _ => rfl) ?_
         case ha =>
           simp only [go_sem]
           try rfl
         case hw =>
           simp only [go_sem]
           try rfl)
  refine WO.nil ?_
  simp only [thenW, underD, List.set_cons_zero, List.set_cons_succ, List.cons_append, List.nil_append, n38']
  refine WC.condF rfl ?_
  refine WC.skip ?_
  simp only [thenW]
  refine WC.seq (WC.region ?_)
  repeat
    first
      | (apply WO.one
         case h =>
           intro call
           simp only [go_sem]
           try rfl)
      | (refine WO.call0 (hw := ?hw) rfl (hev := key_After s (by omega)) (hargs := ?ha) rfl rfl (by kernel_rfl) rfl (fun _ => rfl) (fun _ => rfl) ?_
         case ha =>
           simp only [go_sem]
           try rfl
         case hw =>
           simp only [go_sem]
           try rfl)
  refine WO.nil ?_
  simp only [thenW, underD, List.set_cons_zero, List.set_cons_succ, List.cons_append, List.nil_append, n38']
  refine WC.seq (WC.region ?_)
  repeat
    first
      | (apply WO.one
         case h =>
           intro call
           simp only [go_sem]
           try rfl)
      | (refine WO.call0 (hw := ?hw) rfl (hev := ref_After s (by omega)) (hargs := ?ha) rfl rfl (by kernel_rfl) rfl (fun _ => rfl) (fun _ => rfl) ?_
         case ha =>
           simp only [go_sem]
           try rfl
         case hw =>
           simp only [go_sem]
           try rfl)
  refine WO.nil ?_
  simp only [thenW, underD, List.set_cons_zero, List.set_cons_succ, List.cons_append, List.nil_append, n38']
  refine WC.seq (WC.region ?_)
  repeat
    first
      | (apply WO.one
         case h =>
           intro call
           simp only [go_sem, zo38]
           try rfl)
      | (refine WO.call0 (hw := ?hw) rfl (hev := key_Under s (by omega)) (hargs := ?ha) rfl rfl (by kernel_rfl) rfl (fun _ => rfl) (fun _ => rfl) ?_
         case ha =>
           simp only [go_sem, zo38]
           try rfl
         case hw =>
           simp only [go_sem, zo38]
           try rfl)
  refine WO.nil ?_
  simp only [thenW, underD, List.set_cons_zero, List.set_cons_succ, List.cons_append, List.nil_append, n38']
  refine WC.seq (WC.seq (WC.draws (by kernel_rfl) ?_))
  repeat
    first
      | (apply WT.one'
         case h =>
           intro call
           simp only [go_sem, stepT, hmm, underD]
           try rfl
         case hm =>
           first
             | (simp only [marked, touches, opd, List.getElem?_cons_zero, List.getElem?_cons_succ, Option.elim_some, Option.elim_none, AV.ids, idsL, List.length_cons, List.length_nil, Nat.zero_add, Nat.reduceAdd, Nat.reduceSub, Nat.sub_self, List.range'_zero, List.range'_succ, List.append_nil, List.nil_append, Bool.false_or, Bool.true_or, Nat.lt_irrefl, decide_false, Nat.reduceLT, decide_true]; rfl)
             | rfl)
      | (refine WT.call0 (hw := ?hw) rfl (hev := ref_Under s (by omega)) (hargs := ?ha) rfl rfl (by kernel_rfl) rfl (fun _ => rfl) (fun _ => rfl) ?_
         case ha =>
           simp only [go_sem, hmm, underD]
           try rfl
         case hw =>
           simp only [go_sem, hmm, underD]
           try rfl)
      | (refine WT.call0 (hw := ?hw) rfl (hev := key_In alo ahi k aop) (hargs := ?ha) rfl rfl (by kernel_rfl) rfl (fun _ => rfl) (fun _ => rfl) ?_
         case ha =>
           simp only [go_sem, hmm, underD]
           try rfl
         case hw =>
           simp only [go_sem, hmm, underD]
           try rfl)
      | (refine WT.call0 (hw := ?hw) rfl (hev := ref_In alo ahi k aop) (hargs := ?ha) rfl rfl (by kernel_rfl) rfl (fun _ => rfl) (fun _ => rfl) ?_
         case ha =>
           simp only [go_sem, hmm, underD]
           try rfl
         case hw =>
           simp only [go_sem, hmm, underD]
           try rfl)
      | (refine WT.call0 (hw := ?hw) rfl (hev := key_Meet alo ahi blo bhi aop bop) (hargs := ?ha) rfl rfl (by kernel_rfl) rfl (fun _ => rfl) (fun _ => rfl) ?_
         case ha =>
           simp only [go_sem, hmm, underD]
           try rfl
         case hw =>
           simp only [go_sem, hmm, underD]
           try rfl)
      | (refine WT.call0 (hw := ?hw) rfl (hev := ref_Meet alo ahi blo bhi aop bop) (hargs := ?ha) rfl rfl (by kernel_rfl) rfl (fun _ => rfl) (fun _ => rfl) ?_
         case ha =>
           simp only [go_sem, hmm, underD]
           try rfl
         case hw =>
           simp only [go_sem, hmm, underD]
           try rfl)
      | (refine WT.call0 (hw := ?hw) rfl (hev := key_Meet blo bhi alo ahi bop aop) (hargs := ?ha) rfl rfl (by kernel_rfl) rfl (fun _ => rfl) (fun _ => rfl) ?_
         case ha =>
           simp only [go_sem, hmm, underD]
           try rfl
         case hw =>
           simp only [go_sem, hmm, underD]
           try rfl)
  refine WT.nil ?_
  refine ⟨by kernel_rfl, ?_⟩
  simp only [thenW]
  refine WC.condF rfl ?_
  refine WC.skip ?_
  simp only [thenW]
  refine WC.seq (WC.region ?_)
  have hsl : ((k.size : Int) ≥ (s.size : Int)) → aslice Tryd.prog 9 (.d (.str k)) none (some (.d (.int .i64 s.size))) none = some (.d (.str (k.extract 0 s.size))) := fun h => slice_str_hi un9 k .i64 s.size (by omega)
  have hsl' : decide ((k.size : Int) ≥ (s.size : Int)) = true → aslice Tryd.prog 9 (.d (.str k)) none (some (.d (.int .i64 s.size))) none = some (.d (.str (k.extract 0 s.size))) := fun h => hsl (by simpa using h)
  have cases8 : (decide ((k.size : Int) ≥ (s.size : Int)) = false ∧ inF s (afterF s).1 (!(afterF s).2) k = false ∧ (true == true) = true) ∨
      (decide ((k.size : Int) ≥ (s.size : Int)) = true ∧ inF s (afterF s).1 (!(afterF s).2) k = ((k.extract 0 s.size).toList == s.toList) ∧ aslice Tryd.prog 9 (.d (.str k)) none (some (.d (.int .i64 s.size))) none = some (.d (.str (k.extract 0 s.size)))) := by
    cases h : decide ((k.size : Int) ≥ (s.size : Int)) with
    | false =>
      refine .inl ⟨rfl, ?_, rfl⟩
      have h' : ¬ ((k.size : Int) ≥ (s.size : Int)) := by simpa using h
      rw [Bool.eq_false_iff]
      intro q
      have p := ((inU_iff s k).1 q).length_le
      have e1 : s.data.toList.length = s.size := rfl
      have e2 : k.data.toList.length = k.size := rfl
      omega
    | true =>
      have h' : (k.size : Int) ≥ (s.size : Int) := by simpa using h
      refine .inr ⟨rfl, ?_, hsl' h⟩
      have e0 : (k.extract 0 s.size).toList = k.data.toList.take s.data.toList.length := by
        rw [ByteArray.toList_eq, ByteArray.data_extract, Array.toList_extract, List.extract_eq_take_drop]
        rfl
      have hb : inF s (afterF s).1 (!(afterF s).2) k = true ↔ ((k.extract 0 s.size).toList == s.toList) = true := by
        rw [e0, beq_iff_eq, ByteArray.toList_eq]
        rw [show (inF s (afterF s).1 (!(afterF s).2) k = true) = (inU s k = true) from rfl, inU_iff, List.prefix_iff_eq_take]
        exact eq_comm
      exact Bool.eq_iff_iff.2 hb
  have cases11 : (inF alo ahi aop k = false ∧ (true == true) = true ∧ (true == true) = true) ∨ (inF alo ahi aop k = true ∧ inF blo bhi bop k = false ∧ (true == true) = true) ∨ (inF alo ahi aop k = true ∧ inF blo bhi bop k = true ∧ meetF alo ahi aop blo bhi bop = true) := by
    cases h1 : inF alo ahi aop k with
    | false => exact .inl ⟨rfl, rfl, rfl⟩
    | true =>
      cases h2 : inF blo bhi bop k with
      | false => exact .inr (.inl ⟨rfl, rfl, rfl⟩)
      | true => exact .inr (.inr ⟨rfl, rfl, meet_of_in h1 h2⟩)
  have cases13 : (meetF alo ahi aop blo bhi bop = false ∧ (true == true) = true ∧ (true == true) = true) ∨ (meetF alo ahi aop blo bhi bop = true ∧ inF alo ahi aop alo = true ∧ inF blo bhi bop blo = true) := by
    cases h1 : meetF alo ahi aop blo bhi bop with
    | false => exact .inl ⟨rfl, rfl, rfl⟩
    | true => exact .inr ⟨rfl, (in_of_meet h1).1, (in_of_meet h1).2⟩
  rcases cases8 with ⟨h1, h2, h3⟩ | ⟨h1, h2, h3⟩
  all_goals
    repeat
      first
        | (apply WO.one
           case h =>
             intro call
             simp only [go_sem, h1, h3, optOf]
             try rfl)
    refine WO.nil ?_
    simp only [thenW, underD, List.set_cons_zero, List.set_cons_succ, List.cons_append, List.nil_append, n38']
    refine WC.seq (WC.seq (WC.region ?_))
    repeat
      first
        | (apply WO.one
           case h =>
             intro call
             simp only [go_sem, h2, hus, underD]
             try rfl)
        | (refine WO.call0 (hw := ?hw) rfl (hev := key_In s (afterF s).1 k (!(afterF s).2)) (hargs := ?ha) rfl rfl (by kernel_rfl) rfl (fun _ => rfl) (fun _ => rfl) ?_
           case ha =>
             simp only [go_sem, h2, hus, underD]
             try rfl
           case hw =>
             simp only [go_sem, h2, hus, underD]
             try rfl)
        | (refine WO.call0 (hw := ?hw) rfl (hev := key_In s (afterF s).1 s (!(afterF s).2)) (hargs := ?ha) rfl rfl (by kernel_rfl) rfl (fun _ => rfl) (fun _ => rfl) ?_
           case ha =>
             simp only [go_sem, h2, hus, underD]
             try rfl
           case hw =>
             simp only [go_sem, h2, hus, underD]
             try rfl)
    refine WO.nil ?_
    simp only [thenW, underD, List.set_cons_zero, List.set_cons_succ, List.cons_append, List.nil_append, n38']
    refine WC.condF rfl ?_
    refine WC.skip ?_
    simp only [thenW]
    refine WC.seq (WC.seq (WC.region ?_))
  all_goals rcases cases11 with ⟨g1, g2, g3⟩ | ⟨g1, g2, g3⟩ | ⟨g1, g2, g3⟩
  all_goals
    repeat
      first
        | (apply WO.one
           case h =>
             intro call
             simp only [go_sem, g1, g2, g3]
             try rfl)
        | (refine WO.call0 (hw := ?hw) rfl (hev := key_In alo ahi k aop) (hargs := ?ha) rfl rfl (by kernel_rfl) rfl (fun _ => rfl) (fun _ => rfl) ?_
           case ha =>
             simp only [go_sem, g1, g2, g3]
             try rfl
           case hw =>
             simp only [go_sem, g1, g2, g3]
             try rfl)
        | (refine WO.call0 (hw := ?hw) rfl (hev := key_In blo bhi k bop) (hargs := ?ha) rfl rfl (by kernel_rfl) rfl (fun _ => rfl) (fun _ => rfl) ?_
           case ha =>
             simp only [go_sem, g1, g2, g3]
             try rfl
           case hw =>
             simp only [go_sem, g1, g2, g3]
             try rfl)
        | (refine WO.call0 (hw := ?hw) rfl (hev := key_Meet alo ahi blo bhi aop bop) (hargs := ?ha) rfl rfl (by kernel_rfl) rfl (fun _ => rfl) (fun _ => rfl) ?_
           case ha =>
             simp only [go_sem, g1, g2, g3]
             try rfl
           case hw =>
             simp only [go_sem, g1, g2, g3]
             try rfl)
    refine WO.nil ?_
    simp only [thenW, underD, List.set_cons_zero, List.set_cons_succ, List.cons_append, List.nil_append, n38']
    refine WC.condF rfl ?_
    refine WC.skip ?_
    simp only [thenW]
    refine WC.seq (WC.region ?_)
  all_goals clear g1 g2 g3
  all_goals rcases cases13 with ⟨g1, g2, g3⟩ | ⟨g1, g2, g3⟩
  all_goals
    repeat
      first
        | (apply WO.one
           case h =>
             intro call
             simp only [go_sem, g1, g2, g3]
             try rfl)
        | (refine WO.call0 (hw := ?hw) rfl (hev := key_In alo ahi alo aop) (hargs := ?ha) rfl rfl (by kernel_rfl) rfl (fun _ => rfl) (fun _ => rfl) ?_
           case ha =>
             simp only [go_sem, g1, g2, g3]
             try rfl
           case hw =>
             simp only [go_sem, g1, g2, g3]
             try rfl)
        | (refine WO.call0 (hw := ?hw) rfl (hev := key_In blo bhi blo bop) (hargs := ?ha) rfl rfl (by kernel_rfl) rfl (fun _ => rfl) (fun _ => rfl) ?_
           case ha =>
             simp only [go_sem, g1, g2, g3]
             try rfl
           case hw =>
             simp only [go_sem, g1, g2, g3]
             try rfl)
        | (refine WO.call0 (hw := ?hw) rfl (hev := key_Meet alo ahi blo bhi aop bop) (hargs := ?ha) rfl rfl (by kernel_rfl) rfl (fun _ => rfl) (fun _ => rfl) ?_
           case ha =>
             simp only [go_sem, g1, g2, g3]
             try rfl
           case hw =>
             simp only [go_sem, g1, g2, g3]
             try rfl)
    refine WO.nil ?_
    simp only [thenW]
    refine WC.ret ?_
    exact end_ret (vs := [.d (.bool true)]) rfl rfl (fun _ => rfl) rfl
end Lv
