/- Part of the proof of a law: a walk of the given functions. -/
import Derived.Test.YtnlnojicpchmiaaDoorLvKU3
import Derived.Test.YtnlnojicpchmiaaDoorLvPre
namespace Lv
open Go Go.Proofs
set_option linter.unusedVariables false
set_option linter.unusedSimpArgs false
set_option maxRecDepth 100000
set_option maxHeartbeats 4000000
attribute [local go_sem] opds acall valsOf AV.val D.val mkAgg allD stepO wants aop opd afieldAddr fo0 fo1 fo2 ts9 ta9 ts4 ta4 ts38 ta38 aload ofCells ofVal ofCval AV.cells D.cells putA List.getElem?_cons_zero List.getElem?_cons_succ List.set_cons_zero List.set_cons_succ List.map_cons List.map_nil List.drop_zero List.drop_succ_cons List.take_succ_cons List.take_zero List.length_cons List.length_nil if_true if_false List.nil_append bTT bFT bTF bFF bin_str_leq bin_str_lss bin_str_eql Option.bind_some List.getElem?_toArray Bool.false_eq_true reduceIte Bool.or_true Bool.true_or Bool.or_false Bool.false_or Bool.and_true Bool.true_and Bool.and_false Bool.false_and
attribute [local go_sem] ts5 ta5 un51 un5 un9 un3 aconvert alen bin_i64_gtr bin_i64_sub bin_i64_eql bin_u8_eql bin_u8_add bin_str_neq bin_str_gtr not_bool partsOf List.cons_append Nat.zero_add
theorem n38 (a b a' b' : ByteArray) (c c' : Bool) : mkAgg (over (AV.cells (.d (.agg [.str a, .str b, .bool c]))) 0 (AV.cells (.d (.agg [.str a', .str b', .bool c'])))) = .d (.agg [.str a', .str b', .bool c']) := rfl
def spanD (s : ByteArray) (b : ByteArray) (c : Bool) : AV := .d (.agg [.str s, .str b, .bool c])
theorem law_KeyUnder (s t k : ByteArray) (hs : s.size ≤ 140737488351232) (ht : t.size ≤ 140737488351232) : EvTo Tryd.prog p0 K0 7 [.d (.str s), .d (.str t), .d (.str k)] [] (fun r _ => r = .d (.bool true)) := by
  have hsz : (s ++ t).size ≤ 4611686018427387904 := by rw [ByteArray.size_append]; omega
  have hadd : ∀ x y, abinOp Tryd.prog .add 9 x y (.d (.str s)) (.d (.str t)) = some (.d (.str (s ++ t))) := fun x y => bin_str_add 9 x y s t (by omega)
  refine EvTo.enter rfl Tryd.func7 rfl ?_
  simp only [List.cons_append, List.nil_append, List.length_cons, List.length_nil, Tryd.ntmps7, List.replicate]
  refine WC.seq (WC.region ?_)
  repeat
    first
      | (apply WO.one
         case h =>
           intro call
           simp only [go_sem]
           try rfl)
  refine WO.nil ?_
  simp only [thenW, underD, List.set_cons_zero, List.set_cons_succ, List.cons_append, List.nil_append, n38]
  refine WC.seq (WC.seq (WC.region ?_))
  repeat
    first
      | (apply WO.one
         case h =>
           intro call
           simp only [go_sem]
           try rfl)
      | (refine WO.call0 (hw := ?hw) rfl (hev := law_awake) (hargs := ?ha) rfl rfl (by kernel_rfl) rfl (fun _ => rfl) (fun _ => rfl) ?_
         case ha =>
           simp only [go_sem]
           try rfl
         case hw =>
           simp only [go_sem]
           try rfl)
  refine WO.nil ?_
  simp only [thenW, underD, List.set_cons_zero, List.set_cons_succ, List.cons_append, List.nil_append, n38]
  refine WC.condF rfl ?_
  refine WC.skip ?_
  simp only [thenW]
  refine WC.seq (WC.region ?_)
  repeat
    first
      | (apply WO.one
         case h =>
           intro call
           simp only [go_sem, zo38]
           try rfl)
      | (refine WO.call0 (hw := ?hw) rfl (hev := key_Under s (by omega)) (hargs := ?ha) rfl rfl (by kernel_rfl) rfl (fun _ => rfl) (fun _ => rfl) ?_
         case ha =>
           simp only [go_sem, zo38]
           try rfl
         case hw =>
           simp only [go_sem, zo38]
           try rfl)
  refine WO.nil ?_
  simp only [thenW, underD, List.set_cons_zero, List.set_cons_succ, List.cons_append, List.nil_append, n38]
  refine WC.seq (WC.region ?_)
  repeat
    first
      | (apply WO.one
         case h =>
           intro call
           simp only [go_sem, zo38]
           try rfl)
      | (refine WO.call0 (hw := ?hw) rfl (hev := key_Under t (by omega)) (hargs := ?ha) rfl rfl (by kernel_rfl) rfl (fun _ => rfl) (fun _ => rfl) ?_
         case ha =>
           simp only [go_sem, zo38]
           try rfl
         case hw =>
           simp only [go_sem, zo38]
           try rfl)
  refine WO.nil ?_
  simp only [thenW, underD, List.set_cons_zero, List.set_cons_succ, List.cons_append, List.nil_append, n38]
  refine WC.seq (WC.region ?_)
  repeat
    first
      | (apply WO.one
         case h =>
           intro call
           simp only [go_sem, zo38, hadd]
           try rfl)
      | (refine WO.call0 (hw := ?hw) rfl (hev := key_Under (s ++ t) hsz) (hargs := ?ha) rfl rfl (by kernel_rfl) rfl (fun _ => rfl) (fun _ => rfl) ?_
         case ha =>
           simp only [go_sem, zo38, hadd]
           try rfl
         case hw =>
           simp only [go_sem, zo38, hadd]
           try rfl)
  refine WO.nil ?_
  simp only [thenW, underD, List.set_cons_zero, List.set_cons_succ, List.cons_append, List.nil_append, n38]
  have hD : (true == true) = true := rfl
  have cases6 : (((s.size : Int) == (t.size : Int)) = false ∧ (true == true) = true ∧ (true == true) = true) ∨ (((s.size : Int) == (t.size : Int)) = true ∧ (s.toList == t.toList) = true ∧ (true == true) = true) ∨ (((s.size : Int) == (t.size : Int)) = true ∧ (s.toList == t.toList) = false ∧ meetF s (afterF s).1 (!(afterF s).2) t (afterF t).1 (!(afterF t).2) = false) := by
    cases h1 : ((s.size : Int) == (t.size : Int)) with
    | false => exact .inl ⟨rfl, rfl, rfl⟩
    | true =>
      cases h2 : (s.toList == t.toList) with
      | true => exact .inr (.inl ⟨rfl, rfl, rfl⟩)
      | false => exact .inr (.inr ⟨rfl, rfl, meetU_same (by have := beq_iff_eq.1 h1; omega) h2⟩)
  have hac : meetF s (afterF s).1 (!(afterF s).2) (s ++ t) (afterF (s ++ t)).1 (!(afterF (s ++ t)).2) = true := (meetU_prefix (prefix_append' s t)).1
  have haa : meetF s (afterF s).1 (!(afterF s).2) s (afterF s).1 (!(afterF s).2) = true := (meetU_prefix (List.prefix_refl _)).1
  have cases8 : (inF (s ++ t) (afterF (s ++ t)).1 (!(afterF (s ++ t)).2) k = false ∧ inF s (afterF s).1 (!(afterF s).2) k = false ∧ (true == true) = true ∧ (true == true) = true) ∨
      (inF s (afterF s).1 (!(afterF s).2) k = true ∧ ((inF (s ++ t) (afterF (s ++ t)).1 (!(afterF (s ++ t)).2) k = true ∨ inF (s ++ t) (afterF (s ++ t)).1 (!(afterF (s ++ t)).2) k = false) ∧ ((inF t (afterF t).1 (!(afterF t).2) k = false ∧ (true == true) = true) ∨ (inF t (afterF t).1 (!(afterF t).2) k = true ∧ meetF s (afterF s).1 (!(afterF s).2) t (afterF t).1 (!(afterF t).2) = true)))) := by
    cases h1 : inF s (afterF s).1 (!(afterF s).2) k with
    | false =>
      cases h2 : inF (s ++ t) (afterF (s ++ t)).1 (!(afterF (s ++ t)).2) k with
      | false => exact .inl ⟨rfl, rfl, rfl, rfl⟩
      | true =>
        have := (inU_iff s k).2 (List.IsPrefix.trans (prefix_append' s t) ((inU_iff (s ++ t) k).1 h2))
        unfold inU at this
        rw [h1] at this
        cases this
    | true =>
      refine .inr ⟨rfl, by cases inF (s ++ t) (afterF (s ++ t)).1 (!(afterF (s ++ t)).2) k <;> simp, ?_⟩
      cases h2 : inF t (afterF t).1 (!(afterF t).2) k with
      | false => exact .inl ⟨rfl, rfl⟩
      | true => exact .inr ⟨rfl, meetU_both h1 h2⟩
  refine WC.seq (WC.seq (WC.region ?_))
  rcases cases6 with ⟨hL, hE, hM⟩ | ⟨hL, hE, hM⟩ | ⟨hL, hE, hM⟩
  all_goals
    repeat
      first
        | (apply WO.one
           case h =>
             intro call
             simp only [go_sem, hL, hE, hM, hac, haa]
             try rfl)
        | (refine WO.call0 (hw := ?hw) rfl (hev := key_Meet s (afterF s).1 t (afterF t).1 (!(afterF s).2) (!(afterF t).2)) (hargs := ?ha) rfl rfl (by kernel_rfl) rfl (fun _ => rfl) (fun _ => rfl) ?_
           case ha =>
             simp only [go_sem, hL, hE, hM, hac, haa]
             try rfl
           case hw =>
             simp only [go_sem, hL, hE, hM, hac, haa]
             try rfl)
        | (refine WO.call0 (hw := ?hw) rfl (hev := key_Meet s (afterF s).1 (s ++ t) (afterF (s ++ t)).1 (!(afterF s).2) (!(afterF (s ++ t)).2)) (hargs := ?ha) rfl rfl (by kernel_rfl) rfl (fun _ => rfl) (fun _ => rfl) ?_
           case ha =>
             simp only [go_sem, hL, hE, hM, hac, haa]
             try rfl
           case hw =>
             simp only [go_sem, hL, hE, hM, hac, haa]
             try rfl)
        | (refine WO.call0 (hw := ?hw) rfl (hev := key_Meet s (afterF s).1 s (afterF s).1 (!(afterF s).2) (!(afterF s).2)) (hargs := ?ha) rfl rfl (by kernel_rfl) rfl (fun _ => rfl) (fun _ => rfl) ?_
           case ha =>
             simp only [go_sem, hL, hE, hM, hac, haa]
             try rfl
           case hw =>
             simp only [go_sem, hL, hE, hM, hac, haa]
             try rfl)
    refine WO.nil ?_
    simp only [thenW, underD, List.set_cons_zero, List.set_cons_succ, List.cons_append, List.nil_append, n38]
    refine WC.condF rfl ?_
    refine WC.skip ?_
    simp only [thenW]
    refine WC.seq (WC.seq (WC.region ?_))
  all_goals rcases cases8 with ⟨hc, ha, hb, hM2⟩ | ⟨ha, (hc | hc), (⟨hb, hM2⟩ | ⟨hb, hM2⟩)⟩
  all_goals
    repeat
      first
        | (apply WO.one
           case h =>
             intro call
             simp only [go_sem, hc, ha, hb, hM2]
             try rfl)
        | (refine WO.call0 (hw := ?hw) rfl (hev := key_In (s ++ t) (afterF (s ++ t)).1 k (!(afterF (s ++ t)).2)) (hargs := ?ha) rfl rfl (by kernel_rfl) rfl (fun _ => rfl) (fun _ => rfl) ?_
           case ha =>
             simp only [go_sem, hc, ha, hb, hM2]
             try rfl
           case hw =>
             simp only [go_sem, hc, ha, hb, hM2]
             try rfl)
        | (refine WO.call0 (hw := ?hw) rfl (hev := key_In s (afterF s).1 k (!(afterF s).2)) (hargs := ?ha) rfl rfl (by kernel_rfl) rfl (fun _ => rfl) (fun _ => rfl) ?_
           case ha =>
             simp only [go_sem, hc, ha, hb, hM2]
             try rfl
           case hw =>
             simp only [go_sem, hc, ha, hb, hM2]
             try rfl)
        | (refine WO.call0 (hw := ?hw) rfl (hev := key_In t (afterF t).1 k (!(afterF t).2)) (hargs := ?ha) rfl rfl (by kernel_rfl) rfl (fun _ => rfl) (fun _ => rfl) ?_
           case ha =>
             simp only [go_sem, hc, ha, hb, hM2]
             try rfl
           case hw =>
             simp only [go_sem, hc, ha, hb, hM2]
             try rfl)
        | (refine WO.call0 (hw := ?hw) rfl (hev := key_Meet s (afterF s).1 t (afterF t).1 (!(afterF s).2) (!(afterF t).2)) (hargs := ?ha) rfl rfl (by kernel_rfl) rfl (fun _ => rfl) (fun _ => rfl) ?_
           case ha =>
             simp only [go_sem, hc, ha, hb, hM2]
             try rfl
           case hw =>
             simp only [go_sem, hc, ha, hb, hM2]
             try rfl)
    refine WO.nil ?_
    simp only [thenW, underD, List.set_cons_zero, List.set_cons_succ, List.cons_append, List.nil_append, n38]
    refine WC.condF rfl ?_
    refine WC.skip ?_
    simp only [thenW]
    refine WC.seq (WC.region ?_)
    repeat
      first
        | (apply WO.one
           case h =>
             intro call
             simp only [go_sem]
             try rfl)
        | (refine WO.call0 (hw := ?hw) rfl (hev := key_After s (by omega)) (hargs := ?ha) rfl rfl (by kernel_rfl) rfl (fun _ => rfl) (fun _ => rfl) ?_
           case ha =>
             simp only [go_sem]
             try rfl
           case hw =>
             simp only [go_sem]
             try rfl)
    refine WO.nil ?_
    simp only [thenW, underD, List.set_cons_zero, List.set_cons_succ, List.cons_append, List.nil_append, n38]
    refine WC.seq (WC.region ?_)
  all_goals rcases Bool.eq_false_or_eq_true (afterF s).2 with hok | hok
  all_goals try
    (obtain ⟨g1, g2⟩ := after_facts hok
     have g3 := ltL_asymm g1
     have g4 : ((afterF s).1.toList == s.toList) = false := by
       rw [beq_eq_false_iff_ne]
       intro q
       rw [q, ltL_irrefl] at g1
       cases g1
     have g5 : inF s (afterF s).1 (!true) (s ++ t) = true := by
       have := (inU_iff s (s ++ t)).2 (prefix_append' s t)
       unfold inU at this
       rw [hok] at this
       exact this
     unfold inU at g2
     rw [hok] at g2)
  all_goals first
    | (
      repeat
        first
          | (apply WO.one
             case h =>
               intro call
               simp only [go_sem, hok, g2, g3, g4, g5, hadd]
               try rfl)
          | (refine WO.call0 (hw := ?hw) rfl (hev := key_In s (afterF s).1 (afterF s).1 (!(afterF s).2)) (hargs := ?ha) rfl rfl (by kernel_rfl) rfl (fun _ => rfl) (fun _ => rfl) ?_
             case ha =>
               simp only [go_sem, hok, g2, g3, g4, g5, hadd]
               try rfl
             case hw =>
               simp only [go_sem, hok, g2, g3, g4, g5, hadd]
               try rfl)
          | (refine WO.call0 (hw := ?hw) rfl (hev := key_In s (afterF s).1 (s ++ t) (!(afterF s).2)) (hargs := ?ha) rfl rfl (by kernel_rfl) rfl (fun _ => rfl) (fun _ => rfl) ?_
             case ha =>
               simp only [go_sem, hok, g2, g3, g4, g5, hadd]
               try rfl
             case hw =>
               simp only [go_sem, hok, g2, g3, g4, g5, hadd]
               try rfl)
      refine WO.nil ?_
      simp only [thenW]
      refine WC.ret ?_
      exact end_ret (vs := [.d (.bool true)]) rfl rfl (fun _ => rfl) rfl)
    | (
      repeat
        first
          | (apply WO.one
             case h =>
               intro call
               simp only [go_sem, hok]
               try rfl)
      refine WO.nil ?_
      simp only [thenW]
      refine WC.ret ?_
      exact end_ret (vs := [.d (.bool true)]) rfl rfl (fun _ => rfl) rfl)
end Lv
