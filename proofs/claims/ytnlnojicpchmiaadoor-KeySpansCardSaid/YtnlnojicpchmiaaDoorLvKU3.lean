/- Part of the proof of a law: a walk of the given functions. -/
import Derived.Test.YtnlnojicpchmiaaDoorLvKU2
namespace Lv
open Go Go.Proofs
set_option linter.unusedVariables false
set_option linter.unusedSimpArgs false
set_option maxRecDepth 100000
attribute [local go_sem] opds acall valsOf AV.val D.val mkAgg allD stepO wants aop opd afieldAddr fo0 fo1 fo2 ts9 ta9 ts4 ta4 ts38 ta38 aload ofCells ofVal ofCval AV.cells D.cells putA List.getElem?_cons_zero List.getElem?_cons_succ List.set_cons_zero List.set_cons_succ List.map_cons List.map_nil List.drop_zero List.drop_succ_cons List.take_succ_cons List.take_zero List.length_cons List.length_nil if_true if_false List.nil_append bTT bFT bTF bFF bin_str_leq bin_str_lss bin_str_eql Option.bind_some List.getElem?_toArray Bool.false_eq_true reduceIte Bool.or_true Bool.true_or Bool.or_false Bool.false_or Bool.and_true Bool.true_and Bool.and_false Bool.false_and
attribute [local go_sem] ts5 ta5 un51 un5 un9 un3 aconvert alen bin_i64_gtr bin_i64_sub bin_i64_eql bin_u8_eql bin_u8_add bin_str_neq bin_str_gtr not_bool partsOf
theorem zo38 : zeroOf Tryd.prog 38 = some (.agg [.str ⟨#[]⟩, .str ⟨#[]⟩, .bool false]) := by kernel_rfl
theorem ab38 (a b : ByteArray) (c : Bool) : abuild Tryd.prog 38 [(0, .d (.str a)), (1, .d (.str b)), (2, .d (.bool c))] = some (.d (.agg [.str a, .str b, .bool c])) := by rfl
def underD (s : ByteArray) : D := .agg [.str s, .str (afterF s).1, .bool (!(afterF s).2)]
theorem key_Under (s : ByteArray) (hs : s.size ≤ 4611686018427387904) : EvTo Tryd.prog p0 K0 17 [.d (.str s)] [] (fun r σ => r = .d (underD s) ∧ σ = []) := by
  refine EvTo.enter rfl Tryd.func17 rfl ?_
  simp only [List.cons_append, List.nil_append, List.length_cons, List.length_nil, Tryd.ntmps17, List.replicate]
  refine WC.seq (WC.region ?_)
  repeat
    apply WO.one
    case h =>
      intro call
      simp only [go_sem, zo38]
      try rfl
  refine WO.nil ?_
  simp only [thenW]
  refine WC.seq (WC.region ?_)
  repeat
    apply WO.one
    case h =>
      intro call
      simp only [go_sem]
      try rfl
  refine WO.call0 (by simp only [go_sem]) rfl (hev := key_After s hs) (hargs := by simp only [go_sem]) rfl rfl (by kernel_rfl) rfl (fun _ => rfl) (fun _ => rfl) ?_
  repeat
    apply WO.one
    case h =>
      intro call
      simp only [go_sem]
      try rfl
  refine WO.nil ?_
  simp only [thenW]
  refine WC.seq (WC.region ?_)
  repeat
    apply WO.one
    case h =>
      intro call
      simp only [go_sem, ab38]
      try rfl
  refine WO.nil ?_
  simp only [thenW]
  refine WC.ret ?_
  exact end_ret (vs := [.d (underD s)]) rfl rfl (fun _ => rfl) ⟨rfl, rfl⟩

theorem awake_runs : callF Tryd.prog p0 K0 60 9 [] [] = some (.d (.bool true), []) := by kernel_rfl
theorem law_awake : EvTo Tryd.prog p0 K0 9 [] [] (fun r σ => r = .d (.bool true) ∧ σ = []) := by
  unfold EvTo
  exact ⟨_, _, ⟨60, awake_runs⟩, rfl, rfl⟩
end Lv
