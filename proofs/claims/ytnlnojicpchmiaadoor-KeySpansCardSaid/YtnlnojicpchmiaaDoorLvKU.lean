/- Part of the proof of a law: a walk of the given functions. -/
import Derived.Test.YtnlnojicpchmiaaDoorLvBin
import Derived.Test.YtnlnojicpchmiaaDoorProg
import Derived.KernelRfl
namespace Lv
open Go Go.Proofs
set_option linter.unusedVariables false
set_option linter.unusedSimpArgs false
theorem ts9 : tsize Tryd.prog 9 = some 1 := by kernel_rfl
theorem ta9 : tagg Tryd.prog 9 = some false := by kernel_rfl
theorem ts4 : tsize Tryd.prog 4 = some 1 := by kernel_rfl
theorem ta4 : tagg Tryd.prog 4 = some false := by kernel_rfl
theorem ts38 : tsize Tryd.prog 38 = some 3 := by kernel_rfl
theorem ta38 : tagg Tryd.prog 38 = some true := by kernel_rfl
theorem fo0 : fieldOf Tryd.prog 38 0 = some { name := "Lo", type := 9, offset := 0, embedded := false, tag := "", pkgPath := "", byteOffset := 0 } := by kernel_rfl
theorem fo1 : fieldOf Tryd.prog 38 1 = some { name := "Hi", type := 9, offset := 1, embedded := false, tag := "", pkgPath := "", byteOffset := 16 } := by kernel_rfl
theorem fo2 : fieldOf Tryd.prog 38 2 = some { name := "Open", type := 4, offset := 2, embedded := false, tag := "", pkgPath := "", byteOffset := 32 } := by kernel_rfl
def K0 : FuncId → Keep
  | 15, 2 => some [4]
  | 16, 2 => some [0, 4]
  | _, _ => none
abbrev p0 : Prims := fun _ => none
theorem bTT : (true == true) = true := rfl
theorem bFT : (false == true) = false := rfl
theorem bTF : (true == false) = false := rfl
theorem bFF : (false == false) = true := rfl
set_option maxRecDepth 100000
attribute [local go_sem] opds acall valsOf AV.val D.val mkAgg allD stepO wants aop opd afieldAddr fo0 fo1 fo2 ts9 ta9 ts4 ta4 ts38 ta38 aload ofCells ofVal ofCval AV.cells D.cells putA List.getElem?_cons_zero List.getElem?_cons_succ List.set_cons_zero List.set_cons_succ List.map_cons List.map_nil List.drop_zero List.drop_succ_cons List.take_succ_cons List.take_zero List.length_cons List.length_nil if_true if_false List.nil_append bTT bFT bTF bFF bin_str_leq bin_str_lss bin_str_eql Option.bind_some List.getElem?_toArray Bool.false_eq_true reduceIte Bool.or_true Bool.true_or Bool.or_false Bool.false_or Bool.and_true Bool.true_and Bool.and_false Bool.false_and
/-- key.In -/
def inF (lo hi : ByteArray) (op : Bool) (k : ByteArray) : Bool := (Op.bytesLess lo.toList k.toList || lo.toList == k.toList) && (op || Op.bytesLess k.toList hi.toList)
theorem key_In (lo hi k : ByteArray) (op : Bool) : EvTo Tryd.prog p0 K0 19 [.d (.agg [.str lo, .str hi, .bool op]), .d (.str k)] [] (fun r σ => r = (.d (.bool (inF lo hi op k))) ∧ σ = []) := by
  unfold inF
  refine EvTo.enter rfl Tryd.func19 rfl ?_
  simp only [List.cons_append, List.nil_append, List.length_cons, List.length_nil, Tryd.ntmps19, List.replicate]
  refine WC.seq (WC.region ?_)
  repeat
    apply WO.one
    case h =>
      intro call
      simp only [go_sem]
      try rfl
  refine WO.nil ?_
  simp only [thenW]
  cases h1 : (Op.bytesLess lo.toList k.toList || lo.toList == k.toList) <;> cases op
  all_goals
    refine WC.seq (WC.region ?_)
    repeat
      apply WO.one
      case h =>
        intro call
        simp only [go_sem, h1]
        try rfl
    refine WO.nil ?_
    simp only [thenW]
    refine WC.ret ?_
    refine end_ret (vs := [_]) rfl rfl (fun _ => rfl) ⟨?_, rfl⟩
    simp only [go_sem, oneOr]
    try rfl

def meetF (alo ahi : ByteArray) (aop : Bool) (blo bhi : ByteArray) (bop : Bool) : Bool := inF alo ahi aop (maxB alo blo) && inF blo bhi bop (maxB alo blo)
theorem key_Meet (alo ahi blo bhi : ByteArray) (aop bop : Bool) : EvTo Tryd.prog p0 K0 21 [.d (.agg [.str alo, .str ahi, .bool aop]), .d (.agg [.str blo, .str bhi, .bool bop])] [] (fun r σ => r = (.d (.bool (meetF alo ahi aop blo bhi bop))) ∧ σ = []) := by
  unfold meetF
  refine EvTo.enter rfl Tryd.func21 rfl ?_
  simp only [List.cons_append, List.nil_append, List.length_cons, List.length_nil, Tryd.ntmps21, List.replicate]
  refine WC.seq (WC.region ?_)
  repeat
    apply WO.one
    case h =>
      intro call
      simp only [go_sem]
      try rfl
  refine WO.nil ?_
  simp only [thenW]
  refine WC.seq (WC.region ?_)
  repeat
    apply WO.one
    case h =>
      intro call
      simp only [go_sem]
      try rfl
  refine WO.nil ?_
  simp only [thenW]
  refine WC.seq (WC.region ?_)
  repeat
    apply WO.one
    case h =>
      intro call
      simp only [go_sem]
      try rfl
  cases h1 : inF alo ahi aop (maxB alo blo)
  all_goals
    refine WO.call0 (by simp only [go_sem]) rfl (hev := key_In alo ahi (maxB alo blo) aop) (hargs := by simp only [go_sem]; rfl) rfl rfl (by kernel_rfl) rfl (fun _ => rfl) (fun _ => rfl) ?_
    repeat
      apply WO.one
      case h =>
        intro call
        simp only [go_sem, h1]
        try rfl
  · refine WO.nil ?_
    simp only [thenW]
    refine WC.ret ?_
    refine end_ret (vs := [_]) rfl rfl (fun _ => rfl) ⟨?_, rfl⟩
    simp only [go_sem, oneOr]
  · refine WO.call0 (by simp only [go_sem, h1]) rfl (hev := key_In blo bhi (maxB alo blo) bop) (hargs := by simp only [go_sem]; rfl) rfl rfl (by kernel_rfl) rfl (fun _ => rfl) (fun _ => rfl) ?_
    repeat
      apply WO.one
      case h =>
        intro call
        simp only [go_sem, h1]
        try rfl
    refine WO.nil ?_
    simp only [thenW]
    refine WC.ret ?_
    refine end_ret (vs := [_]) rfl rfl (fun _ => rfl) ⟨?_, rfl⟩
    simp only [go_sem, oneOr]
end Lv
