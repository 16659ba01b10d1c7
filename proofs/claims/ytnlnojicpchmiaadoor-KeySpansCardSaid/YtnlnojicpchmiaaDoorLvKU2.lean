/- Part of the proof of a law: a walk of the given functions. -/
import Derived.Test.YtnlnojicpchmiaaDoorLvKU
namespace Lv
open Go Go.Proofs
set_option linter.unusedVariables false
set_option linter.unusedSimpArgs false
set_option maxRecDepth 100000
theorem ts5 : tsize Tryd.prog 5 = some 1 := by kernel_rfl
theorem ta5 : tagg Tryd.prog 5 = some false := by kernel_rfl
theorem un51 : Tryd.prog.underlying 51 = some (.slice 5) := by kernel_rfl
theorem un5 : Tryd.prog.underlying 5 = some (.int .u8) := by kernel_rfl
theorem un9 : Tryd.prog.underlying 9 = some .string := by kernel_rfl
theorem un3 : Tryd.prog.underlying 3 = some (.int .i64) := by kernel_rfl
attribute [local go_sem] opds acall valsOf AV.val D.val mkAgg allD stepO wants aop opd afieldAddr fo0 fo1 fo2 ts9 ta9 ts4 ta4 ts38 ta38 aload ofCells ofVal ofCval AV.cells D.cells putA List.getElem?_cons_zero List.getElem?_cons_succ List.set_cons_zero List.set_cons_succ List.map_cons List.map_nil List.drop_zero List.drop_succ_cons List.take_succ_cons List.take_zero List.length_cons List.length_nil if_true if_false List.nil_append bTT bFT bTF bFF bin_str_leq bin_str_lss bin_str_eql Option.bind_some List.getElem?_toArray Bool.false_eq_true reduceIte Bool.or_true Bool.true_or Bool.or_false Bool.false_or Bool.and_true Bool.true_and Bool.and_false Bool.false_and
attribute [local go_sem] ts5 ta5 un51 un5 un9 un3 aconvert alen bin_i64_gtr bin_i64_sub bin_i64_eql bin_u8_eql bin_u8_add
/-- How much stays of the first n bytes when bytes 255 at the end are taken away. -/
def trimN (s : ByteArray) : Nat → Nat
  | 0 => 0
  | n + 1 => if s.data[n]? = some 255 then trimN s n else n + 1

def E15 (n : Nat) : List AV := [.undef, .undef, .undef, .undef, .slc 0 1 0 n none, .undef, .undef, .undef, .undef, .undef, .undef, .undef, .undef, .undef, .undef, .undef, .undef, .undef, .undef, .undef, .undef, .undef, .undef, .undef, .undef, .undef, .undef, .undef, .undef, .undef, .undef, .undef, .undef, .undef, .undef, .undef, .undef]

/-- key.After -/
def afterF (s : ByteArray) : ByteArray × Bool := match trimN s s.size with
  | 0 => (⟨#[]⟩, false)
  | n + 1 => (⟨(s.data.toList.take n ++ [s.data.getD n 0 + 1]).toArray⟩, true)

theorem key_After (s : ByteArray) (hs : s.size ≤ 4611686018427387904) : EvTo Tryd.prog p0 K0 15 [.d (.str s)] [] (fun r σ => r = .tuple [.d (.str (afterF s).1), .d (.bool (afterF s).2)] ∧ σ = []) := by
  refine EvTo.enter rfl Tryd.func15 rfl ?_
  simp only [List.cons_append, List.nil_append, List.length_cons, List.length_nil, Tryd.ntmps15, List.replicate]
  refine WC.seq (WC.region ?_)
  repeat
    apply WO.one
    case h =>
      intro call
      simp only [go_sem]
      try rfl
  refine WO.nil ?_
  simp only [thenW]
  refine WC.seq (WC.region ?_)
  repeat
    apply WO.one
    case h =>
      intro call
      simp only [go_sem]
      try rfl
  refine WO.nil ?_
  simp only [thenW]
  refine WC.seq (WC.block ?_)
  refine WC.loop ?_
  refine WI.keep (s1 := ⟨E15 s.size, [.row 1 (bytesD s) true]⟩) rfl rfl ?_
  refine WI.by (fun n => n) (fun n => ⟨E15 n, [.row 1 (bytesD s) true]⟩) (fun n => n ≤ s.size ∧ trimN s n = trimN s s.size) (fun n hn ih => ?_) s.size ⟨Nat.le_refl _, rfl⟩
  refine WI.round (s0 := ⟨E15 n, [.row 1 (bytesD s) true]⟩) rfl ?_
  unfold E15
  obtain ⟨hn, ht⟩ := hn
  cases n with
  | zero =>
    refine WC.seq (WC.seq (WC.region ?_))
    repeat
      apply WO.one
      case h =>
        intro call
        simp only [go_sem]
        try rfl
    refine WO.nil ?_
    simp only [thenW]
    refine WC.condF rfl ?_
    refine WC.exit ?_
    simp only [thenW, blockW, if_true]
    refine WC.seq (WC.seq (WC.region ?_))
    repeat
      apply WO.one
      case h =>
        intro call
        simp only [go_sem]
        try rfl
    refine WO.nil ?_
    simp only [thenW]
    refine WC.condT rfl ?_
    refine WC.seq (WC.region ?_)
    repeat
      apply WO.one
      case h =>
        intro call
        simp only [go_sem]
        try rfl
    refine WO.nil ?_
    simp only [thenW]
    refine WC.ret ?_
    simp only [thenW]
    refine end_ret (vs := [_, _]) rfl rfl (fun _ => rfl) ⟨?_, rfl⟩
    have e : afterF s = (⟨#[]⟩, false) := by unfold afterF; rw [← ht]; rfl
    rw [e]
    rfl
  | succ n =>
    have hpos : decide ((((n + 1 : Nat) : Int)) > 0) = true := by simp
    have hw : IntKind.i64.wrap (((n + 1 : Nat) : Int) - 1) = (n : Int) := by
      rw [show (((n + 1 : Nat) : Int) - 1) = (n : Int) by omega]
      exact wrap_i64 (by omega) (by omega)
    have hget : (bytesD s)[0 + n]? = some (.int .u8 (s.data[n]'hn).toNat) := by rw [Nat.zero_add]; exact bytesD_get hn
    have hidx := idx_slc un51 ts5 0 0 (n + 1) none .i64 n (by omega)
    have hsl := slice_hi un51 ts5 0 0 (n + 1) .i64 n (by omega)
    refine WC.seq (WC.seq (WC.region ?_))
    cases hb : (((s.data[n]'hn).toNat : Int) == 255)
    all_goals
      repeat
        apply WO.one
        case h =>
          intro call
          simp only [go_sem, hpos, hw, hget, hidx, hb]
          try rfl
    · refine WO.nil ?_
      simp only [thenW]
      refine WC.condF rfl ?_
      refine WC.exit ?_
      simp only [thenW, blockW, if_true]
      have h0 : ((((n + 1 : Nat) : Int)) == 0) = false := by
        rw [beq_eq_false_iff_ne]; omega
      have hne : s.data[n]? ≠ some 255 := by
        intro e
        rw [Array.getElem?_eq_getElem hn] at e
        simp only [Option.some.injEq] at e
        rw [e] at hb
        exact absurd hb (by decide)
      have ha : afterF s = (⟨(s.data.toList.take n ++ [s.data.getD n 0 + 1]).toArray⟩, true) := by
        unfold afterF
        rw [← ht]
        simp only [trimN, if_neg hne]
      have hset : (bytesD s).set (0 + n) (.int .u8 (IntKind.u8.wrap (((s.data[n]'hn).toNat : Int) + 1))) = (s.data.toList.set n (s.data.getD n 0 + 1)).map fun b => D.int .u8 b.toNat := by
        have hx : s.data.getD n 0 = s.data[n]'hn := by
          rw [Array.getD_eq_getD_getElem?, Array.getElem?_eq_getElem hn]
          rfl
        rw [u8_wrap, Nat.zero_add, hx]
        unfold bytesD
        rw [List.map_set]
      refine WC.seq (WC.seq (WC.region ?_))
      repeat
        apply WO.one
        case h =>
          intro call
          simp only [go_sem, h0]
          try rfl
      refine WO.nil ?_
      simp only [thenW]
      refine WC.condF rfl ?_
      refine WC.skip ?_
      simp only [thenW]
      refine WC.seq (WC.region ?_)
      have hst : ∀ (v : Int), astore Tryd.prog [.row 1 (bytesD s) true] 5 (.ref 0 (0 + n) 0) (.d (.int .u8 v)) = some [.row 1 ((bytesD s).set (0 + n) (.int .u8 v)) true] := fun v => store_int ts5 rfl hget
      repeat
        apply WO.one
        case h =>
          intro call
          simp only [go_sem, hpos, hw, hget, hidx, hst]
          try rfl
      refine WO.nil ?_
      simp only [thenW, hset]
      have hcv : aconvert Tryd.prog [.row 1 ((s.data.toList.set n (s.data.getD n 0 + 1)).map fun b => D.int .u8 b.toNat) true] 51 9 (.slc 0 1 0 (n + 1) none) = some (.d (.str ⟨(s.data.toList.take n ++ [s.data.getD n 0 + 1]).toArray⟩), [.row 1 ((s.data.toList.set n (s.data.getD n 0 + 1)).map fun b => D.int .u8 b.toNat) true]) := by
        have hn' : n < s.data.toList.length := hn
        refine conv_bytes un51 un5 un9 rfl ?_ ?_ rfl
        · rw [List.length_map, List.length_set]; omega
        · rw [List.drop_zero, ← List.map_take, bytesOf_map]
          congr 1
          exact take_set_last _ n _ hn'
      refine WC.seq (WC.region ?_)
      repeat
        apply WO.one
        case h =>
          intro call
          first
            | (simp only [stepO, wants, aop, opd, putA, List.getElem?_cons_zero, List.getElem?_cons_succ, List.set_cons_zero, List.set_cons_succ, hcv]; done)
            | (simp only [stepO, wants, aop, opd, putA, List.getElem?_cons_zero, List.getElem?_cons_succ, List.set_cons_zero, List.set_cons_succ, hcv]; rfl)
      refine WO.nil ?_
      simp only [thenW]
      refine WC.ret ?_
      refine end_ret (vs := [_, _]) rfl rfl (fun _ => rfl) ⟨?_, rfl⟩
      rw [ha]
      rfl
    · refine WO.nil ?_
      simp only [thenW]
      refine WC.condT rfl ?_
      refine WC.skip ?_
      simp only [thenW]
      refine WC.block (WC.region ?_)
      repeat
        apply WO.one
        case h =>
          intro call
          simp only [go_sem, optOf, hpos, hw, hsl]
          try rfl
      refine WO.nil ?_
      simp only [thenW, blockW]
      have heq : s.data[n]? = some 255 := by
        rw [Array.getElem?_eq_getElem hn]
        congr 1
        have : (s.data[n]'hn).toNat = 255 := by simp at hb; omega
        exact UInt8.toNat_inj.1 this
      refine WI.keep (s1 := ⟨E15 n, [.row 1 (bytesD s) true]⟩) rfl rfl (ih n (by omega) ⟨by omega, ?_⟩)
      rw [← ht]
      simp only [trimN, if_pos heq]
end Lv
