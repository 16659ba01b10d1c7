/- Part of the proof of a law: a walk of the given functions. -/
import Derived.Test.YtnlnojicpchmiaaDoorLvKS
namespace Lv
open Go Go.Proofs
set_option linter.unusedVariables false
set_option linter.unusedSimpArgs false
set_option maxRecDepth 100000
set_option maxHeartbeats 4000000
attribute [local go_sem] opds acall valsOf AV.val D.val mkAgg allD stepO wants aop opd afieldAddr fo0 fo1 fo2 ts9 ta9 ts4 ta4 ts38 ta38 aload ofCells ofVal ofCval AV.cells D.cells putA List.getElem?_cons_zero List.getElem?_cons_succ List.set_cons_zero List.set_cons_succ List.map_cons List.map_nil List.drop_zero List.drop_succ_cons List.take_succ_cons List.take_zero List.length_cons List.length_nil if_true if_false List.nil_append bTT bFT bTF bFF bin_str_leq bin_str_lss bin_str_eql Option.bind_some List.getElem?_toArray Bool.false_eq_true reduceIte Bool.or_true Bool.true_or Bool.or_false Bool.false_or Bool.and_true Bool.true_and Bool.and_false Bool.false_and
attribute [local go_sem] ts5 ta5 un51 un5 un9 un3 aconvert alen bin_i64_gtr bin_i64_sub bin_i64_eql bin_u8_eql bin_u8_add bin_str_neq bin_str_gtr not_bool partsOf List.cons_append Nat.zero_add
attribute [local go_sem] bin_str_geq bin_i64_geq bin_i64_add bin_u8_lss optOf D.cval
theorem wrap_i64' {n : Int} (h : -9223372036854775808 ≤ n) (h2 : n < 9223372036854775808) : IntKind.i64.wrap n = n := by
  unfold IntKind.wrap
  have e1 : (2 : Int) ^ IntKind.i64.bits = 18446744073709551616 := rfl
  have e2 : (2 : Int) ^ (IntKind.i64.bits - 1) = 9223372036854775808 := rfl
  have e3 : IntKind.i64.signed = true := rfl
  simp only [e1, e2, e3, Bool.true_and, decide_eq_true_eq]
  split <;> omega

def E16 (s : ByteArray) (j : Int) : List AV := [.d (.str s), .undef, .undef, .undef, .d (.int .i64 j), .undef, .undef, .undef, .undef, .undef, .undef, .undef, .undef, .undef, .undef, .undef, .undef, .undef, .undef, .undef, .undef, .undef, .undef, .undef, .undef, .undef]
theorem bs51 (v : Int) : abuildSlice Tryd.prog [] 51 1 [(0, .d (.int .u8 v))] = some (.slc 0 1 0 1 (some 1), [.row 1 [.int .u8 v] true]) := by rfl

theorem ref_After (s : ByteArray) (hs : s.size ≤ 4611686018427387904) : EvTo Tryd.prog p0 K0 16 [.d (.str s)] [] (fun r σ => r = .tuple [.d (.str (afterF s).1), .d (.bool (afterF s).2)] ∧ σ = []) := by
  have hw0 : IntKind.i64.wrap ((s.size : Int) - 1) = (s.size : Int) - 1 := wrap_i64' (by omega) (by omega)
  refine EvTo.enter rfl Tryd.func16 rfl ?_
  simp only [List.cons_append, List.nil_append, List.length_cons, List.length_nil, Tryd.ntmps16, List.replicate]
  refine WC.seq (WC.region ?_)
  repeat
    first
      | (apply WO.one
         case h =>
           intro call
           simp only [go_sem]
           try rfl)
  refine WO.nil ?_
  simp only [thenW]
  refine WC.seq (WC.seq (WC.region ?_))
  repeat
    first
      | (apply WO.one
         case h =>
           intro call
           simp only [go_sem, hw0]
           try rfl)
  refine WO.nil ?_
  simp only [thenW]
  refine WC.block (WC.loop ?_)
  refine WI.keep (s1 := ⟨E16 s ((s.size : Int) - 1), []⟩) rfl rfl ?_
  refine WI.by (fun n => n) (fun n => ⟨E16 s ((n : Int) - 1), []⟩) (fun n => n ≤ s.size ∧ trimN s n = trimN s s.size) (fun n hn ih => ?_) s.size ⟨Nat.le_refl _, rfl⟩
  refine WI.round (s0 := ⟨E16 s ((n : Int) - 1), []⟩) rfl ?_
  unfold E16
  obtain ⟨hn, ht⟩ := hn
  cases n with
  | zero =>
    refine WC.seq (WC.seq (WC.region ?_))
    repeat
      first
        | (apply WO.one
           case h =>
             intro call
             simp only [go_sem]
             try rfl)
    refine WO.nil ?_
    simp only [thenW]
    refine WC.condF rfl ?_
    refine WC.exit ?_
    simp only [thenW, blockW, if_true]
    refine WC.seq (WC.region ?_)
    repeat
      first
        | (apply WO.one
           case h =>
             intro call
             simp only [go_sem]
             try rfl)
    refine WO.nil ?_
    simp only [thenW]
    refine WC.ret ?_
    try simp only [thenW, blockW]
    refine end_ret (vs := [_, _]) rfl rfl (fun _ => rfl) ⟨?_, rfl⟩
    have e : afterF s = (⟨#[]⟩, false) := by unfold afterF; rw [← ht]; rfl
    rw [e]
    rfl
  | succ n =>
    have ej : (((n + 1 : Nat) : Int) - 1) = (n : Int) := by omega
    simp only [ej]
    have hpos : decide ((n : Int) ≥ 0) = true := by simp
    have hw : IntKind.i64.wrap ((n : Int) - 1) = (n : Int) - 1 := wrap_i64' (by omega) (by omega)
    have hidx := idx_str un9 s .i64 n hn
    have hsl := slice_str_hi un9 s .i64 n (by omega)
    refine WC.seq (WC.seq (WC.region ?_))
    repeat
      first
        | (apply WO.one
           case h =>
             intro call
             simp only [go_sem, hpos]
             try rfl)
    refine WO.nil ?_
    simp only [thenW]
    refine WC.condT rfl ?_
    refine WC.skip ?_
    simp only [thenW]
    refine WC.seq (WC.block (WC.seq (WC.region ?_)))
    cases hb : decide (((s.data[n]'hn).toNat : Int) < 255)
    all_goals
      repeat
        first
          | (apply WO.one
             case h =>
               intro call
               simp only [go_sem, hidx, hb]
               try rfl)
      refine WO.nil ?_
      simp only [thenW]
    · have heq : s.data[n]? = some 255 := by
        rw [Array.getElem?_eq_getElem hn]
        congr 1
        have h1 : (s.data[n]'hn).toNat < 256 := (s.data[n]'hn).toNat_lt
        have : (s.data[n]'hn).toNat = 255 := by simp at hb; omega
        exact UInt8.toNat_inj.1 this
      refine WC.condF rfl ?_
      refine WC.skip ?_
      simp only [thenW, blockW]
      refine WC.region ?_
      repeat
        first
          | (apply WO.one
             case h =>
               intro call
               simp only [go_sem, hw]
               try rfl)
      refine WO.nil ?_
      simp only [thenW]
      refine WI.keep (s1 := ⟨E16 s ((n : Int) - 1), []⟩) rfl rfl (ih n (by omega) ⟨by omega, ?_⟩)
      rw [← ht]
      simp only [trimN, if_pos heq]
    · have hne : s.data[n]? ≠ some 255 := by
        intro e
        rw [Array.getElem?_eq_getElem hn] at e
        simp only [Option.some.injEq] at e
        rw [e] at hb
        exact absurd hb (by decide)
      have ha : afterF s = (⟨(s.data.toList.take n ++ [s.data.getD n 0 + 1]).toArray⟩, true) := by
        unfold afterF
        rw [← ht]
        simp only [trimN, if_neg hne]
      have hx : s.data.getD n 0 = s.data[n]'hn := by
        rw [Array.getD_eq_getD_getElem?, Array.getElem?_eq_getElem hn]
        rfl
      have hwr := u8_wrap (s.data[n]'hn)
      have hcv : ∀ (v : UInt8), aconvert Tryd.prog [.row 1 [D.int .u8 v.toNat] true] 51 9 (.slc 0 1 0 1 (some 1)) = some (.d (.str ⟨#[v]⟩), [.row 1 [D.int .u8 v.toNat] true]) := fun v =>
        conv_bytes (bs := [v]) un51 un5 un9 rfl (by simp) (bytesOf_map [v]) rfl
      have hadd : ∀ (x y : Operand) (v : UInt8), abinOp Tryd.prog .add 9 x y (.d (.str (s.extract 0 n))) (.d (.str ⟨#[v]⟩)) = some (.d (.str (s.extract 0 n ++ ⟨#[v]⟩))) := fun x y v => bin_str_add 9 x y _ _ (by
        rw [ByteArray.size_extract]
        have : (⟨#[v]⟩ : ByteArray).size = 1 := rfl
        omega)
      have hfin : s.extract 0 n ++ ⟨#[(s.data[n]'hn) + 1]⟩ = (⟨(s.data.toList.take n ++ [s.data.getD n 0 + 1]).toArray⟩ : ByteArray) := by
        apply bytes_ext
        rw [append_list, hx]
        simp [ByteArray.data_extract, Array.toList_extract, List.extract_eq_take_drop]
      refine WC.condT rfl ?_
      refine WC.seq (WC.draws (by kernel_rfl) ?_)
      repeat
        first
          | (apply WT.one'
             case h =>
               intro call
               simp only [go_sem, stepT, hidx, hsl, hwr, bs51, hcv, hadd]
               try rfl
             case hm =>
               first
                 | (simp only [marked, touches, opd, List.getElem?_cons_zero, List.getElem?_cons_succ, Option.elim_some, Option.elim_none, AV.ids, idsL, List.length_cons, List.length_nil, Nat.zero_add, Nat.reduceAdd, Nat.reduceSub, Nat.sub_self, List.range'_zero, List.range'_succ, List.append_nil, List.nil_append, Bool.false_or, Bool.true_or, Nat.lt_irrefl, decide_false, Nat.reduceLT, decide_true]; rfl)
                 | rfl)
      refine WT.nil ?_
      refine ⟨by kernel_rfl, ?_⟩
      simp only [thenW]
      refine WC.ret ?_
      try simp only [thenW, blockW]
      refine end_ret (vs := [_, _]) rfl rfl (fun _ => rfl) ⟨?_, rfl⟩
      have hof : UInt8.ofNat (Int.toNat (((s.data[n]'hn + 1).toNat : Nat) : Int)) = s.data[n]'hn + 1 := by
        rw [Int.toNat_natCast]
        exact UInt8.ofNat_toNat
      rw [ha, ← hfin]
      simp only [oneOr, hof]

theorem ref_Under (s : ByteArray) (hs : s.size ≤ 4611686018427387904) : EvTo Tryd.prog p0 K0 18 [.d (.str s)] [] (fun r σ => r = .d (underD s) ∧ σ = []) := by
  refine EvTo.enter rfl Tryd.func18 rfl ?_
  simp only [List.cons_append, List.nil_append, List.length_cons, List.length_nil, Tryd.ntmps18, List.replicate]
  refine WC.seq (WC.region ?_)
  repeat
    first
      | (apply WO.one
         case h =>
           intro call
           simp only [go_sem, zo38]
           try rfl)
  refine WO.nil ?_
  simp only [thenW]
  refine WC.seq (WC.region ?_)
  repeat
    first
      | (apply WO.one
         case h =>
           intro call
           simp only [go_sem]
           try rfl)
      | (refine WO.call0 (hw := ?hw) rfl (hev := ref_After s hs) (hargs := ?ha) rfl rfl (by kernel_rfl) rfl (fun _ => rfl) (fun _ => rfl) ?_
         case ha =>
           simp only [go_sem]
           try rfl
         case hw =>
           simp only [go_sem]
           try rfl)
  refine WO.nil ?_
  simp only [thenW]
  refine WC.seq (WC.region ?_)
  repeat
    first
      | (apply WO.one
         case h =>
           intro call
           simp only [go_sem, ab38]
           try rfl)
  refine WO.nil ?_
  simp only [thenW]
  refine WC.ret ?_
  exact end_ret (vs := [.d (underD s)]) rfl rfl (fun _ => rfl) ⟨rfl, rfl⟩
end Lv
