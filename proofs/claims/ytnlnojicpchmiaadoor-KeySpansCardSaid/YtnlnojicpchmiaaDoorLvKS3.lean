/- Spans: equality of two that are alike; the plain law of any spans. -/
import Derived.Test.YtnlnojicpchmiaaDoorLvKS2
import Derived.Test.YtnlnojicpchmiaaDoorLvEq
namespace Lv
open Go Go.Proofs
set_option linter.unusedVariables false
set_option linter.unusedSimpArgs false
set_option maxRecDepth 100000
theorem un38 : Tryd.prog.underlying 38 = some (.struct #[{ name := "Lo", type := 9, offset := 0, embedded := false, tag := "", pkgPath := "", byteOffset := 0 }, { name := "Hi", type := 9, offset := 1, embedded := false, tag := "", pkgPath := "", byteOffset := 16 }, { name := "Open", type := 4, offset := 2, embedded := false, tag := "", pkgPath := "", byteOffset := 32 }]) := by kernel_rfl
theorem un4 : Tryd.prog.underlying 4 = some .bool := by kernel_rfl
theorem guard38 : Tryd.prog.eqGuardType Tryd.prog.depth 38 = false := by kernel_rfl
theorem stood38 : Tryd.prog.stoodInHeld 38 = false := by kernel_rfl
theorem bin_bool_neq (x y : Operand) (a b : Bool) : abinOp Tryd.prog .neq 4 x y (.d (.bool a)) (.d (.bool b)) = some (.d (.bool !(a == b))) := by
  have : pr Tryd.prog (do eqGuard .neq 4 x y (.bool a) (.bool b); binOp .neq 4 (.bool a) (.bool b)) = some (.bool !(a == b)) := by
    show pr Tryd.prog (do let r ← Op.equalIn (9999 + 1) 4 (.bool a) (.bool b); pure (Value.bool (!r))) = _
    rw [pr_bind, pr_eq_bool _ _ _ _ un4]
    rfl
  show byPr Tryd.prog (do eqGuard .neq 4 x y (.bool a) (.bool b); binOp .neq 4 (.bool a) (.bool b)) = _
  unfold byPr
  rw [this]
  rfl
theorem sp_neq (x y : Operand) (a b : ByteArray) (c : Bool) : abinOp Tryd.prog .neq 38 x y (.d (.agg [.str a, .str b, .bool c])) (.d (.agg [.str a, .str b, .bool c])) = some (.d (.bool false)) := by
  have ia : pr Tryd.prog (isAgg 9) = some false := pr_isAgg un9 rfl
  have ib : pr Tryd.prog (isAgg 4) = some false := pr_isAgg un4 rfl
  have h : ∀ s : ByteArray, (s.toList == s.toList) = true := fun s => by simp
  have e1 : pr Tryd.prog (eqGuard .neq 38 x y (.agg #[.string a, .string b, .bool c]) (.agg #[.string a, .string b, .bool c])) = some () := by
    simp [eqGuard, pr_bind, pr_program, guard38, pr_pure]
  have e2 : pr Tryd.prog (binOp .neq 38 (.agg #[.string a, .string b, .bool c]) (.agg #[.string a, .string b, .bool c])) = some (.bool false) := by
    show pr Tryd.prog (do let r ← Op.equalIn (9999 + 1) 38 (.agg #[.string a, .string b, .bool c]) (.agg #[.string a, .string b, .bool c]); pure (Value.bool (!r))) = _
    rw [pr_bind, pr_struct _ _ _ _ un38 stood38]
    have p0 := pr_part (cs := #[.string a, .string b, .bool c]) (off := 0) ia rfl
    have p1 := pr_part (cs := #[.string a, .string b, .bool c]) (off := 1) ia rfl
    have p2 := pr_part (cs := #[.string a, .string b, .bool c]) (off := 2) ib rfl
    have q : ∀ s : ByteArray, pr Tryd.prog (Op.equalIn 9999 9 (.string s) (.string s)) = some true := fun s => by
      have := pr_eq_str 9998 9 s s un9
      rw [h] at this
      exact this
    have q2 : pr Tryd.prog (Op.equalIn 9999 4 (.bool c) (.bool c)) = some true := by
      have := pr_eq_bool 9998 4 c c un4
      rw [beq_self_eq_true] at this
      exact this
    simp [Op.eqFields, pr_bind, p0, p1, p2, q, q2, pr_pure]
  show byPr Tryd.prog (do eqGuard .neq 38 x y (.agg #[.string a, .string b, .bool c]) (.agg #[.string a, .string b, .bool c]); binOp .neq 38 (.agg #[.string a, .string b, .bool c]) (.agg #[.string a, .string b, .bool c])) = _
  unfold byPr
  rw [pr_bind, e1]
  simp only [Option.bind_some, e2]
  rfl

/-! The plain law of any spans. -/
theorem ltL_trans : ∀ {a b c : List UInt8}, Op.bytesLess a b = true → Op.bytesLess b c = true → Op.bytesLess a c = true
  | _, _, [], _, h => by simp [Op.bytesLess] at h
  | _, [], _ :: _, h, _ => by simp [Op.bytesLess] at h
  | [], _ :: _, _ :: _, _, _ => rfl
  | x :: a, y :: b, z :: c, h, k => by
    simp only [Op.bytesLess, Bool.or_eq_true, Bool.and_eq_true, decide_eq_true_eq, beq_iff_eq] at h k ⊢
    rcases h with h | ⟨rfl, h⟩
    · rcases k with k | ⟨rfl, k⟩
      · left; rw [UInt8.lt_iff_toNat_lt] at h k ⊢; omega
      · exact .inl h
    · rcases k with k | ⟨rfl, k⟩
      · exact .inl k
      · exact .inr ⟨rfl, ltL_trans h k⟩

theorem leL_lt {a b c : List UInt8} (h : (Op.bytesLess a b || a == b) = true) (k : Op.bytesLess b c = true) : Op.bytesLess a c = true := by
  rw [Bool.or_eq_true, beq_iff_eq] at h
  rcases h with h | rfl
  · exact ltL_trans h k
  · exact k

theorem leL_refl (a : List UInt8) : (Op.bytesLess a a || a == a) = true := by simp

theorem max_le (a b : ByteArray) : (Op.bytesLess a.toList (maxB a b).toList || a.toList == (maxB a b).toList) = true ∧ (Op.bytesLess b.toList (maxB a b).toList || b.toList == (maxB a b).toList) = true := by
  unfold maxB
  rw [geq_leq]
  split
  · rename_i h
    exact ⟨leL_refl _, h⟩
  · rename_i h
    rw [← geq_leq] at h
    have h' : Op.bytesLess a.toList b.toList = true := by simpa using h
    exact ⟨by rw [h']; rfl, leL_refl _⟩

theorem max_or (a b : ByteArray) : maxB a b = a ∨ maxB a b = b := by
  unfold maxB
  split
  · exact .inl rfl
  · exact .inr rfl

theorem maxB_comm (a b : ByteArray) : maxB a b = maxB b a := by
  have h1 := max_le a b
  unfold maxB
  cases h : Op.bytesLess a.toList b.toList with
  | true =>
    rw [ltL_asymm h]
    rfl
  | false =>
    cases k : Op.bytesLess b.toList a.toList with
    | true => rfl
    | false =>
      have e := geq_leq a.toList b.toList
      rw [h, k] at e
      have e2 : b.toList = a.toList := by simpa using e.symm
      have : b = a := bytes_ext (by rw [← ByteArray.toList_eq, ← ByteArray.toList_eq]; exact e2)
      rw [this]

theorem meet_comm (alo ahi : ByteArray) (aop : Bool) (blo bhi : ByteArray) (bop : Bool) : meetF blo bhi bop alo ahi aop = meetF alo ahi aop blo bhi bop := by
  unfold meetF
  rw [maxB_comm, Bool.and_comm]

theorem in_up {lo hi k k' : ByteArray} {op : Bool} (h : inF lo hi op k = true) (h1 : (Op.bytesLess lo.toList k'.toList || lo.toList == k'.toList) = true) (h2 : (Op.bytesLess k'.toList k.toList || k'.toList == k.toList) = true) : inF lo hi op k' = true := by
  unfold inF at h ⊢
  rw [Bool.and_eq_true] at h ⊢
  refine ⟨h1, ?_⟩
  have h3 := h.2
  rw [Bool.or_eq_true] at h3 ⊢
  exact h3.imp id fun q => leL_lt h2 q

theorem meet_of_in {alo ahi : ByteArray} {aop : Bool} {blo bhi : ByteArray} {bop : Bool} {k : ByteArray} (h1 : inF alo ahi aop k = true) (h2 : inF blo bhi bop k = true) : meetF alo ahi aop blo bhi bop = true := by
  have a1 : (Op.bytesLess alo.toList k.toList || alo.toList == k.toList) = true := by unfold inF at h1; rw [Bool.and_eq_true] at h1; exact h1.1
  have b1 : (Op.bytesLess blo.toList k.toList || blo.toList == k.toList) = true := by unfold inF at h2; rw [Bool.and_eq_true] at h2; exact h2.1
  have hk : (Op.bytesLess (maxB alo blo).toList k.toList || (maxB alo blo).toList == k.toList) = true := by
    rcases max_or alo blo with e | e <;> rw [e]
    · exact a1
    · exact b1
  unfold meetF
  rw [in_up h1 (max_le alo blo).1 hk, in_up h2 (max_le alo blo).2 hk]
  rfl

theorem in_of_meet {alo ahi : ByteArray} {aop : Bool} {blo bhi : ByteArray} {bop : Bool} (h : meetF alo ahi aop blo bhi bop = true) : inF alo ahi aop alo = true ∧ inF blo bhi bop blo = true := by
  unfold meetF at h
  rw [Bool.and_eq_true] at h
  exact ⟨in_up h.1 (leL_refl _) (max_le alo blo).1, in_up h.2 (leL_refl _) (max_le alo blo).2⟩

end Lv
