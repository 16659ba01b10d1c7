/- Whole numbers without a sign as Lean's own. -/
import Derived.Test.YtihhhgaaagefgaaDoorGwOps
/- Whole numbers without a sign as Lean's own. -/
namespace Lv
open Go
set_option linter.unusedVariables false
set_option linter.unusedSimpArgs false
set_option linter.unusedSectionVars false
variable [BaseTab]
theorem i64_wrap_id {n : Int} (h : -9223372036854775808 ≤ n) (h2 : n < 9223372036854775808) : IntKind.i64.wrap n = n := by
 unfold IntKind.wrap
 have e1 : (2 : Int) ^ IntKind.i64.bits = 18446744073709551616 := rfl
 have e2 : (2 : Int) ^ (IntKind.i64.bits - 1) = 9223372036854775808 := rfl
 simp only [e1, e2, show IntKind.i64.signed = true from rfl, Bool.true_and, decide_eq_true_eq]
 split <;> omega
def u8i (n : Int) : UInt8 := UInt8.ofNat (n % 256).toNat
def u64i (n : Int) : UInt64 := UInt64.ofNat (n % 18446744073709551616).toNat
def i64u (x : UInt64) : Int := IntKind.i64.wrap (x.toNat : Int)
theorem pr_pure' {P : Program} {α : Type} (a : α) : pr P (pure a : Sem α) = some a := rfl
section
variable {P : Program} (t : TypeId) (X Y : Operand)
theorem wrap_u8 (n : Int) : IntKind.u8.wrap n = n % 256 := by
 unfold IntKind.wrap
 have e1 : (2 : Int) ^ IntKind.u8.bits = 256 := rfl
 simp only [e1, show IntKind.u8.signed = false from rfl, Bool.false_and, Bool.false_eq_true, if_false]
theorem lt_u8 (x : UInt8) : x.toNat < 256 := x.toNat_lt
theorem b_u8_eql (x y : UInt8) : abinOp P .eql t X Y (.d (eU8 x)) (.d (eU8 y)) = some (.d (.bool (x == y))) := (show _ = some (AV.d (.bool (((x.toNat : Int) == (y.toNat : Int))))) from rfl).trans (by
  have : ((x.toNat : Int) == (y.toNat : Int)) = (x == y) := by rw [Bool.eq_iff_iff]; simp only [beq_iff_eq, ← UInt8.toNat_inj]; omega
  rw [this])
theorem b_u8_neq (x y : UInt8) : abinOp P .neq t X Y (.d (eU8 x)) (.d (eU8 y)) = some (.d (.bool (x != y))) := (show _ = some (AV.d (.bool (((x.toNat : Int) != (y.toNat : Int))))) from rfl).trans (by
  have : ((x.toNat : Int) != (y.toNat : Int)) = (x != y) := by rw [Bool.eq_iff_iff]; simp only [bne_iff_ne, ne_eq, ← UInt8.toNat_inj]; omega
  rw [this])
theorem b_u8_lss (x y : UInt8) : abinOp P .lss t X Y (.d (eU8 x)) (.d (eU8 y)) = some (.d (.bool (decide (x < y)))) := (show _ = some (AV.d (.bool (decide ((x.toNat : Int) < (y.toNat : Int))))) from rfl).trans (by
  have : decide ((x.toNat : Int) < (y.toNat : Int)) = (decide (x < y)) := by rw [Bool.eq_iff_iff]; simp only [decide_eq_true_eq, UInt8.lt_iff_toNat_lt]; omega
  rw [this])
theorem b_u8_leq (x y : UInt8) : abinOp P .leq t X Y (.d (eU8 x)) (.d (eU8 y)) = some (.d (.bool (decide (x ≤ y)))) := (show _ = some (AV.d (.bool (decide ((x.toNat : Int) ≤ (y.toNat : Int))))) from rfl).trans (by
  have : decide ((x.toNat : Int) ≤ (y.toNat : Int)) = (decide (x ≤ y)) := by rw [Bool.eq_iff_iff]; simp only [decide_eq_true_eq, UInt8.le_iff_toNat_le]; omega
  rw [this])
theorem b_u8_gtr (x y : UInt8) : abinOp P .gtr t X Y (.d (eU8 x)) (.d (eU8 y)) = some (.d (.bool (decide (y < x)))) := (show _ = some (AV.d (.bool (decide ((x.toNat : Int) > (y.toNat : Int))))) from rfl).trans (by
  have : decide ((x.toNat : Int) > (y.toNat : Int)) = (decide (y < x)) := by rw [Bool.eq_iff_iff]; simp only [decide_eq_true_eq, UInt8.lt_iff_toNat_lt]; omega
  rw [this])
theorem b_u8_geq (x y : UInt8) : abinOp P .geq t X Y (.d (eU8 x)) (.d (eU8 y)) = some (.d (.bool (decide (y ≤ x)))) := (show _ = some (AV.d (.bool (decide ((x.toNat : Int) ≥ (y.toNat : Int))))) from rfl).trans (by
  have : decide ((x.toNat : Int) ≥ (y.toNat : Int)) = (decide (y ≤ x)) := by rw [Bool.eq_iff_iff]; simp only [decide_eq_true_eq, UInt8.le_iff_toNat_le]; omega
  rw [this])
theorem b_u8_quo (x y : UInt8) (hy : y ≠ 0) : abinOp P .quo t X Y (.d (eU8 x)) (.d (eU8 y)) = some (.d (eU8 (x / y))) := by
 have h0 : ¬ ((y.toNat : Int) = 0) := by
  intro h
  apply hy
  have h00 : (0 : UInt8).toNat = 0 := rfl
  have : y.toNat = (0 : UInt8).toNat := by omega
  exact UInt8.toNat_inj.1 this
 have hp : pr P (Op.intDiv .quo .u8 (x.toNat : Int) (y.toNat : Int)) = some (.int .u8 ((x / y).toNat : Int)) := by
  unfold Op.intDiv
  rw [if_neg h0]
  simp only [pr_pure']
  congr 2
  rw [UInt8.toNat_div]
  rw [← Int.ofNat_tdiv, wrap_u8]; have := lt_u8 x; have h5 : x.toNat / y.toNat ≤ x.toNat := Nat.div_le_self _ _; generalize x.toNat / y.toNat = q at *; omega
 show (match pr P (Op.intDiv .quo .u8 (x.toNat : Int) (y.toNat : Int)) with | some v => (match ofVal v with | some x => some (AV.d x) | none => none) | none => none) = _
 rw [hp]; rfl
theorem b_u8_rem (x y : UInt8) (hy : y ≠ 0) : abinOp P .rem t X Y (.d (eU8 x)) (.d (eU8 y)) = some (.d (eU8 (x % y))) := by
 have h0 : ¬ ((y.toNat : Int) = 0) := by
  intro h
  apply hy
  have h00 : (0 : UInt8).toNat = 0 := rfl
  have : y.toNat = (0 : UInt8).toNat := by omega
  exact UInt8.toNat_inj.1 this
 have hp : pr P (Op.intDiv .rem .u8 (x.toNat : Int) (y.toNat : Int)) = some (.int .u8 ((x % y).toNat : Int)) := by
  unfold Op.intDiv
  rw [if_neg h0]
  simp only [pr_pure']
  rw [UInt8.toNat_mod]
  rfl
 show (match pr P (Op.intDiv .rem .u8 (x.toNat : Int) (y.toNat : Int)) with | some v => (match ofVal v with | some x => some (AV.d x) | none => none) | none => none) = _
 rw [hp]; rfl
theorem c_i64_u8 (n : Int) : IntKind.u8.wrap n = ((u8i n).toNat : Int) := by
 rw [wrap_u8]; unfold u8i; rw [UInt8.toNat_ofNat']
 have h1 : 0 ≤ n % 256 := Int.emod_nonneg _ (by omega)
 have h2 : n % 256 < 256 := Int.emod_lt_of_pos _ (by omega)
 omega
theorem wrap_u64 (n : Int) : IntKind.u64.wrap n = n % 18446744073709551616 := by
 unfold IntKind.wrap
 have e1 : (2 : Int) ^ IntKind.u64.bits = 18446744073709551616 := rfl
 simp only [e1, show IntKind.u64.signed = false from rfl, Bool.false_and, Bool.false_eq_true, if_false]
theorem lt_u64 (x : UInt64) : x.toNat < 18446744073709551616 := x.toNat_lt
theorem u64_add (x y : UInt64) : IntKind.u64.wrap ((x.toNat : Int) + (y.toNat : Int)) = ((x + y).toNat : Int) := by
 rw [wrap_u64, UInt64.toNat_add]; have := lt_u64 x; have := lt_u64 y
 omega
theorem b_u64_add (x y : UInt64) : abinOp P .add t X Y (.d (eU64 x)) (.d (eU64 y)) = some (.d (eU64 (x + y))) := (show _ = some (AV.d (.int .u64 (IntKind.u64.wrap ((x.toNat : Int) + (y.toNat : Int))))) from rfl).trans (by rw [u64_add])
theorem u64_sub (x y : UInt64) : IntKind.u64.wrap ((x.toNat : Int) - (y.toNat : Int)) = ((x - y).toNat : Int) := by
 rw [wrap_u64, UInt64.toNat_sub]; have := lt_u64 x; have := lt_u64 y
 omega
theorem b_u64_sub (x y : UInt64) : abinOp P .sub t X Y (.d (eU64 x)) (.d (eU64 y)) = some (.d (eU64 (x - y))) := (show _ = some (AV.d (.int .u64 (IntKind.u64.wrap ((x.toNat : Int) - (y.toNat : Int))))) from rfl).trans (by rw [u64_sub])
theorem u64_mul (x y : UInt64) : IntKind.u64.wrap ((x.toNat : Int) * (y.toNat : Int)) = ((x * y).toNat : Int) := by
 rw [wrap_u64, UInt64.toNat_mul]; have := lt_u64 x; have := lt_u64 y
 rw [← Int.natCast_mul]; exact (Int.natCast_emod _ _).symm
theorem b_u64_mul (x y : UInt64) : abinOp P .mul t X Y (.d (eU64 x)) (.d (eU64 y)) = some (.d (eU64 (x * y))) := (show _ = some (AV.d (.int .u64 (IntKind.u64.wrap ((x.toNat : Int) * (y.toNat : Int))))) from rfl).trans (by rw [u64_mul])
theorem b_u64_eql (x y : UInt64) : abinOp P .eql t X Y (.d (eU64 x)) (.d (eU64 y)) = some (.d (.bool (x == y))) := (show _ = some (AV.d (.bool (((x.toNat : Int) == (y.toNat : Int))))) from rfl).trans (by
  have : ((x.toNat : Int) == (y.toNat : Int)) = (x == y) := by rw [Bool.eq_iff_iff]; simp only [beq_iff_eq, ← UInt64.toNat_inj]; omega
  rw [this])
theorem b_u64_neq (x y : UInt64) : abinOp P .neq t X Y (.d (eU64 x)) (.d (eU64 y)) = some (.d (.bool (x != y))) := (show _ = some (AV.d (.bool (((x.toNat : Int) != (y.toNat : Int))))) from rfl).trans (by
  have : ((x.toNat : Int) != (y.toNat : Int)) = (x != y) := by rw [Bool.eq_iff_iff]; simp only [bne_iff_ne, ne_eq, ← UInt64.toNat_inj]; omega
  rw [this])
theorem b_u64_lss (x y : UInt64) : abinOp P .lss t X Y (.d (eU64 x)) (.d (eU64 y)) = some (.d (.bool (decide (x < y)))) := (show _ = some (AV.d (.bool (decide ((x.toNat : Int) < (y.toNat : Int))))) from rfl).trans (by
  have : decide ((x.toNat : Int) < (y.toNat : Int)) = (decide (x < y)) := by rw [Bool.eq_iff_iff]; simp only [decide_eq_true_eq, UInt64.lt_iff_toNat_lt]; omega
  rw [this])
theorem b_u64_leq (x y : UInt64) : abinOp P .leq t X Y (.d (eU64 x)) (.d (eU64 y)) = some (.d (.bool (decide (x ≤ y)))) := (show _ = some (AV.d (.bool (decide ((x.toNat : Int) ≤ (y.toNat : Int))))) from rfl).trans (by
  have : decide ((x.toNat : Int) ≤ (y.toNat : Int)) = (decide (x ≤ y)) := by rw [Bool.eq_iff_iff]; simp only [decide_eq_true_eq, UInt64.le_iff_toNat_le]; omega
  rw [this])
theorem b_u64_gtr (x y : UInt64) : abinOp P .gtr t X Y (.d (eU64 x)) (.d (eU64 y)) = some (.d (.bool (decide (y < x)))) := (show _ = some (AV.d (.bool (decide ((x.toNat : Int) > (y.toNat : Int))))) from rfl).trans (by
  have : decide ((x.toNat : Int) > (y.toNat : Int)) = (decide (y < x)) := by rw [Bool.eq_iff_iff]; simp only [decide_eq_true_eq, UInt64.lt_iff_toNat_lt]; omega
  rw [this])
theorem un_u64_neg (x : UInt64) : byPr P (Op.unary .neg (.int .u64 (x.toNat : Int))) = some (.d (eU64 (0 - x))) := by
 refine (show _ = some (AV.d (.int .u64 (IntKind.u64.wrap (0 - (x.toNat : Int))))) from rfl).trans ?_
 have := u64_sub 0 x
 have h0 : ((0 : UInt64).toNat : Int) = 0 := rfl
 rw [h0] at this
 rw [this]
theorem b_u64_quo (x y : UInt64) (hy : y ≠ 0) : abinOp P .quo t X Y (.d (eU64 x)) (.d (eU64 y)) = some (.d (eU64 (x / y))) := by
 have h0 : ¬ ((y.toNat : Int) = 0) := by
  intro h
  apply hy
  have h00 : (0 : UInt64).toNat = 0 := rfl
  have : y.toNat = (0 : UInt64).toNat := by omega
  exact UInt64.toNat_inj.1 this
 have hp : pr P (Op.intDiv .quo .u64 (x.toNat : Int) (y.toNat : Int)) = some (.int .u64 ((x / y).toNat : Int)) := by
  unfold Op.intDiv
  rw [if_neg h0]
  simp only [pr_pure']
  congr 2
  rw [UInt64.toNat_div]
  rw [← Int.ofNat_tdiv, wrap_u64]; have := lt_u64 x; have h5 : x.toNat / y.toNat ≤ x.toNat := Nat.div_le_self _ _; generalize x.toNat / y.toNat = q at *; omega
 show (match pr P (Op.intDiv .quo .u64 (x.toNat : Int) (y.toNat : Int)) with | some v => (match ofVal v with | some x => some (AV.d x) | none => none) | none => none) = _
 rw [hp]; rfl
theorem b_u64_rem (x y : UInt64) (hy : y ≠ 0) : abinOp P .rem t X Y (.d (eU64 x)) (.d (eU64 y)) = some (.d (eU64 (x % y))) := by
 have h0 : ¬ ((y.toNat : Int) = 0) := by
  intro h
  apply hy
  have h00 : (0 : UInt64).toNat = 0 := rfl
  have : y.toNat = (0 : UInt64).toNat := by omega
  exact UInt64.toNat_inj.1 this
 have hp : pr P (Op.intDiv .rem .u64 (x.toNat : Int) (y.toNat : Int)) = some (.int .u64 ((x % y).toNat : Int)) := by
  unfold Op.intDiv
  rw [if_neg h0]
  simp only [pr_pure']
  rw [UInt64.toNat_mod]
  rfl
 show (match pr P (Op.intDiv .rem .u64 (x.toNat : Int) (y.toNat : Int)) with | some v => (match ofVal v with | some x => some (AV.d x) | none => none) | none => none) = _
 rw [hp]; rfl
theorem c_i64_u64 (n : Int) : IntKind.u64.wrap n = ((u64i n).toNat : Int) := by
 rw [wrap_u64]; unfold u64i; rw [UInt64.toNat_ofNat']
 have h1 : 0 ≤ n % 18446744073709551616 := Int.emod_nonneg _ (by omega)
 have h2 : n % 18446744073709551616 < 18446744073709551616 := Int.emod_lt_of_pos _ (by omega)
 omega
end
end Lv
