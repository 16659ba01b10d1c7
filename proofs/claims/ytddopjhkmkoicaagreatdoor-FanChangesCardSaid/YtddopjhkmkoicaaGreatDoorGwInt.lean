/- Whole numbers without a sign as Lean's own. -/
import Derived.Test.YtddopjhkmkoicaaGreatDoorGwOps
/- Whole numbers without a sign as Lean's own. -/
namespace Lv
open Go
set_option linter.unusedVariables false
set_option linter.unusedSimpArgs false
set_option linter.unusedSectionVars false
variable [BaseTab]
theorem i64_wrap_id {n : Int} (h : -9223372036854775808 ≤ n) (h2 : n < 9223372036854775808) : IntKind.i64.wrap n = n := by
 unfold IntKind.wrap
 have e1 : (2 : Int) ^ IntKind.i64.bits = 18446744073709551616 := rfl
 have e2 : (2 : Int) ^ (IntKind.i64.bits - 1) = 9223372036854775808 := rfl
 simp only [e1, e2, show IntKind.i64.signed = true from rfl, Bool.true_and, decide_eq_true_eq]
 split <;> omega
def u8i (n : Int) : UInt8 := UInt8.ofNat (n % 256).toNat
def u16i (n : Int) : UInt16 := UInt16.ofNat (n % 65536).toNat
def u64i (n : Int) : UInt64 := UInt64.ofNat (n % 18446744073709551616).toNat
theorem pr_pure' {P : Program} {α : Type} (a : α) : pr P (pure a : Sem α) = some a := rfl
section
variable {P : Program} (t : TypeId) (X Y : Operand)
theorem wrap_u8 (n : Int) : IntKind.u8.wrap n = n % 256 := by
 unfold IntKind.wrap
 have e1 : (2 : Int) ^ IntKind.u8.bits = 256 := rfl
 simp only [e1, show IntKind.u8.signed = false from rfl, Bool.false_and, Bool.false_eq_true, if_false]
theorem lt_u8 (x : UInt8) : x.toNat < 256 := x.toNat_lt
theorem wrap_u8_id (x : UInt8) : IntKind.u8.wrap (x.toNat : Int) = x.toNat := by
 rw [wrap_u8]; have := lt_u8 x; omega
theorem u8_add (x y : UInt8) : IntKind.u8.wrap ((x.toNat : Int) + (y.toNat : Int)) = ((x + y).toNat : Int) := by
 rw [wrap_u8, UInt8.toNat_add]; have := lt_u8 x; have := lt_u8 y
 omega
theorem b_u8_add (x y : UInt8) : abinOp P .add t X Y (.d (eU8 x)) (.d (eU8 y)) = some (.d (eU8 (x + y))) := (show _ = some (AV.d (.int .u8 (IntKind.u8.wrap ((x.toNat : Int) + (y.toNat : Int))))) from rfl).trans (by rw [u8_add])
theorem u8_sub (x y : UInt8) : IntKind.u8.wrap ((x.toNat : Int) - (y.toNat : Int)) = ((x - y).toNat : Int) := by
 rw [wrap_u8, UInt8.toNat_sub]; have := lt_u8 x; have := lt_u8 y
 omega
theorem b_u8_sub (x y : UInt8) : abinOp P .sub t X Y (.d (eU8 x)) (.d (eU8 y)) = some (.d (eU8 (x - y))) := (show _ = some (AV.d (.int .u8 (IntKind.u8.wrap ((x.toNat : Int) - (y.toNat : Int))))) from rfl).trans (by rw [u8_sub])
theorem b_u8_eql (x y : UInt8) : abinOp P .eql t X Y (.d (eU8 x)) (.d (eU8 y)) = some (.d (.bool (x == y))) := (show _ = some (AV.d (.bool (((x.toNat : Int) == (y.toNat : Int))))) from rfl).trans (by
  have : ((x.toNat : Int) == (y.toNat : Int)) = (x == y) := by rw [Bool.eq_iff_iff]; simp only [beq_iff_eq, ← UInt8.toNat_inj]; omega
  rw [this])
theorem b_u8_neq (x y : UInt8) : abinOp P .neq t X Y (.d (eU8 x)) (.d (eU8 y)) = some (.d (.bool (x != y))) := (show _ = some (AV.d (.bool (((x.toNat : Int) != (y.toNat : Int))))) from rfl).trans (by
  have : ((x.toNat : Int) != (y.toNat : Int)) = (x != y) := by rw [Bool.eq_iff_iff]; simp only [bne_iff_ne, ne_eq, ← UInt8.toNat_inj]; omega
  rw [this])
theorem b_u8_lss (x y : UInt8) : abinOp P .lss t X Y (.d (eU8 x)) (.d (eU8 y)) = some (.d (.bool (decide (x < y)))) := (show _ = some (AV.d (.bool (decide ((x.toNat : Int) < (y.toNat : Int))))) from rfl).trans (by
  have : decide ((x.toNat : Int) < (y.toNat : Int)) = (decide (x < y)) := by rw [Bool.eq_iff_iff]; simp only [decide_eq_true_eq, UInt8.lt_iff_toNat_lt]; omega
  rw [this])
theorem b_u8_leq (x y : UInt8) : abinOp P .leq t X Y (.d (eU8 x)) (.d (eU8 y)) = some (.d (.bool (decide (x ≤ y)))) := (show _ = some (AV.d (.bool (decide ((x.toNat : Int) ≤ (y.toNat : Int))))) from rfl).trans (by
  have : decide ((x.toNat : Int) ≤ (y.toNat : Int)) = (decide (x ≤ y)) := by rw [Bool.eq_iff_iff]; simp only [decide_eq_true_eq, UInt8.le_iff_toNat_le]; omega
  rw [this])
theorem b_u8_gtr (x y : UInt8) : abinOp P .gtr t X Y (.d (eU8 x)) (.d (eU8 y)) = some (.d (.bool (decide (y < x)))) := (show _ = some (AV.d (.bool (decide ((x.toNat : Int) > (y.toNat : Int))))) from rfl).trans (by
  have : decide ((x.toNat : Int) > (y.toNat : Int)) = (decide (y < x)) := by rw [Bool.eq_iff_iff]; simp only [decide_eq_true_eq, UInt8.lt_iff_toNat_lt]; omega
  rw [this])
theorem b_u8_geq (x y : UInt8) : abinOp P .geq t X Y (.d (eU8 x)) (.d (eU8 y)) = some (.d (.bool (decide (y ≤ x)))) := (show _ = some (AV.d (.bool (decide ((x.toNat : Int) ≥ (y.toNat : Int))))) from rfl).trans (by
  have : decide ((x.toNat : Int) ≥ (y.toNat : Int)) = (decide (y ≤ x)) := by rw [Bool.eq_iff_iff]; simp only [decide_eq_true_eq, UInt8.le_iff_toNat_le]; omega
  rw [this])
theorem un_u8_xor (x : UInt8) : byPr P (Op.unary .xor (.int .u8 (x.toNat : Int))) = some (.d (eU8 (~~~ x))) := by
 have hx : BitVec.ofInt IntKind.u8.bits (x.toNat : Int) = x.toBitVec := by
  rw [BitVec.ofInt_natCast]; exact BitVec.eq_of_toNat_eq (by simp [BitVec.toNat_ofNat]; exact Nat.mod_eq_of_lt x.toNat_lt)
 have hm : BitVec.ofInt IntKind.u8.bits IntKind.u8.max = BitVec.allOnes 8 := by rfl
 refine (show _ = some (AV.d (.int .u8 (IntKind.u8.wrap ((BitVec.ofInt IntKind.u8.bits IntKind.u8.max ^^^ BitVec.ofInt IntKind.u8.bits (x.toNat : Int)).toNat : Int)))) from rfl).trans ?_
 rw [hx, hm]
 have : (BitVec.allOnes 8 ^^^ x.toBitVec) = (~~~ x).toBitVec := by
  rw [UInt8.toBitVec_not]; exact BitVec.allOnes_xor
 refine (congrArg (fun b : BitVec 8 => some (AV.d (.int .u8 (IntKind.u8.wrap (b.toNat : Int))))) this).trans ?_
 exact congrArg (fun n => some (AV.d (.int .u8 n))) (wrap_u8_id (~~~ x))
theorem c_i64_u8 (n : Int) : IntKind.u8.wrap n = ((u8i n).toNat : Int) := by
 rw [wrap_u8]; unfold u8i; rw [UInt8.toNat_ofNat']
 have h1 : 0 ≤ n % 256 := Int.emod_nonneg _ (by omega)
 have h2 : n % 256 < 256 := Int.emod_lt_of_pos _ (by omega)
 omega
theorem wrap_u16 (n : Int) : IntKind.u16.wrap n = n % 65536 := by
 unfold IntKind.wrap
 have e1 : (2 : Int) ^ IntKind.u16.bits = 65536 := rfl
 simp only [e1, show IntKind.u16.signed = false from rfl, Bool.false_and, Bool.false_eq_true, if_false]
theorem lt_u16 (x : UInt16) : x.toNat < 65536 := x.toNat_lt
def shr16 (x : UInt16) (n : Nat) : UInt16 := UInt16.ofNat (x.toNat / 2 ^ n)
theorem b_u16_shr (x : UInt16) (k : IntKind) {y : Int} (hy : 0 ≤ y) : abinOp P .shr t X Y (.d (eU16 x)) (.d (.int k y)) = some (.d (eU16 (shr16 x y.toNat))) := by
 have hp : pr P (Op.shift .shr .u16 (x.toNat : Int) k y) = some (.int .u16 ((shr16 x y.toNat).toNat : Int)) := by
  unfold Op.shift
  rw [if_neg (by omega)]
  simp only [pr_pure']
  congr 2
  unfold shr16
  rw [UInt16.toNat_ofNat']
  have hb : IntKind.u16.bits = 16 := rfl
  rw [hb]
  have hx := lt_u16 x
  have hlt : x.toNat / 2 ^ y.toNat < 2 ^ 16 := Nat.lt_of_le_of_lt (Nat.div_le_self _ _) hx
  rw [Nat.mod_eq_of_lt hlt, Int.fdiv_eq_ediv_of_nonneg _ (by exact Int.le_of_lt (Int.pow_pos (by omega)))]
  rcases Nat.le_total y.toNat 16 with h | h
  ·rw [Nat.min_eq_left h, Int.natCast_ediv, Int.natCast_pow]; rfl
  ·rw [Nat.min_eq_right h]
   have e1 : (x.toNat : Int) / 2 ^ 16 = 0 := by omega
   have e2 : x.toNat / 2 ^ y.toNat = 0 := by
    apply Nat.div_eq_of_lt
    have h3 : 2 ^ 16 ≤ 2 ^ y.toNat := Nat.pow_le_pow_right (by decide) h
    exact Nat.lt_of_lt_of_le hx h3
   rw [e1, e2]; rfl
 show (match pr P (Op.shift .shr .u16 (x.toNat : Int) k y) with | some v => (match ofVal v with | some x => some (AV.d x) | none => none) | none => none) = _
 rw [hp]; rfl
theorem c_i64_u16 (n : Int) : IntKind.u16.wrap n = ((u16i n).toNat : Int) := by
 rw [wrap_u16]; unfold u16i; rw [UInt16.toNat_ofNat']
 have h1 : 0 ≤ n % 65536 := Int.emod_nonneg _ (by omega)
 have h2 : n % 65536 < 65536 := Int.emod_lt_of_pos _ (by omega)
 omega
theorem wrap_u32 (n : Int) : IntKind.u32.wrap n = n % 4294967296 := by
 unfold IntKind.wrap
 have e1 : (2 : Int) ^ IntKind.u32.bits = 4294967296 := rfl
 simp only [e1, show IntKind.u32.signed = false from rfl, Bool.false_and, Bool.false_eq_true, if_false]
theorem lt_u32 (x : UInt32) : x.toNat < 4294967296 := x.toNat_lt
def shr32 (x : UInt32) (n : Nat) : UInt32 := UInt32.ofNat (x.toNat / 2 ^ n)
theorem b_u32_shr (x : UInt32) (k : IntKind) {y : Int} (hy : 0 ≤ y) : abinOp P .shr t X Y (.d (eU32 x)) (.d (.int k y)) = some (.d (eU32 (shr32 x y.toNat))) := by
 have hp : pr P (Op.shift .shr .u32 (x.toNat : Int) k y) = some (.int .u32 ((shr32 x y.toNat).toNat : Int)) := by
  unfold Op.shift
  rw [if_neg (by omega)]
  simp only [pr_pure']
  congr 2
  unfold shr32
  rw [UInt32.toNat_ofNat']
  have hb : IntKind.u32.bits = 32 := rfl
  rw [hb]
  have hx := lt_u32 x
  have hlt : x.toNat / 2 ^ y.toNat < 2 ^ 32 := Nat.lt_of_le_of_lt (Nat.div_le_self _ _) hx
  rw [Nat.mod_eq_of_lt hlt, Int.fdiv_eq_ediv_of_nonneg _ (by exact Int.le_of_lt (Int.pow_pos (by omega)))]
  rcases Nat.le_total y.toNat 32 with h | h
  ·rw [Nat.min_eq_left h, Int.natCast_ediv, Int.natCast_pow]; rfl
  ·rw [Nat.min_eq_right h]
   have e1 : (x.toNat : Int) / 2 ^ 32 = 0 := by omega
   have e2 : x.toNat / 2 ^ y.toNat = 0 := by
    apply Nat.div_eq_of_lt
    have h3 : 2 ^ 32 ≤ 2 ^ y.toNat := Nat.pow_le_pow_right (by decide) h
    exact Nat.lt_of_lt_of_le hx h3
   rw [e1, e2]; rfl
 show (match pr P (Op.shift .shr .u32 (x.toNat : Int) k y) with | some v => (match ofVal v with | some x => some (AV.d x) | none => none) | none => none) = _
 rw [hp]; rfl
theorem wrap_u64 (n : Int) : IntKind.u64.wrap n = n % 18446744073709551616 := by
 unfold IntKind.wrap
 have e1 : (2 : Int) ^ IntKind.u64.bits = 18446744073709551616 := rfl
 simp only [e1, show IntKind.u64.signed = false from rfl, Bool.false_and, Bool.false_eq_true, if_false]
theorem lt_u64 (x : UInt64) : x.toNat < 18446744073709551616 := x.toNat_lt
theorem wrap_u64_id (x : UInt64) : IntKind.u64.wrap (x.toNat : Int) = x.toNat := by
 rw [wrap_u64]; have := lt_u64 x; omega
theorem u64_xor (x y : UInt64) : IntKind.u64.wrap ((BitVec.ofInt IntKind.u64.bits (x.toNat : Int) ^^^ BitVec.ofInt IntKind.u64.bits (y.toNat : Int)).toNat : Int) = ((x ^^^ y).toNat : Int) := by
 have hx : BitVec.ofInt IntKind.u64.bits (x.toNat : Int) = x.toBitVec := by
  rw [BitVec.ofInt_natCast]; exact BitVec.eq_of_toNat_eq (by simp [BitVec.toNat_ofNat]; exact Nat.mod_eq_of_lt x.toNat_lt)
 have hy : BitVec.ofInt IntKind.u64.bits (y.toNat : Int) = y.toBitVec := by
  rw [BitVec.ofInt_natCast]; exact BitVec.eq_of_toNat_eq (by simp [BitVec.toNat_ofNat]; exact Nat.mod_eq_of_lt y.toNat_lt)
 rw [hx, hy]
 exact wrap_u64_id (x ^^^ y)
theorem b_u64_xor (x y : UInt64) : abinOp P .xor t X Y (.d (eU64 x)) (.d (eU64 y)) = some (.d (eU64 (x ^^^ y))) := (show _ = some (AV.d (.int .u64 (IntKind.u64.wrap ((BitVec.ofInt IntKind.u64.bits (x.toNat : Int) ^^^ BitVec.ofInt IntKind.u64.bits (y.toNat : Int)).toNat : Int)))) from rfl).trans (by rw [u64_xor])
theorem b_u64_eql (x y : UInt64) : abinOp P .eql t X Y (.d (eU64 x)) (.d (eU64 y)) = some (.d (.bool (x == y))) := (show _ = some (AV.d (.bool (((x.toNat : Int) == (y.toNat : Int))))) from rfl).trans (by
  have : ((x.toNat : Int) == (y.toNat : Int)) = (x == y) := by rw [Bool.eq_iff_iff]; simp only [beq_iff_eq, ← UInt64.toNat_inj]; omega
  rw [this])
theorem b_u64_lss (x y : UInt64) : abinOp P .lss t X Y (.d (eU64 x)) (.d (eU64 y)) = some (.d (.bool (decide (x < y)))) := (show _ = some (AV.d (.bool (decide ((x.toNat : Int) < (y.toNat : Int))))) from rfl).trans (by
  have : decide ((x.toNat : Int) < (y.toNat : Int)) = (decide (x < y)) := by rw [Bool.eq_iff_iff]; simp only [decide_eq_true_eq, UInt64.lt_iff_toNat_lt]; omega
  rw [this])
theorem b_u64_leq (x y : UInt64) : abinOp P .leq t X Y (.d (eU64 x)) (.d (eU64 y)) = some (.d (.bool (decide (x ≤ y)))) := (show _ = some (AV.d (.bool (decide ((x.toNat : Int) ≤ (y.toNat : Int))))) from rfl).trans (by
  have : decide ((x.toNat : Int) ≤ (y.toNat : Int)) = (decide (x ≤ y)) := by rw [Bool.eq_iff_iff]; simp only [decide_eq_true_eq, UInt64.le_iff_toNat_le]; omega
  rw [this])
def shl64 (x : UInt64) (n : Nat) : UInt64 := UInt64.ofNat (x.toNat * 2 ^ n)
def shr64 (x : UInt64) (n : Nat) : UInt64 := UInt64.ofNat (x.toNat / 2 ^ n)
theorem b_u64_shr (x : UInt64) (k : IntKind) {y : Int} (hy : 0 ≤ y) : abinOp P .shr t X Y (.d (eU64 x)) (.d (.int k y)) = some (.d (eU64 (shr64 x y.toNat))) := by
 have hp : pr P (Op.shift .shr .u64 (x.toNat : Int) k y) = some (.int .u64 ((shr64 x y.toNat).toNat : Int)) := by
  unfold Op.shift
  rw [if_neg (by omega)]
  simp only [pr_pure']
  congr 2
  unfold shr64
  rw [UInt64.toNat_ofNat']
  have hb : IntKind.u64.bits = 64 := rfl
  rw [hb]
  have hx := lt_u64 x
  have hlt : x.toNat / 2 ^ y.toNat < 2 ^ 64 := Nat.lt_of_le_of_lt (Nat.div_le_self _ _) hx
  rw [Nat.mod_eq_of_lt hlt, Int.fdiv_eq_ediv_of_nonneg _ (by exact Int.le_of_lt (Int.pow_pos (by omega)))]
  rcases Nat.le_total y.toNat 64 with h | h
  ·rw [Nat.min_eq_left h, Int.natCast_ediv, Int.natCast_pow]; rfl
  ·rw [Nat.min_eq_right h]
   have e1 : (x.toNat : Int) / 2 ^ 64 = 0 := by omega
   have e2 : x.toNat / 2 ^ y.toNat = 0 := by
    apply Nat.div_eq_of_lt
    have h3 : 2 ^ 64 ≤ 2 ^ y.toNat := Nat.pow_le_pow_right (by decide) h
    exact Nat.lt_of_lt_of_le hx h3
   rw [e1, e2]; rfl
 show (match pr P (Op.shift .shr .u64 (x.toNat : Int) k y) with | some v => (match ofVal v with | some x => some (AV.d x) | none => none) | none => none) = _
 rw [hp]; rfl
theorem c_i64_u64 (n : Int) : IntKind.u64.wrap n = ((u64i n).toNat : Int) := by
 rw [wrap_u64]; unfold u64i; rw [UInt64.toNat_ofNat']
 have h1 : 0 ≤ n % 18446744073709551616 := Int.emod_nonneg _ (by omega)
 have h2 : n % 18446744073709551616 < 18446744073709551616 := Int.emod_lt_of_pos _ (by omega)
 omega
end
end Lv
