/- Whole numbers without a sign as Lean's own. -/
import Derived.Test.YtddopjhkmkoicaaGreatDoorGwOps
/- Whole numbers without a sign as Lean's own. -/
namespace Lv
open Go
set_option linter.unusedVariables false
set_option linter.unusedSimpArgs false
set_option linter.unusedSectionVars false
variable [BaseTab]
theorem MK {n : Int} (h : -9223372036854775808 ≤ n) (h2 : n < 9223372036854775808) : IntKind.i64.wrap n = n := by
 unfold IntKind.wrap
 have e1 : (2 : Int) ^ IntKind.i64.bits = 18446744073709551616 := rfl
 have e2 : (2 : Int) ^ (IntKind.i64.bits - 1) = 9223372036854775808 := rfl
 simp only [e1, e2, show IntKind.i64.signed = true from rfl, Bool.true_and, decide_eq_true_eq]
 split <;> omega
def Ei (n : Int) : UInt8 := UInt8.ofNat (n % 256).toNat
def yc (n : Int) : UInt16 := UInt16.ofNat (n % 65536).toNat
def jS (n : Int) : UInt64 := UInt64.ofNat (n % 18446744073709551616).toNat
def Dx (x : UInt64) : Int := IntKind.i64.wrap (x.toNat : Int)
theorem BK {P : Program} {α : Type} (a : α) : pr P (pure a : Sem α) = some a := rfl
section
variable {P : Program} (t : TypeId) (X Y : Operand)
theorem wrap_u8 (n : Int) : IntKind.u8.wrap n = n % 256 := by
 unfold IntKind.wrap
 have e1 : (2 : Int) ^ IntKind.u8.bits = 256 := rfl
 simp only [e1, show IntKind.u8.signed = false from rfl, Bool.false_and, Bool.false_eq_true, if_false]
theorem GU (x : UInt8) : x.toNat < 256 := x.toNat_lt
theorem Oc (x : UInt8) : IntKind.u8.wrap (x.toNat : Int) = x.toNat := by
 rw [wrap_u8]; have := GU x; omega
theorem aaR (x y : UInt8) : IntKind.u8.wrap ((x.toNat : Int) + (y.toNat : Int)) = ((x + y).toNat : Int) := by
 rw [wrap_u8, UInt8.toNat_add]; have := GU x; have := GU y
 omega
theorem V9 (x y : UInt8) : bC P .add t X Y (.d (bR x)) (.d (bR y)) = some (.d (bR (x + y))) := (show _ = some (AV.d (.int .u8 (IntKind.u8.wrap ((x.toNat : Int) + (y.toNat : Int))))) from rfl).trans (by rw [aaR])
theorem aaQ (x y : UInt8) : IntKind.u8.wrap ((x.toNat : Int) - (y.toNat : Int)) = ((x - y).toNat : Int) := by
 rw [wrap_u8, UInt8.toNat_sub]; have := GU x; have := GU y
 omega
theorem VX (x y : UInt8) : bC P .sub t X Y (.d (bR x)) (.d (bR y)) = some (.d (bR (x - y))) := (show _ = some (AV.d (.int .u8 (IntKind.u8.wrap ((x.toNat : Int) - (y.toNat : Int))))) from rfl).trans (by rw [aaQ])
theorem V8 (x y : UInt8) : bC P .eql t X Y (.d (bR x)) (.d (bR y)) = some (.d (.bool (x == y))) := (show _ = some (AV.d (.bool (((x.toNat : Int) == (y.toNat : Int))))) from rfl).trans (by
  have : ((x.toNat : Int) == (y.toNat : Int)) = (x == y) := by rw [Bool.eq_iff_iff]; simp only [beq_iff_eq, ← UInt8.toNat_inj]; omega
  rw [this])
theorem VY (x y : UInt8) : bC P .neq t X Y (.d (bR x)) (.d (bR y)) = some (.d (.bool (x != y))) := (show _ = some (AV.d (.bool (((x.toNat : Int) != (y.toNat : Int))))) from rfl).trans (by
  have : ((x.toNat : Int) != (y.toNat : Int)) = (x != y) := by rw [Bool.eq_iff_iff]; simp only [bne_iff_ne, ne_eq, ← UInt8.toNat_inj]; omega
  rw [this])
theorem VZ (x y : UInt8) : bC P .lss t X Y (.d (bR x)) (.d (bR y)) = some (.d (.bool (decide (x < y)))) := (show _ = some (AV.d (.bool (decide ((x.toNat : Int) < (y.toNat : Int))))) from rfl).trans (by
  have : decide ((x.toNat : Int) < (y.toNat : Int)) = (decide (x < y)) := by rw [Bool.eq_iff_iff]; simp only [decide_eq_true_eq, UInt8.lt_iff_toNat_lt]; omega
  rw [this])
theorem V5 (x y : UInt8) : bC P .leq t X Y (.d (bR x)) (.d (bR y)) = some (.d (.bool (decide (x ≤ y)))) := (show _ = some (AV.d (.bool (decide ((x.toNat : Int) ≤ (y.toNat : Int))))) from rfl).trans (by
  have : decide ((x.toNat : Int) ≤ (y.toNat : Int)) = (decide (x ≤ y)) := by rw [Bool.eq_iff_iff]; simp only [decide_eq_true_eq, UInt8.le_iff_toNat_le]; omega
  rw [this])
theorem V6 (x y : UInt8) : bC P .gtr t X Y (.d (bR x)) (.d (bR y)) = some (.d (.bool (decide (y < x)))) := (show _ = some (AV.d (.bool (decide ((x.toNat : Int) > (y.toNat : Int))))) from rfl).trans (by
  have : decide ((x.toNat : Int) > (y.toNat : Int)) = (decide (y < x)) := by rw [Bool.eq_iff_iff]; simp only [decide_eq_true_eq, UInt8.lt_iff_toNat_lt]; omega
  rw [this])
theorem V7 (x y : UInt8) : bC P .geq t X Y (.d (bR x)) (.d (bR y)) = some (.d (.bool (decide (y ≤ x)))) := (show _ = some (AV.d (.bool (decide ((x.toNat : Int) ≥ (y.toNat : Int))))) from rfl).trans (by
  have : decide ((x.toNat : Int) ≥ (y.toNat : Int)) = (decide (y ≤ x)) := by rw [Bool.eq_iff_iff]; simp only [decide_eq_true_eq, UInt8.le_iff_toNat_le]; omega
  rw [this])
theorem Q8 (x : UInt8) : vY P (Op.unary .xor (.int .u8 (x.toNat : Int))) = some (.d (bR (~~~ x))) := by
 have hx : BitVec.ofInt IntKind.u8.bits (x.toNat : Int) = x.toBitVec := by
  rw [BitVec.ofInt_natCast]; exact BitVec.eq_of_toNat_eq (by simp [BitVec.toNat_ofNat]; exact Nat.mod_eq_of_lt x.toNat_lt)
 have hm : BitVec.ofInt IntKind.u8.bits IntKind.u8.max = BitVec.allOnes 8 := by rfl
 refine (show _ = some (AV.d (.int .u8 (IntKind.u8.wrap ((BitVec.ofInt IntKind.u8.bits IntKind.u8.max ^^^ BitVec.ofInt IntKind.u8.bits (x.toNat : Int)).toNat : Int)))) from rfl).trans ?_
 rw [hx, hm]
 have : (BitVec.allOnes 8 ^^^ x.toBitVec) = (~~~ x).toBitVec := by
  rw [UInt8.toBitVec_not]; exact BitVec.allOnes_xor
 refine (congrArg (fun b : BitVec 8 => some (AV.d (.int .u8 (IntKind.u8.wrap (b.toNat : Int))))) this).trans ?_
 exact congrArg (fun n => some (AV.d (.int .u8 n))) (Oc (~~~ x))
theorem VQ (n : Int) : IntKind.u8.wrap n = ((Ei n).toNat : Int) := by
 rw [wrap_u8]; unfold Ei; rw [UInt8.toNat_ofNat']
 have h1 : 0 ≤ n % 256 := Int.emod_nonneg _ (by omega)
 have h2 : n % 256 < 256 := Int.emod_lt_of_pos _ (by omega)
 omega
theorem wrap_u16 (n : Int) : IntKind.u16.wrap n = n % 65536 := by
 unfold IntKind.wrap
 have e1 : (2 : Int) ^ IntKind.u16.bits = 65536 := rfl
 simp only [e1, show IntKind.u16.signed = false from rfl, Bool.false_and, Bool.false_eq_true, if_false]
theorem abz (x : UInt16) : x.toNat < 65536 := x.toNat_lt
def dM (x : UInt16) (n : Nat) : UInt16 := UInt16.ofNat (x.toNat / 2 ^ n)
theorem R3 (x : UInt16) (k : IntKind) {y : Int} (hy : 0 ≤ y) : bC P .shr t X Y (.d (Pp x)) (.d (.int k y)) = some (.d (Pp (dM x y.toNat))) := by
 have hp : pr P (Op.shift .shr .u16 (x.toNat : Int) k y) = some (.int .u16 ((dM x y.toNat).toNat : Int)) := by
  unfold Op.shift
  rw [if_neg (by omega)]
  simp only [BK]
  congr 2
  unfold dM
  rw [UInt16.toNat_ofNat']
  have hb : IntKind.u16.bits = 16 := rfl
  rw [hb]
  have hx := abz x
  have hlt : x.toNat / 2 ^ y.toNat < 2 ^ 16 := Nat.lt_of_le_of_lt (Nat.div_le_self _ _) hx
  rw [Nat.mod_eq_of_lt hlt, Int.fdiv_eq_ediv_of_nonneg _ (by exact Int.le_of_lt (Int.pow_pos (by omega)))]
  rcases Nat.le_total y.toNat 16 with h | h
  ·rw [Nat.min_eq_left h, Int.natCast_ediv, Int.natCast_pow]; rfl
  ·rw [Nat.min_eq_right h]
   have e1 : (x.toNat : Int) / 2 ^ 16 = 0 := by omega
   have e2 : x.toNat / 2 ^ y.toNat = 0 := by
    apply Nat.div_eq_of_lt
    have h3 : 2 ^ 16 ≤ 2 ^ y.toNat := Nat.pow_le_pow_right (by decide) h
    exact Nat.lt_of_lt_of_le hx h3
   rw [e1, e2]; rfl
 show (match pr P (Op.shift .shr .u16 (x.toNat : Int) k y) with | some v => (match lW v with | some x => some (AV.d x) | none => none) | none => none) = _
 rw [hp]; rfl
theorem RL (n : Int) : IntKind.u16.wrap n = ((yc n).toNat : Int) := by
 rw [wrap_u16]; unfold yc; rw [UInt16.toNat_ofNat']
 have h1 : 0 ≤ n % 65536 := Int.emod_nonneg _ (by omega)
 have h2 : n % 65536 < 65536 := Int.emod_lt_of_pos _ (by omega)
 omega
theorem wrap_u32 (n : Int) : IntKind.u32.wrap n = n % 4294967296 := by
 unfold IntKind.wrap
 have e1 : (2 : Int) ^ IntKind.u32.bits = 4294967296 := rfl
 simp only [e1, show IntKind.u32.signed = false from rfl, Bool.false_and, Bool.false_eq_true, if_false]
theorem aby (x : UInt32) : x.toNat < 4294967296 := x.toNat_lt
def eu (x : UInt32) (n : Nat) : UInt32 := UInt32.ofNat (x.toNat / 2 ^ n)
theorem RZ (x : UInt32) (k : IntKind) {y : Int} (hy : 0 ≤ y) : bC P .shr t X Y (.d (RG x)) (.d (.int k y)) = some (.d (RG (eu x y.toNat))) := by
 have hp : pr P (Op.shift .shr .u32 (x.toNat : Int) k y) = some (.int .u32 ((eu x y.toNat).toNat : Int)) := by
  unfold Op.shift
  rw [if_neg (by omega)]
  simp only [BK]
  congr 2
  unfold eu
  rw [UInt32.toNat_ofNat']
  have hb : IntKind.u32.bits = 32 := rfl
  rw [hb]
  have hx := aby x
  have hlt : x.toNat / 2 ^ y.toNat < 2 ^ 32 := Nat.lt_of_le_of_lt (Nat.div_le_self _ _) hx
  rw [Nat.mod_eq_of_lt hlt, Int.fdiv_eq_ediv_of_nonneg _ (by exact Int.le_of_lt (Int.pow_pos (by omega)))]
  rcases Nat.le_total y.toNat 32 with h | h
  ·rw [Nat.min_eq_left h, Int.natCast_ediv, Int.natCast_pow]; rfl
  ·rw [Nat.min_eq_right h]
   have e1 : (x.toNat : Int) / 2 ^ 32 = 0 := by omega
   have e2 : x.toNat / 2 ^ y.toNat = 0 := by
    apply Nat.div_eq_of_lt
    have h3 : 2 ^ 32 ≤ 2 ^ y.toNat := Nat.pow_le_pow_right (by decide) h
    exact Nat.lt_of_lt_of_le hx h3
   rw [e1, e2]; rfl
 show (match pr P (Op.shift .shr .u32 (x.toNat : Int) k y) with | some v => (match lW v with | some x => some (AV.d x) | none => none) | none => none) = _
 rw [hp]; rfl
theorem wrap_u64 (n : Int) : IntKind.u64.wrap n = n % 18446744073709551616 := by
 unfold IntKind.wrap
 have e1 : (2 : Int) ^ IntKind.u64.bits = 18446744073709551616 := rfl
 simp only [e1, show IntKind.u64.signed = false from rfl, Bool.false_and, Bool.false_eq_true, if_false]
theorem Ky (x : UInt64) : x.toNat < 18446744073709551616 := x.toNat_lt
theorem Ef (x : UInt64) : IntKind.u64.wrap (x.toNat : Int) = x.toNat := by
 rw [wrap_u64]; have := Ky x; omega
theorem Xe (x y : UInt64) : IntKind.u64.wrap ((x.toNat : Int) + (y.toNat : Int)) = ((x + y).toNat : Int) := by
 rw [wrap_u64, UInt64.toNat_add]; have := Ky x; have := Ky y
 omega
theorem RY (x y : UInt64) : bC P .add t X Y (.d (eU64 x)) (.d (eU64 y)) = some (.d (eU64 (x + y))) := (show _ = some (AV.d (.int .u64 (IntKind.u64.wrap ((x.toNat : Int) + (y.toNat : Int))))) from rfl).trans (by rw [Xe])
theorem u64_or (x y : UInt64) : IntKind.u64.wrap ((BitVec.ofInt IntKind.u64.bits (x.toNat : Int) ||| BitVec.ofInt IntKind.u64.bits (y.toNat : Int)).toNat : Int) = ((x ||| y).toNat : Int) := by
 have hx : BitVec.ofInt IntKind.u64.bits (x.toNat : Int) = x.toBitVec := by
  rw [BitVec.ofInt_natCast]; exact BitVec.eq_of_toNat_eq (by simp [BitVec.toNat_ofNat]; exact Nat.mod_eq_of_lt x.toNat_lt)
 have hy : BitVec.ofInt IntKind.u64.bits (y.toNat : Int) = y.toBitVec := by
  rw [BitVec.ofInt_natCast]; exact BitVec.eq_of_toNat_eq (by simp [BitVec.toNat_ofNat]; exact Nat.mod_eq_of_lt y.toNat_lt)
 rw [hx, hy]
 exact Ef (x ||| y)
theorem Wd (x y : UInt64) : bC P .or t X Y (.d (eU64 x)) (.d (eU64 y)) = some (.d (eU64 (x ||| y))) := (show _ = some (AV.d (.int .u64 (IntKind.u64.wrap ((BitVec.ofInt IntKind.u64.bits (x.toNat : Int) ||| BitVec.ofInt IntKind.u64.bits (y.toNat : Int)).toNat : Int)))) from rfl).trans (by rw [u64_or])
theorem u64_xor (x y : UInt64) : IntKind.u64.wrap ((BitVec.ofInt IntKind.u64.bits (x.toNat : Int) ^^^ BitVec.ofInt IntKind.u64.bits (y.toNat : Int)).toNat : Int) = ((x ^^^ y).toNat : Int) := by
 have hx : BitVec.ofInt IntKind.u64.bits (x.toNat : Int) = x.toBitVec := by
  rw [BitVec.ofInt_natCast]; exact BitVec.eq_of_toNat_eq (by simp [BitVec.toNat_ofNat]; exact Nat.mod_eq_of_lt x.toNat_lt)
 have hy : BitVec.ofInt IntKind.u64.bits (y.toNat : Int) = y.toBitVec := by
  rw [BitVec.ofInt_natCast]; exact BitVec.eq_of_toNat_eq (by simp [BitVec.toNat_ofNat]; exact Nat.mod_eq_of_lt y.toNat_lt)
 rw [hx, hy]
 exact Ef (x ^^^ y)
theorem RQ (x y : UInt64) : bC P .xor t X Y (.d (eU64 x)) (.d (eU64 y)) = some (.d (eU64 (x ^^^ y))) := (show _ = some (AV.d (.int .u64 (IntKind.u64.wrap ((BitVec.ofInt IntKind.u64.bits (x.toNat : Int) ^^^ BitVec.ofInt IntKind.u64.bits (y.toNat : Int)).toNat : Int)))) from rfl).trans (by rw [u64_xor])
theorem RX (x y : UInt64) : bC P .eql t X Y (.d (eU64 x)) (.d (eU64 y)) = some (.d (.bool (x == y))) := (show _ = some (AV.d (.bool (((x.toNat : Int) == (y.toNat : Int))))) from rfl).trans (by
  have : ((x.toNat : Int) == (y.toNat : Int)) = (x == y) := by rw [Bool.eq_iff_iff]; simp only [beq_iff_eq, ← UInt64.toNat_inj]; omega
  rw [this])
theorem RS (x y : UInt64) : bC P .neq t X Y (.d (eU64 x)) (.d (eU64 y)) = some (.d (.bool (x != y))) := (show _ = some (AV.d (.bool (((x.toNat : Int) != (y.toNat : Int))))) from rfl).trans (by
  have : ((x.toNat : Int) != (y.toNat : Int)) = (x != y) := by rw [Bool.eq_iff_iff]; simp only [bne_iff_ne, ne_eq, ← UInt64.toNat_inj]; omega
  rw [this])
theorem RU (x y : UInt64) : bC P .lss t X Y (.d (eU64 x)) (.d (eU64 y)) = some (.d (.bool (decide (x < y)))) := (show _ = some (AV.d (.bool (decide ((x.toNat : Int) < (y.toNat : Int))))) from rfl).trans (by
  have : decide ((x.toNat : Int) < (y.toNat : Int)) = (decide (x < y)) := by rw [Bool.eq_iff_iff]; simp only [decide_eq_true_eq, UInt64.lt_iff_toNat_lt]; omega
  rw [this])
theorem RV (x y : UInt64) : bC P .leq t X Y (.d (eU64 x)) (.d (eU64 y)) = some (.d (.bool (decide (x ≤ y)))) := (show _ = some (AV.d (.bool (decide ((x.toNat : Int) ≤ (y.toNat : Int))))) from rfl).trans (by
  have : decide ((x.toNat : Int) ≤ (y.toNat : Int)) = (decide (x ≤ y)) := by rw [Bool.eq_iff_iff]; simp only [decide_eq_true_eq, UInt64.le_iff_toNat_le]; omega
  rw [this])
def lV (x : UInt64) (n : Nat) : UInt64 := UInt64.ofNat (x.toNat * 2 ^ n)
def bZ (x : UInt64) (n : Nat) : UInt64 := UInt64.ofNat (x.toNat / 2 ^ n)
theorem DY (x : UInt64) (k : IntKind) {y : Int} (hy : 0 ≤ y) : bC P .shl t X Y (.d (eU64 x)) (.d (.int k y)) = some (.d (eU64 (lV x y.toNat))) := by
 have hp : pr P (Op.shift .shl .u64 (x.toNat : Int) k y) = some (.int .u64 ((lV x y.toNat).toNat : Int)) := by
  unfold Op.shift
  rw [if_neg (by omega)]
  simp only [BK]
  congr 2
  rw [wrap_u64]
  unfold lV
  rw [UInt64.toNat_ofNat']
  have hb : IntKind.u64.bits = 64 := rfl
  rw [hb]
  rcases Nat.le_total y.toNat 64 with h | h
  ·rw [Nat.min_eq_left h, Int.natCast_emod, Int.natCast_mul, Int.natCast_pow]; rfl
  ·rw [Nat.min_eq_right h]
   obtain ⟨d, hd⟩ := Nat.exists_eq_add_of_le h
   have e1 : ((x.toNat : Int) * 2 ^ 64) % 18446744073709551616 = 0 := by omega
   have e2 : (x.toNat * 2 ^ y.toNat) % 2 ^ 64 = 0 := by
    rw [hd, Nat.pow_add, ← Nat.mul_assoc, Nat.mul_right_comm]
    exact Nat.mul_mod_left _ _
   rw [e1, e2]; rfl
 show (match pr P (Op.shift .shl .u64 (x.toNat : Int) k y) with | some v => (match lW v with | some x => some (AV.d x) | none => none) | none => none) = _
 rw [hp]; rfl
theorem zq (x : UInt64) (k : IntKind) {y : Int} (hy : 0 ≤ y) : bC P .shr t X Y (.d (eU64 x)) (.d (.int k y)) = some (.d (eU64 (bZ x y.toNat))) := by
 have hp : pr P (Op.shift .shr .u64 (x.toNat : Int) k y) = some (.int .u64 ((bZ x y.toNat).toNat : Int)) := by
  unfold Op.shift
  rw [if_neg (by omega)]
  simp only [BK]
  congr 2
  unfold bZ
  rw [UInt64.toNat_ofNat']
  have hb : IntKind.u64.bits = 64 := rfl
  rw [hb]
  have hx := Ky x
  have hlt : x.toNat / 2 ^ y.toNat < 2 ^ 64 := Nat.lt_of_le_of_lt (Nat.div_le_self _ _) hx
  rw [Nat.mod_eq_of_lt hlt, Int.fdiv_eq_ediv_of_nonneg _ (by exact Int.le_of_lt (Int.pow_pos (by omega)))]
  rcases Nat.le_total y.toNat 64 with h | h
  ·rw [Nat.min_eq_left h, Int.natCast_ediv, Int.natCast_pow]; rfl
  ·rw [Nat.min_eq_right h]
   have e1 : (x.toNat : Int) / 2 ^ 64 = 0 := by omega
   have e2 : x.toNat / 2 ^ y.toNat = 0 := by
    apply Nat.div_eq_of_lt
    have h3 : 2 ^ 64 ≤ 2 ^ y.toNat := Nat.pow_le_pow_right (by decide) h
    exact Nat.lt_of_lt_of_le hx h3
   rw [e1, e2]; rfl
 show (match pr P (Op.shift .shr .u64 (x.toNat : Int) k y) with | some v => (match lW v with | some x => some (AV.d x) | none => none) | none => none) = _
 rw [hp]; rfl
theorem RJ (n : Int) : IntKind.u64.wrap n = ((jS n).toNat : Int) := by
 rw [wrap_u64]; unfold jS; rw [UInt64.toNat_ofNat']
 have h1 : 0 ≤ n % 18446744073709551616 := Int.emod_nonneg _ (by omega)
 have h2 : n % 18446744073709551616 < 18446744073709551616 := Int.emod_lt_of_pos _ (by omega)
 omega
end
end Lv
