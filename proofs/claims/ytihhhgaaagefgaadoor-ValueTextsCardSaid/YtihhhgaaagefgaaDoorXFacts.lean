/- Part of the proof of a law: facts of the program. -/
import Derived.Test.YtihhhgaaagefgaaDoorXTypes
import Derived.Test.YtihhhgaaagefgaaDoorProg
import Derived.KernelRfl
/- Part of the proof of a law: facts of the program. -/
namespace Lv
open Go Go.Proofs
set_option linter.unusedVariables false
set_option linter.unusedSimpArgs false
set_option linter.unusedSectionVars false
set_option maxRecDepth 100000
variable [BaseTab]
theorem zo24 : zeroOf Tryd.prog 24 = some (eApiValue (ApiValue.mk (0 : Int) (0 : UInt64) ([] : List UInt8))) := by kernel_rfl
theorem bd24_ : abuild Tryd.prog 24 [] = some (.d (eApiValue (ApiValue.mk (0 : Int) (0 : UInt64) ([] : List UInt8)))) := by rfl
theorem ts24 : tsize Tryd.prog 24 = some 3 := by kernel_rfl
theorem bd24_0_1 (a0 : Int) (a1 : UInt64) : abuild Tryd.prog 24 [(0, .d (eI a0)), (1, .d (eU64 a1))] = some (.d (eApiValue (ApiValue.mk a0 a1 ([] : List UInt8)))) := by rfl
theorem bd24_0 (a0 : Int) : abuild Tryd.prog 24 [(0, .d (eI a0))] = some (.d (eApiValue (ApiValue.mk a0 (0 : UInt64) ([] : List UInt8)))) := by rfl
theorem cb45 : callable Tryd.prog 45 = true := by kernel_rfl
theorem un9 : Tryd.prog.underlying 9 = some (.string) := by kernel_rfl
theorem cb64 : callable Tryd.prog 64 = true := by kernel_rfl
theorem un3 : Tryd.prog.underlying 3 = some (.int .i64) := by kernel_rfl
theorem un5 : Tryd.prog.underlying 5 = some (.int .u8) := by kernel_rfl
theorem un50 : Tryd.prog.underlying 50 = some (.slice 5) := by kernel_rfl
theorem ei5 : EI Tryd.prog 5 1 1 (eU8 (0 : UInt8)) := ⟨by kernel_rfl, by kernel_rfl, rfl, by decide, rfl, by decide⟩
theorem bc50 : byCount Tryd.prog 50 = false := by kernel_rfl
theorem cb46 : callable Tryd.prog 46 = true := by kernel_rfl
theorem bd24_0_2 (a0 : Int) (a2 : List UInt8) : abuild Tryd.prog 24 [(0, .d (eI a0)), (2, .d (eS a2))] = some (.d (eApiValue (ApiValue.mk a0 (0 : UInt64) a2))) := by rfl
theorem bc9 : byCount Tryd.prog 9 = false := by kernel_rfl
theorem cb47 : callable Tryd.prog 47 = true := by kernel_rfl
theorem cb48 : callable Tryd.prog 48 = true := by kernel_rfl
theorem cb50 : callable Tryd.prog 50 = true := by kernel_rfl
theorem cb49 : callable Tryd.prog 49 = true := by kernel_rfl
theorem if61 : ifaceT Tryd.prog 61 = true := by kernel_rfl
theorem cb51 : callable Tryd.prog 51 = true := by kernel_rfl
theorem un2 : Tryd.prog.underlying 2 = some (.int .i64) := by kernel_rfl
theorem un22 : Tryd.prog.underlying 22 = some (.int .u64) := by kernel_rfl
theorem ta24 : tagg Tryd.prog 24 = some true := by kernel_rfl
theorem cb28 : callable Tryd.prog 28 = true := by kernel_rfl
theorem fo24_0 : FO Tryd.prog 24 0 3 0 := by unfold FO; kernel_rfl
theorem ts3 : tsize Tryd.prog 3 = some 1 := by kernel_rfl
theorem ta3 : tagg Tryd.prog 3 = some false := by kernel_rfl
theorem ut24 : Tryd.prog.underlying 24 = some (.struct (Tryd.prog.fieldsOf 24)) := by kernel_rfl
theorem fl24 : (Tryd.prog.fieldsOf 24).toList.map fsig = [(false, 3, 0), (false, 22, 1), (false, 9, 2)] := by kernel_rfl
theorem sh24 : Tryd.prog.stoodInHeld 24 = false := by kernel_rfl
theorem eg24 : Tryd.prog.eqGuardType Tryd.prog.depth 24 = false := by kernel_rfl
theorem ta9 : tagg Tryd.prog 9 = some false := by kernel_rfl
theorem ta22 : tagg Tryd.prog 22 = some false := by kernel_rfl
theorem eqApiValue_val24 (x y : ApiValue) (d : Nat) : pr Tryd.prog (Op.equalIn (d + 2) 24 (.agg #[.int .i64 x.Kind, .int .u64 (x.N.toNat : Int), .string ⟨x.S.toArray⟩]) (.agg #[.int .i64 y.Kind, .int .u64 (y.N.toNat : Int), .string ⟨y.S.toArray⟩])) = some (eqApiValue x y) := eq_struct (d := d + 1) ut24 fl24 sh24 (.cons (part1 ta3 rfl) (part1 ta3 rfl) (eq_i64 (d := d + 0) un3 _ _) (.cons (part1 ta22 rfl) (part1 ta22 rfl) (eq_u64 (d := d + 0) un22 _ _) (.cons (part1 ta9 rfl) (part1 ta9 rfl) (eq_str (d := d + 0) un9 _ _) .nil)))
theorem eqApiValue_eql_24 (X Y : Operand) (x y : ApiValue) : abinOp Tryd.prog .eql 24 X Y (.d (eApiValue x)) (.d (eApiValue y)) = some (.d (eB (eqApiValue x y))) := b_struct_eql (L := 2) rfl rfl eg24 (by decide) (eqApiValue_val24 x y)
theorem eqApiValue_neq_24 (X Y : Operand) (x y : ApiValue) : abinOp Tryd.prog .neq 24 X Y (.d (eApiValue x)) (.d (eApiValue y)) = some (.d (eB (!eqApiValue x y))) := b_struct_neq (L := 2) rfl rfl eg24 (by decide) (eqApiValue_val24 x y)
theorem fo24_2 : FO Tryd.prog 24 2 9 2 := by unfold FO; kernel_rfl
theorem ts9 : tsize Tryd.prog 9 = some 1 := by kernel_rfl
theorem fo24_1 : FO Tryd.prog 24 1 22 1 := by unfold FO; kernel_rfl
theorem ts22 : tsize Tryd.prog 22 = some 1 := by kernel_rfl
theorem cb31 : callable Tryd.prog 31 = true := by kernel_rfl
theorem cb13 : callable Tryd.prog 13 = true := by kernel_rfl
theorem cb23 : callable Tryd.prog 23 = true := by kernel_rfl
theorem cb24 : callable Tryd.prog 24 = true := by kernel_rfl
theorem cb41 : callable Tryd.prog 41 = true := by kernel_rfl
theorem cb25 : callable Tryd.prog 25 = true := by kernel_rfl
theorem cb26 : callable Tryd.prog 26 = true := by kernel_rfl
theorem cb27 : callable Tryd.prog 27 = true := by kernel_rfl
theorem cb9 : callable Tryd.prog 9 = true := by kernel_rfl
theorem cb10 : callable Tryd.prog 10 = true := by kernel_rfl
theorem cb54 : callable Tryd.prog 54 = true := by kernel_rfl
theorem cb32 : callable Tryd.prog 32 = true := by kernel_rfl
theorem cb55 : callable Tryd.prog 55 = true := by kernel_rfl
theorem cb33 : callable Tryd.prog 33 = true := by kernel_rfl
theorem cb56 : callable Tryd.prog 56 = true := by kernel_rfl
theorem cb35 : callable Tryd.prog 35 = true := by kernel_rfl
theorem cb36 : callable Tryd.prog 36 = true := by kernel_rfl
theorem un82 : Tryd.prog.underlying 82 = some (.slice 3) := by kernel_rfl
theorem ei3 : EI Tryd.prog 3 1 8 (eI (0 : Int)) := ⟨by kernel_rfl, by kernel_rfl, rfl, by decide, rfl, by decide⟩
theorem cb34 : callable Tryd.prog 34 = true := by kernel_rfl
theorem cb14 : callable Tryd.prog 14 = true := by kernel_rfl
theorem cb18 : callable Tryd.prog 18 = true := by kernel_rfl
theorem bd35_1 (a1 : Int) : abuild Tryd.prog 35 [(1, .d (eI a1))] = some (.d (eApiColumn (ApiColumn.mk ([] : List UInt8) a1 (0 : Int) false (ApiValue.mk (0 : Int) (0 : UInt64) ([] : List UInt8))))) := by rfl
theorem fo35_3 : FO Tryd.prog 35 3 4 3 := by unfold FO; kernel_rfl
theorem ts4 : tsize Tryd.prog 4 = some 1 := by kernel_rfl
theorem ta4 : tagg Tryd.prog 4 = some false := by kernel_rfl
theorem fo35_1 : FO Tryd.prog 35 1 3 1 := by unfold FO; kernel_rfl
theorem cb37 : callable Tryd.prog 37 = true := by kernel_rfl
theorem fo35_2 : FO Tryd.prog 35 2 3 2 := by unfold FO; kernel_rfl
theorem cb15 : callable Tryd.prog 15 = true := by kernel_rfl
theorem cb8 : callable Tryd.prog 8 = true := by kernel_rfl
theorem cb52 : callable Tryd.prog 52 = true := by kernel_rfl
theorem cb29 : callable Tryd.prog 29 = true := by kernel_rfl
theorem cb38 : callable Tryd.prog 38 = true := by kernel_rfl
theorem cb16 : callable Tryd.prog 16 = true := by kernel_rfl
theorem cb30 : callable Tryd.prog 30 = true := by kernel_rfl
theorem cb12 : callable Tryd.prog 12 = true := by kernel_rfl
theorem cb11 : callable Tryd.prog 11 = true := by kernel_rfl
end Lv
