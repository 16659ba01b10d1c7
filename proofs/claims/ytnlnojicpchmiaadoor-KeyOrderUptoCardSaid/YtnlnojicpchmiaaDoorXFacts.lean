/- Part of the proof of a law: facts of the program. -/
import Derived.Test.YtnlnojicpchmiaaDoorXTypes
import Derived.Test.YtnlnojicpchmiaaDoorProg
import Derived.KernelRfl
namespace Lv
open Go Go.Proofs
set_option linter.unusedVariables false
set_option linter.unusedSimpArgs false
set_option linter.unusedSectionVars false
set_option maxRecDepth 100000
variable [BaseTab]
theorem cb9 : callable Tryd.prog 9 = true := by kernel_rfl
theorem un22 : Tryd.prog.underlying 22 = some (.slice 35) := by kernel_rfl
theorem un23 : Tryd.prog.underlying 23 = some (.slice 4) := by kernel_rfl
theorem ts35 : tsize Tryd.prog 35 = some 3 := by kernel_rfl
theorem fo35_0 : FO Tryd.prog 35 0 3 0 := by unfold FO; kernel_rfl
theorem ts3 : tsize Tryd.prog 3 = some 1 := by kernel_rfl
theorem ta3 : tagg Tryd.prog 3 = some false := by kernel_rfl
theorem ta35 : tagg Tryd.prog 35 = some true := by kernel_rfl
theorem bd35_ : abuild Tryd.prog 35 [] = some (.d (eApiValue (ApiValue.mk (0 : Int) (0 : UInt64) ([] : List UInt8)))) := by rfl
theorem ut35 : Tryd.prog.underlying 35 = some (.struct (Tryd.prog.fieldsOf 35)) := by kernel_rfl
theorem fl35 : (Tryd.prog.fieldsOf 35).toList.map fsig = [(false, 3, 0), (false, 33, 1), (false, 9, 2)] := by kernel_rfl
theorem sh35 : Tryd.prog.stoodInHeld 35 = false := by kernel_rfl
theorem eg35 : Tryd.prog.eqGuardType Tryd.prog.depth 35 = false := by kernel_rfl
theorem ta9 : tagg Tryd.prog 9 = some false := by kernel_rfl
theorem un9 : Tryd.prog.underlying 9 = some (.string) := by kernel_rfl
theorem ta33 : tagg Tryd.prog 33 = some false := by kernel_rfl
theorem un33 : Tryd.prog.underlying 33 = some (.int .u64) := by kernel_rfl
theorem un3 : Tryd.prog.underlying 3 = some (.int .i64) := by kernel_rfl
theorem eqApiValue_val35 (x y : ApiValue) (d : Nat) : pr Tryd.prog (Op.equalIn (d + 2) 35 (.agg #[.int .i64 x.Kind, .int .u64 (x.N.toNat : Int), .string ⟨x.S.toArray⟩]) (.agg #[.int .i64 y.Kind, .int .u64 (y.N.toNat : Int), .string ⟨y.S.toArray⟩])) = some (eqApiValue x y) := eq_struct (d := d + 1) ut35 fl35 sh35 (.cons (part1 ta3 rfl) (part1 ta3 rfl) (eq_i64 (d := d + 0) un3 _ _) (.cons (part1 ta33 rfl) (part1 ta33 rfl) (eq_u64 (d := d + 0) un33 _ _) (.cons (part1 ta9 rfl) (part1 ta9 rfl) (eq_str (d := d + 0) un9 _ _) .nil)))
theorem eqApiValue_eql_35 (X Y : Operand) (x y : ApiValue) : abinOp Tryd.prog .eql 35 X Y (.d (eApiValue x)) (.d (eApiValue y)) = some (.d (eB (eqApiValue x y))) := b_struct_eql (L := 2) rfl rfl eg35 (by decide) (eqApiValue_val35 x y)
theorem eqApiValue_neq_35 (X Y : Operand) (x y : ApiValue) : abinOp Tryd.prog .neq 35 X Y (.d (eApiValue x)) (.d (eApiValue y)) = some (.d (eB (!eqApiValue x y))) := b_struct_neq (L := 2) rfl rfl eg35 (by decide) (eqApiValue_val35 x y)
theorem fo35_2 : FO Tryd.prog 35 2 9 2 := by unfold FO; kernel_rfl
theorem ts9 : tsize Tryd.prog 9 = some 1 := by kernel_rfl
theorem fo35_1 : FO Tryd.prog 35 1 33 1 := by unfold FO; kernel_rfl
theorem ts33 : tsize Tryd.prog 33 = some 1 := by kernel_rfl
theorem cb38 : callable Tryd.prog 38 = true := by kernel_rfl
theorem cb27 : callable Tryd.prog 27 = true := by kernel_rfl
theorem cb26 : callable Tryd.prog 26 = true := by kernel_rfl
theorem cb37 : callable Tryd.prog 37 = true := by kernel_rfl
theorem cb25 : callable Tryd.prog 25 = true := by kernel_rfl
theorem zo35 : zeroOf Tryd.prog 35 = some (eApiValue (ApiValue.mk (0 : Int) (0 : UInt64) ([] : List UInt8))) := by kernel_rfl
theorem ts4 : tsize Tryd.prog 4 = some 1 := by kernel_rfl
theorem ta4 : tagg Tryd.prog 4 = some false := by kernel_rfl
theorem zo64 : zeroOf Tryd.prog 64 = some (.agg [.nils]) := by kernel_rfl
theorem un51 : Tryd.prog.underlying 51 = some (.slice 5) := by kernel_rfl
theorem ei5 : EI Tryd.prog 5 1 1 (eU8 (0 : UInt8)) := ⟨by kernel_rfl, by kernel_rfl, rfl, by decide, rfl, by decide⟩
theorem un93 : Tryd.prog.underlying 93 = some (.pointer 64) := by kernel_rfl
theorem fo64_0 : FO Tryd.prog 64 0 51 0 := by unfold FO; kernel_rfl
theorem ts51 : tsize Tryd.prog 51 = some 1 := by kernel_rfl
theorem ta51 : tagg Tryd.prog 51 = some false := by kernel_rfl
theorem bc51 : byCount Tryd.prog 51 = false := by kernel_rfl
theorem cb61 : callable Tryd.prog 61 = true := by kernel_rfl
theorem cb39 : callable Tryd.prog 39 = true := by kernel_rfl
theorem un96 : Tryd.prog.underlying 96 = some (.int .u32) := by kernel_rfl
theorem un107 : Tryd.prog.underlying 107 = some (.int .u16) := by kernel_rfl
theorem un5 : Tryd.prog.underlying 5 = some (.int .u8) := by kernel_rfl
theorem cb71 : callable Tryd.prog 71 = true := by kernel_rfl
theorem cb62 : callable Tryd.prog 62 = true := by kernel_rfl
theorem cb40 : callable Tryd.prog 40 = true := by kernel_rfl
theorem cb41 : callable Tryd.prog 41 = true := by kernel_rfl
theorem cb42 : callable Tryd.prog 42 = true := by kernel_rfl
theorem cb43 : callable Tryd.prog 43 = true := by kernel_rfl
theorem bc9 : byCount Tryd.prog 9 = false := by kernel_rfl
theorem ts5 : tsize Tryd.prog 5 = some 1 := by kernel_rfl
theorem ta5 : tagg Tryd.prog 5 = some false := by kernel_rfl
theorem cb33 : callable Tryd.prog 33 = true := by kernel_rfl
theorem cb28 : callable Tryd.prog 28 = true := by kernel_rfl
theorem cb10 : callable Tryd.prog 10 = true := by kernel_rfl
theorem cb67 : callable Tryd.prog 67 = true := by kernel_rfl
theorem cb55 : callable Tryd.prog 55 = true := by kernel_rfl
theorem un2 : Tryd.prog.underlying 2 = some (.int .i64) := by kernel_rfl
theorem cb68 : callable Tryd.prog 68 = true := by kernel_rfl
theorem cb56 : callable Tryd.prog 56 = true := by kernel_rfl
theorem cb69 : callable Tryd.prog 69 = true := by kernel_rfl
theorem cb58 : callable Tryd.prog 58 = true := by kernel_rfl
theorem cb59 : callable Tryd.prog 59 = true := by kernel_rfl
theorem un24 : Tryd.prog.underlying 24 = some (.slice 3) := by kernel_rfl
theorem ei3 : EI Tryd.prog 3 1 8 (eI (0 : Int)) := ⟨by kernel_rfl, by kernel_rfl, rfl, by decide, rfl, by decide⟩
theorem cb57 : callable Tryd.prog 57 = true := by kernel_rfl
theorem cb36 : callable Tryd.prog 36 = true := by kernel_rfl
theorem cb23 : callable Tryd.prog 23 = true := by kernel_rfl
theorem ei35 : EI Tryd.prog 35 3 32 (eApiValue (ApiValue.mk (0 : Int) (0 : UInt64) ([] : List UInt8))) := ⟨by kernel_rfl, by kernel_rfl, rfl, by decide, rfl, by decide⟩
theorem bc22 : byCount Tryd.prog 22 = false := by kernel_rfl
theorem ei4 : EI Tryd.prog 4 1 1 (eB false) := ⟨by kernel_rfl, by kernel_rfl, rfl, by decide, rfl, by decide⟩
theorem bc23 : byCount Tryd.prog 23 = false := by kernel_rfl
theorem zo38 : zeroOf Tryd.prog 38 = some (eApiSpan (ApiSpan.mk ([] : List UInt8) ([] : List UInt8) false)) := by kernel_rfl
theorem cb15 : callable Tryd.prog 15 = true := by kernel_rfl
theorem bd38_0_1_2 (a0 : List UInt8) (a1 : List UInt8) (a2 : Bool) : abuild Tryd.prog 38 [(0, .d (eS a0)), (1, .d (eS a1)), (2, .d (eB a2))] = some (.d (eApiSpan (ApiSpan.mk a0 a1 a2))) := by rfl
theorem ts38 : tsize Tryd.prog 38 = some 3 := by kernel_rfl
theorem ta38 : tagg Tryd.prog 38 = some true := by kernel_rfl
theorem cb17 : callable Tryd.prog 17 = true := by kernel_rfl
theorem fo38_0 : FO Tryd.prog 38 0 9 0 := by unfold FO; kernel_rfl
theorem fo38_2 : FO Tryd.prog 38 2 4 2 := by unfold FO; kernel_rfl
theorem fo38_1 : FO Tryd.prog 38 1 9 1 := by unfold FO; kernel_rfl
theorem cb19 : callable Tryd.prog 19 = true := by kernel_rfl
theorem cb24 : callable Tryd.prog 24 = true := by kernel_rfl
theorem un4 : Tryd.prog.underlying 4 = some (.bool) := by kernel_rfl
end Lv
