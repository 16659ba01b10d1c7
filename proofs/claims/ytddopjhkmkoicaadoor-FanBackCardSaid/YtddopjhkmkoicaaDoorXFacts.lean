/- Part of the proof of a law: facts of the program. -/
import Derived.Test.YtddopjhkmkoicaaDoorXTypes
import Derived.Test.YtddopjhkmkoicaaDoorProg
import Derived.KernelRfl
/- Part of the proof of a law: facts of the program. -/
namespace Lv
open Go Go.Proofs
set_option linter.unusedVariables false
set_option linter.unusedSimpArgs false
set_option linter.unusedSectionVars false
set_option maxRecDepth 100000
variable [BaseTab]
theorem bd72_0 (a0 : Int) : abuild Tryd.prog 72 [(0, .d (eI a0))] = some (.d (eApiValue (ApiValue.mk a0 (0 : UInt64) ([] : List UInt8)))) := by rfl
theorem bd74_0_1_4 (a0 : List UInt8) (a1 : Int) (a4 : ApiValue) : abuild Tryd.prog 74 [(0, .d (eS a0)), (1, .d (eI a1)), (4, .d (eApiValue a4))] = some (.d (eApiColumn (ApiColumn.mk a0 a1 (0 : Int) false a4))) := by rfl
theorem un22 : Tryd.prog.underlying 22 = some (.slice 74) := by kernel_rfl
theorem ei74 : EI Tryd.prog 74 7 72 (eApiColumn (ApiColumn.mk ([] : List UInt8) (0 : Int) (0 : Int) false (ApiValue.mk (0 : Int) (0 : UInt64) ([] : List UInt8)))) := ⟨by kernel_rfl, by kernel_rfl, rfl, by decide, rfl, by decide⟩
theorem un23 : Tryd.prog.underlying 23 = some (.slice 3) := by kernel_rfl
theorem ei3 : EI Tryd.prog 3 1 8 (eI (0 : Int)) := ⟨by kernel_rfl, by kernel_rfl, rfl, by decide, rfl, by decide⟩
theorem bd26_0_1_2_4 (a0 : List UInt8) (a4 : Int) : abuild Tryd.prog 26 [(0, .d (eS a0)), (1, .slc 0 7 0 ([(ApiColumn.mk ([105, 100] : List UInt8) (1 : Int) (0 : Int) false (ApiValue.mk (1 : Int) (0 : UInt64) ([] : List UInt8))), (ApiColumn.mk ([110] : List UInt8) (1 : Int) (0 : Int) false (ApiValue.mk (1 : Int) (0 : UInt64) ([] : List UInt8)))].length) none), (2, .slc 1 1 0 ([(0 : Int)].length) none), (4, .d (eI a4))] = some (.agg [.d (eS a0), .slc 0 7 0 ([(ApiColumn.mk ([105, 100] : List UInt8) (1 : Int) (0 : Int) false (ApiValue.mk (1 : Int) (0 : UInt64) ([] : List UInt8))), (ApiColumn.mk ([110] : List UInt8) (1 : Int) (0 : Int) false (ApiValue.mk (1 : Int) (0 : UInt64) ([] : List UInt8)))].length) none, .slc 1 1 0 ([(0 : Int)].length) none, .d .nils, .d (eI a4)]) := by rfl
theorem zo26 : zeroOf Tryd.prog 26 = some (.agg [(eS ([] : List UInt8)), .nils, .nils, .nils, (eI (0 : Int))]) := by kernel_rfl
theorem ts26 : tsize Tryd.prog 26 = some 5 := by kernel_rfl
theorem bd76_0 (a0 : Int) : abuild Tryd.prog 76 [(0, .d (eI a0))] = some (.d (eApiPart (ApiPart.mk a0 false))) := by rfl
theorem un40 : Tryd.prog.underlying 40 = some (.slice 76) := by kernel_rfl
theorem ei76 : EI Tryd.prog 76 2 16 (eApiPart (ApiPart.mk (0 : Int) false)) := ⟨by kernel_rfl, by kernel_rfl, rfl, by decide, rfl, by decide⟩
theorem bd42_0_1_3_4_5 (a0 : List UInt8) (a3 : Bool) (a4 : Bool) (a5 : Int) : abuild Tryd.prog 42 [(0, .d (eS a0)), (1, .slc 3 2 0 ([(ApiPart.mk (1 : Int) false)].length) none), (3, .d (eB a3)), (4, .d (eB a4)), (5, .d (eI a5))] = some (.agg [.d (eS a0), .slc 3 2 0 ([(ApiPart.mk (1 : Int) false)].length) none, .d .nils, .d (eB a3), .d (eB a4), .d (eI a5)]) := by rfl
theorem un24 : Tryd.prog.underlying 24 = some (.slice 42) := by kernel_rfl
theorem ei42 : EI Tryd.prog 42 6 80 (.agg [(eS ([] : List UInt8)), .nils, .nils, (eB false), (eB false), (eI (0 : Int))]) := ⟨by kernel_rfl, by kernel_rfl, rfl, by decide, rfl, by decide⟩
theorem fo26_3 : FO Tryd.prog 26 3 24 3 := by unfold FO; kernel_rfl
theorem ts24 : tsize Tryd.prog 24 = some 1 := by kernel_rfl
theorem ta26 : tagg Tryd.prog 26 = some true := by kernel_rfl
theorem un27 : Tryd.prog.underlying 27 = some (.slice 95) := by kernel_rfl
theorem ei95 : EI Tryd.prog 95 2 24 (eFanBuilt (FanBuilt.mk ([] : List UInt8) false)) := ⟨by kernel_rfl, by kernel_rfl, rfl, by decide, rfl, by decide⟩
theorem bd72_0_1 (a0 : Int) (a1 : UInt64) : abuild Tryd.prog 72 [(0, .d (eI a0)), (1, .d (eU64 a1))] = some (.d (eApiValue (ApiValue.mk a0 a1 ([] : List UInt8)))) := by rfl
theorem un43 : Tryd.prog.underlying 43 = some (.slice 72) := by kernel_rfl
theorem ei72 : EI Tryd.prog 72 3 32 (eApiValue (ApiValue.mk (0 : Int) (0 : UInt64) ([] : List UInt8))) := ⟨by kernel_rfl, by kernel_rfl, rfl, by decide, rfl, by decide⟩
theorem zo50 : zeroOf Tryd.prog 50 = some (.agg [.nils, .nils, .nils]) := by kernel_rfl
theorem ta24 : tagg Tryd.prog 24 = some false := by kernel_rfl
theorem bd50_ : abuild Tryd.prog 50 [] = some (.d (.agg [.nils, .nils, .nils])) := by rfl
theorem ts50 : tsize Tryd.prog 50 = some 3 := by kernel_rfl
theorem zo87 : zeroOf Tryd.prog 87 = some (.agg [.nils, (eS ([] : List UInt8))]) := by kernel_rfl
theorem bd87_ : abuild Tryd.prog 87 [] = some (.d (.agg [.nils, (eS ([] : List UInt8))])) := by rfl
theorem ts87 : tsize Tryd.prog 87 = some 2 := by kernel_rfl
theorem fo26_2 : FO Tryd.prog 26 2 23 2 := by unfold FO; kernel_rfl
theorem ts23 : tsize Tryd.prog 23 = some 1 := by kernel_rfl
theorem ta23 : tagg Tryd.prog 23 = some false := by kernel_rfl
theorem ts3 : tsize Tryd.prog 3 = some 1 := by kernel_rfl
theorem ta3 : tagg Tryd.prog 3 = some false := by kernel_rfl
theorem bc40 : byCount Tryd.prog 40 = false := by kernel_rfl
theorem cb23 : callable Tryd.prog 23 = true := by kernel_rfl
theorem fo26_1 : FO Tryd.prog 26 1 22 1 := by unfold FO; kernel_rfl
theorem ts22 : tsize Tryd.prog 22 = some 1 := by kernel_rfl
theorem ta22 : tagg Tryd.prog 22 = some false := by kernel_rfl
theorem ts74 : tsize Tryd.prog 74 = some 7 := by kernel_rfl
theorem ta74 : tagg Tryd.prog 74 = some true := by kernel_rfl
theorem fo74_0 : FO Tryd.prog 74 0 9 0 := by unfold FO; kernel_rfl
theorem ts9 : tsize Tryd.prog 9 = some 1 := by kernel_rfl
theorem ta9 : tagg Tryd.prog 9 = some false := by kernel_rfl
theorem un9 : Tryd.prog.underlying 9 = some (.string) := by kernel_rfl
theorem cb73 : callable Tryd.prog 73 = true := by kernel_rfl
theorem fo74_1 : FO Tryd.prog 74 1 3 1 := by unfold FO; kernel_rfl
theorem cb65 : callable Tryd.prog 65 = true := by kernel_rfl
theorem fo74_2 : FO Tryd.prog 74 2 3 2 := by unfold FO; kernel_rfl
theorem fo74_4 : FO Tryd.prog 74 4 72 4 := by unfold FO; kernel_rfl
theorem ts72 : tsize Tryd.prog 72 = some 3 := by kernel_rfl
theorem ta72 : tagg Tryd.prog 72 = some true := by kernel_rfl
theorem fo72_0 : FO Tryd.prog 72 0 3 0 := by unfold FO; kernel_rfl
theorem bd72_ : abuild Tryd.prog 72 [] = some (.d (eApiValue (ApiValue.mk (0 : Int) (0 : UInt64) ([] : List UInt8)))) := by rfl
theorem ut72 : Tryd.prog.underlying 72 = some (.struct (Tryd.prog.fieldsOf 72)) := by kernel_rfl
theorem fl72 : (Tryd.prog.fieldsOf 72).toList.map fsig = [(false, 3, 0), (false, 59, 1), (false, 9, 2)] := by kernel_rfl
theorem sh72 : Tryd.prog.stoodInHeld 72 = false := by kernel_rfl
theorem eg72 : Tryd.prog.eqGuardType Tryd.prog.depth 72 = false := by kernel_rfl
theorem ta59 : tagg Tryd.prog 59 = some false := by kernel_rfl
theorem un59 : Tryd.prog.underlying 59 = some (.int .u64) := by kernel_rfl
theorem un3 : Tryd.prog.underlying 3 = some (.int .i64) := by kernel_rfl
theorem eqApiValue_val72 (x y : ApiValue) (d : Nat) : pr Tryd.prog (Op.equalIn (d + 2) 72 (.agg #[.int .i64 x.Kind, .int .u64 (x.N.toNat : Int), .string ⟨x.S.toArray⟩]) (.agg #[.int .i64 y.Kind, .int .u64 (y.N.toNat : Int), .string ⟨y.S.toArray⟩])) = some (eqApiValue x y) := eq_struct (d := d + 1) ut72 fl72 sh72 (.cons (part1 ta3 rfl) (part1 ta3 rfl) (eq_i64 (d := d + 0) un3 _ _) (.cons (part1 ta59 rfl) (part1 ta59 rfl) (eq_u64 (d := d + 0) un59 _ _) (.cons (part1 ta9 rfl) (part1 ta9 rfl) (eq_str (d := d + 0) un9 _ _) .nil)))
theorem eqApiValue_eql_72 (X Y : Operand) (x y : ApiValue) : abinOp Tryd.prog .eql 72 X Y (.d (eApiValue x)) (.d (eApiValue y)) = some (.d (eB (eqApiValue x y))) := b_struct_eql (L := 2) rfl rfl eg72 (by decide) (eqApiValue_val72 x y)
theorem eqApiValue_neq_72 (X Y : Operand) (x y : ApiValue) : abinOp Tryd.prog .neq 72 X Y (.d (eApiValue x)) (.d (eApiValue y)) = some (.d (eB (!eqApiValue x y))) := b_struct_neq (L := 2) rfl rfl eg72 (by decide) (eqApiValue_val72 x y)
theorem fo72_2 : FO Tryd.prog 72 2 9 2 := by unfold FO; kernel_rfl
theorem fo72_1 : FO Tryd.prog 72 1 59 1 := by unfold FO; kernel_rfl
theorem ts59 : tsize Tryd.prog 59 = some 1 := by kernel_rfl
theorem cb67 : callable Tryd.prog 67 = true := by kernel_rfl
theorem cb53 : callable Tryd.prog 53 = true := by kernel_rfl
theorem fo74_3 : FO Tryd.prog 74 3 4 3 := by unfold FO; kernel_rfl
theorem ts4 : tsize Tryd.prog 4 = some 1 := by kernel_rfl
theorem ta4 : tagg Tryd.prog 4 = some false := by kernel_rfl
theorem cb50 : callable Tryd.prog 50 = true := by kernel_rfl
theorem cb64 : callable Tryd.prog 64 = true := by kernel_rfl
theorem cb63 : callable Tryd.prog 63 = true := by kernel_rfl
theorem cb72 : callable Tryd.prog 72 = true := by kernel_rfl
theorem cb62 : callable Tryd.prog 62 = true := by kernel_rfl
theorem cb49 : callable Tryd.prog 49 = true := by kernel_rfl
theorem zo72 : zeroOf Tryd.prog 72 = some (eApiValue (ApiValue.mk (0 : Int) (0 : UInt64) ([] : List UInt8))) := by kernel_rfl
theorem cb37 : callable Tryd.prog 37 = true := by kernel_rfl
theorem ts76 : tsize Tryd.prog 76 = some 2 := by kernel_rfl
theorem ta76 : tagg Tryd.prog 76 = some true := by kernel_rfl
theorem zo76 : zeroOf Tryd.prog 76 = some (eApiPart (ApiPart.mk (0 : Int) false)) := by kernel_rfl
theorem fo76_0 : FO Tryd.prog 76 0 3 0 := by unfold FO; kernel_rfl
theorem bc43 : byCount Tryd.prog 43 = false := by kernel_rfl
theorem fo76_1 : FO Tryd.prog 76 1 4 1 := by unfold FO; kernel_rfl
theorem un109 : Tryd.prog.underlying 109 = some (.slice 4) := by kernel_rfl
theorem ei4 : EI Tryd.prog 4 1 1 (eB false) := ⟨by kernel_rfl, by kernel_rfl, rfl, by decide, rfl, by decide⟩
theorem bc109 : byCount Tryd.prog 109 = false := by kernel_rfl
theorem cb52 : callable Tryd.prog 52 = true := by kernel_rfl
theorem cb66 : callable Tryd.prog 66 = true := by kernel_rfl
theorem cb51 : callable Tryd.prog 51 = true := by kernel_rfl
theorem zo114 : zeroOf Tryd.prog 114 = some (.agg [.nils]) := by kernel_rfl
theorem un112 : Tryd.prog.underlying 112 = some (.slice 5) := by kernel_rfl
theorem ei5 : EI Tryd.prog 5 1 1 (eU8 (0 : UInt8)) := ⟨by kernel_rfl, by kernel_rfl, rfl, by decide, rfl, by decide⟩
theorem un117 : Tryd.prog.underlying 117 = some (.pointer 114) := by kernel_rfl
theorem fo114_0 : FO Tryd.prog 114 0 112 0 := by unfold FO; kernel_rfl
theorem ts112 : tsize Tryd.prog 112 = some 1 := by kernel_rfl
theorem ta112 : tagg Tryd.prog 112 = some false := by kernel_rfl
theorem bc112 : byCount Tryd.prog 112 = false := by kernel_rfl
theorem cb55 : callable Tryd.prog 55 = true := by kernel_rfl
theorem cb56 : callable Tryd.prog 56 = true := by kernel_rfl
theorem un142 : Tryd.prog.underlying 142 = some (.int .u32) := by kernel_rfl
theorem un145 : Tryd.prog.underlying 145 = some (.int .u16) := by kernel_rfl
theorem un5 : Tryd.prog.underlying 5 = some (.int .u8) := by kernel_rfl
theorem cb71 : callable Tryd.prog 71 = true := by kernel_rfl
theorem cb70 : callable Tryd.prog 70 = true := by kernel_rfl
theorem cb57 : callable Tryd.prog 57 = true := by kernel_rfl
theorem cb39 : callable Tryd.prog 39 = true := by kernel_rfl
theorem cb41 : callable Tryd.prog 41 = true := by kernel_rfl
theorem cb68 : callable Tryd.prog 68 = true := by kernel_rfl
theorem bc9 : byCount Tryd.prog 9 = false := by kernel_rfl
theorem ts5 : tsize Tryd.prog 5 = some 1 := by kernel_rfl
theorem ta5 : tagg Tryd.prog 5 = some false := by kernel_rfl
theorem cb69 : callable Tryd.prog 69 = true := by kernel_rfl
theorem cb54 : callable Tryd.prog 54 = true := by kernel_rfl
theorem cb38 : callable Tryd.prog 38 = true := by kernel_rfl
theorem cb22 : callable Tryd.prog 22 = true := by kernel_rfl
theorem cb9 : callable Tryd.prog 9 = true := by kernel_rfl
theorem bd87_0_1 (a0 : List ApiValue) (a1 : List UInt8) : abuild Tryd.prog 87 [(0, .d ((eL 3 eApiValue) a0)), (1, .d (eS a1))] = some (.d (eFanSide (FanSide.mk a0 a1))) := by rfl
theorem ta87 : tagg Tryd.prog 87 = some true := by kernel_rfl
theorem cb24 : callable Tryd.prog 24 = true := by kernel_rfl
theorem fo87_1 : FO Tryd.prog 87 1 9 1 := by unfold FO; kernel_rfl
theorem fo87_0 : FO Tryd.prog 87 0 43 0 := by unfold FO; kernel_rfl
theorem ts43 : tsize Tryd.prog 43 = some 1 := by kernel_rfl
theorem ta43 : tagg Tryd.prog 43 = some false := by kernel_rfl
theorem cb25 : callable Tryd.prog 25 = true := by kernel_rfl
theorem fo26_4 : FO Tryd.prog 26 4 3 4 := by unfold FO; kernel_rfl
theorem fo50_1 : FO Tryd.prog 50 1 47 1 := by unfold FO; kernel_rfl
theorem ts47 : tsize Tryd.prog 47 = some 1 := by kernel_rfl
theorem ta47 : tagg Tryd.prog 47 = some false := by kernel_rfl
theorem zo65 : zeroOf Tryd.prog 65 = some (eApiSpan (ApiSpan.mk ([] : List UInt8) ([] : List UInt8) false)) := by kernel_rfl
theorem bd65_0_1 (a0 : List UInt8) (a1 : List UInt8) : abuild Tryd.prog 65 [(0, .d (eS a0)), (1, .d (eS a1))] = some (.d (eApiSpan (ApiSpan.mk a0 a1 false))) := by rfl
theorem ts65 : tsize Tryd.prog 65 = some 3 := by kernel_rfl
theorem ta65 : tagg Tryd.prog 65 = some true := by kernel_rfl
theorem cb14 : callable Tryd.prog 14 = true := by kernel_rfl
theorem bd67_0_1_2 (a0 : Int) (a1 : ApiSpan) (a2 : Bool) : abuild Tryd.prog 67 [(0, .d (eI a0)), (1, .d (eApiSpan a1)), (2, .d (eB a2))] = some (.d (eApiLock (ApiLock.mk a0 a1 a2))) := by rfl
theorem un47 : Tryd.prog.underlying 47 = some (.slice 67) := by kernel_rfl
theorem ei67 : EI Tryd.prog 67 5 56 (eApiLock (ApiLock.mk (0 : Int) (ApiSpan.mk ([] : List UInt8) ([] : List UInt8) false) false)) := ⟨by kernel_rfl, by kernel_rfl, rfl, by decide, rfl, by decide⟩
theorem bc47 : byCount Tryd.prog 47 = false := by kernel_rfl
theorem cb26 : callable Tryd.prog 26 = true := by kernel_rfl
theorem cb27 : callable Tryd.prog 27 = true := by kernel_rfl
theorem ta50 : tagg Tryd.prog 50 = some true := by kernel_rfl
theorem cb58 : callable Tryd.prog 58 = true := by kernel_rfl
theorem cb40 : callable Tryd.prog 40 = true := by kernel_rfl
theorem cb28 : callable Tryd.prog 28 = true := by kernel_rfl
theorem bd61_1_2_4 (a1 : Int) (a2 : List UInt8) (a4 : List UInt8) : abuild Tryd.prog 61 [(1, .d (eI a1)), (2, .d (eS a2)), (4, .d (eS a4))] = some (.d (eApiMsg (ApiMsg.mk (0 : UInt64) a1 a2 (0 : UInt64) a4 (0 : Int) (0 : UInt64)))) := by rfl
theorem fo50_0 : FO Tryd.prog 50 0 46 0 := by unfold FO; kernel_rfl
theorem ts46 : tsize Tryd.prog 46 = some 1 := by kernel_rfl
theorem ta46 : tagg Tryd.prog 46 = some false := by kernel_rfl
theorem ts61 : tsize Tryd.prog 61 = some 7 := by kernel_rfl
theorem ta61 : tagg Tryd.prog 61 = some true := by kernel_rfl
theorem bd63_0_1_2 (a0 : Int) (a1 : Int) (a2 : ApiMsg) : abuild Tryd.prog 63 [(0, .d (eI a0)), (1, .d (eI a1)), (2, .d (eApiMsg a2))] = some (.d (eForestOp (ForestOp.mk a0 a1 a2))) := by rfl
theorem un46 : Tryd.prog.underlying 46 = some (.slice 63) := by kernel_rfl
theorem ei63 : EI Tryd.prog 63 9 88 (eForestOp (ForestOp.mk (0 : Int) (0 : Int) (ApiMsg.mk (0 : UInt64) (0 : Int) ([] : List UInt8) (0 : UInt64) ([] : List UInt8) (0 : Int) (0 : UInt64)))) := ⟨by kernel_rfl, by kernel_rfl, rfl, by decide, rfl, by decide⟩
theorem bc46 : byCount Tryd.prog 46 = false := by kernel_rfl
theorem cb29 : callable Tryd.prog 29 = true := by kernel_rfl
theorem bd61_1_2 (a1 : Int) (a2 : List UInt8) : abuild Tryd.prog 61 [(1, .d (eI a1)), (2, .d (eS a2))] = some (.d (eApiMsg (ApiMsg.mk (0 : UInt64) a1 a2 (0 : UInt64) ([] : List UInt8) (0 : Int) (0 : UInt64)))) := by rfl
theorem ts42 : tsize Tryd.prog 42 = some 6 := by kernel_rfl
theorem ta42 : tagg Tryd.prog 42 = some true := by kernel_rfl
theorem zo42 : zeroOf Tryd.prog 42 = some (.agg [(eS ([] : List UInt8)), .nils, .nils, (eB false), (eB false), (eI (0 : Int))]) := by kernel_rfl
theorem fo42_4 : FO Tryd.prog 42 4 4 4 := by unfold FO; kernel_rfl
theorem ts95 : tsize Tryd.prog 95 = some 2 := by kernel_rfl
theorem fo95_1 : FO Tryd.prog 95 1 4 1 := by unfold FO; kernel_rfl
theorem fo95_0 : FO Tryd.prog 95 0 9 0 := by unfold FO; kernel_rfl
theorem zo99 : zeroOf Tryd.prog 99 = some (eApiPair (ApiPair.mk ([] : List UInt8) ([] : List UInt8))) := by kernel_rfl
theorem fo42_1 : FO Tryd.prog 42 1 40 1 := by unfold FO; kernel_rfl
theorem ts40 : tsize Tryd.prog 40 = some 1 := by kernel_rfl
theorem ta40 : tagg Tryd.prog 40 = some false := by kernel_rfl
theorem cb42 : callable Tryd.prog 42 = true := by kernel_rfl
theorem bd99_ : abuild Tryd.prog 99 [] = some (.d (eApiPair (ApiPair.mk ([] : List UInt8) ([] : List UInt8)))) := by rfl
theorem ts99 : tsize Tryd.prog 99 = some 2 := by kernel_rfl
theorem bd99_0 (a0 : List UInt8) : abuild Tryd.prog 99 [(0, .d (eS a0))] = some (.d (eApiPair (ApiPair.mk a0 ([] : List UInt8)))) := by rfl
theorem fo42_2 : FO Tryd.prog 42 2 23 2 := by unfold FO; kernel_rfl
theorem bc22 : byCount Tryd.prog 22 = false := by kernel_rfl
theorem cb47 : callable Tryd.prog 47 = true := by kernel_rfl
theorem fo99_1 : FO Tryd.prog 99 1 9 1 := by unfold FO; kernel_rfl
theorem ta99 : tagg Tryd.prog 99 = some true := by kernel_rfl
theorem cb32 : callable Tryd.prog 32 = true := by kernel_rfl
theorem ut99 : Tryd.prog.underlying 99 = some (.struct (Tryd.prog.fieldsOf 99)) := by kernel_rfl
theorem fl99 : (Tryd.prog.fieldsOf 99).toList.map fsig = [(false, 9, 0), (false, 9, 1)] := by kernel_rfl
theorem sh99 : Tryd.prog.stoodInHeld 99 = false := by kernel_rfl
theorem eg99 : Tryd.prog.eqGuardType Tryd.prog.depth 99 = false := by kernel_rfl
theorem eqApiPair_val99 (x y : ApiPair) (d : Nat) : pr Tryd.prog (Op.equalIn (d + 2) 99 (.agg #[.string ⟨x.Key.toArray⟩, .string ⟨x.Val.toArray⟩]) (.agg #[.string ⟨y.Key.toArray⟩, .string ⟨y.Val.toArray⟩])) = some (eqApiPair x y) := eq_struct (d := d + 1) ut99 fl99 sh99 (.cons (part1 ta9 rfl) (part1 ta9 rfl) (eq_str (d := d + 0) un9 _ _) (.cons (part1 ta9 rfl) (part1 ta9 rfl) (eq_str (d := d + 0) un9 _ _) .nil))
theorem eqApiPair_eql_99 (X Y : Operand) (x y : ApiPair) : abinOp Tryd.prog .eql 99 X Y (.d (eApiPair x)) (.d (eApiPair y)) = some (.d (eB (eqApiPair x y))) := b_struct_eql (L := 2) rfl rfl eg99 (by decide) (eqApiPair_val99 x y)
theorem fo99_0 : FO Tryd.prog 99 0 9 0 := by unfold FO; kernel_rfl
theorem ts111 : tsize Tryd.prog 111 = some 1 := by kernel_rfl
theorem ta111 : tagg Tryd.prog 111 = some false := by kernel_rfl
theorem fo42_5 : FO Tryd.prog 42 5 3 5 := by unfold FO; kernel_rfl
theorem fo61_2 : FO Tryd.prog 61 2 9 2 := by unfold FO; kernel_rfl
theorem cb43 : callable Tryd.prog 43 = true := by kernel_rfl
theorem fo42_3 : FO Tryd.prog 42 3 4 3 := by unfold FO; kernel_rfl
theorem cb59 : callable Tryd.prog 59 = true := by kernel_rfl
theorem bd65_0_1_2 (a0 : List UInt8) (a1 : List UInt8) (a2 : Bool) : abuild Tryd.prog 65 [(0, .d (eS a0)), (1, .d (eS a1)), (2, .d (eB a2))] = some (.d (eApiSpan (ApiSpan.mk a0 a1 a2))) := by rfl
theorem cb44 : callable Tryd.prog 44 = true := by kernel_rfl
theorem bd67_0_1 (a0 : Int) (a1 : ApiSpan) : abuild Tryd.prog 67 [(0, .d (eI a0)), (1, .d (eApiSpan a1))] = some (.d (eApiLock (ApiLock.mk a0 a1 false))) := by rfl
theorem fo50_2 : FO Tryd.prog 50 2 48 2 := by unfold FO; kernel_rfl
theorem ts48 : tsize Tryd.prog 48 = some 1 := by kernel_rfl
theorem ta48 : tagg Tryd.prog 48 = some false := by kernel_rfl
theorem bd70_0_1 (a0 : Int) (a1 : ApiSpan) : abuild Tryd.prog 70 [(0, .d (eI a0)), (1, .d (eApiSpan a1))] = some (.d (eFanProbe (FanProbe.mk a0 a1))) := by rfl
theorem un48 : Tryd.prog.underlying 48 = some (.slice 70) := by kernel_rfl
theorem ei70 : EI Tryd.prog 70 4 48 (eFanProbe (FanProbe.mk (0 : Int) (ApiSpan.mk ([] : List UInt8) ([] : List UInt8) false))) := ⟨by kernel_rfl, by kernel_rfl, rfl, by decide, rfl, by decide⟩
theorem bc48 : byCount Tryd.prog 48 = false := by kernel_rfl
theorem cb30 : callable Tryd.prog 30 = true := by kernel_rfl
theorem cb10 : callable Tryd.prog 10 = true := by kernel_rfl
theorem ts63 : tsize Tryd.prog 63 = some 9 := by kernel_rfl
theorem fo63_1 : FO Tryd.prog 63 1 3 1 := by unfold FO; kernel_rfl
theorem fo65_1 : FO Tryd.prog 65 1 9 1 := by unfold FO; kernel_rfl
theorem cb6 : callable Tryd.prog 6 = true := by kernel_rfl
theorem fo26_0 : FO Tryd.prog 26 0 9 0 := by unfold FO; kernel_rfl
theorem cb15 : callable Tryd.prog 15 = true := by kernel_rfl
theorem cb61 : callable Tryd.prog 61 = true := by kernel_rfl
theorem cb48 : callable Tryd.prog 48 = true := by kernel_rfl
theorem cb33 : callable Tryd.prog 33 = true := by kernel_rfl
theorem cb16 : callable Tryd.prog 16 = true := by kernel_rfl
theorem cb34 : callable Tryd.prog 34 = true := by kernel_rfl
theorem cb17 : callable Tryd.prog 17 = true := by kernel_rfl
theorem cb35 : callable Tryd.prog 35 = true := by kernel_rfl
theorem cb18 : callable Tryd.prog 18 = true := by kernel_rfl
theorem cb20 : callable Tryd.prog 20 = true := by kernel_rfl
theorem cb19 : callable Tryd.prog 19 = true := by kernel_rfl
theorem fo42_0 : FO Tryd.prog 42 0 9 0 := by unfold FO; kernel_rfl
theorem bc23 : byCount Tryd.prog 23 = false := by kernel_rfl
theorem cb36 : callable Tryd.prog 36 = true := by kernel_rfl
theorem cb21 : callable Tryd.prog 21 = true := by kernel_rfl
theorem cb7 : callable Tryd.prog 7 = true := by kernel_rfl
theorem bc24 : byCount Tryd.prog 24 = false := by kernel_rfl
theorem cb8 : callable Tryd.prog 8 = true := by kernel_rfl
theorem bd36_ : abuild Tryd.prog 36 [] = some (.d (.agg [.nils])) := by rfl
theorem bd38_0_1 (a0 : Int) (a1 : Nat) : abuild Tryd.prog 38 [(0, .d (eI a0)), (1, .d (D.adr a1))] = some (.d (eGranarylaw19Tree (Granarylaw19Tree.mk a0 a1))) := by rfl
theorem un39 : Tryd.prog.underlying 39 = some (.slice 38) := by kernel_rfl
theorem ei38 : EI Tryd.prog 38 2 16 (.agg [(eI (0 : Int)), .nilp]) := ⟨by kernel_rfl, by kernel_rfl, rfl, by decide, rfl, by decide⟩
theorem bc39 : byCount Tryd.prog 39 = false := by kernel_rfl
theorem ts38 : tsize Tryd.prog 38 = some 2 := by kernel_rfl
theorem fo38_0 : FO Tryd.prog 38 0 3 0 := by unfold FO; kernel_rfl
theorem fo38_1 : FO Tryd.prog 38 1 33 1 := by unfold FO; kernel_rfl
theorem ts33 : tsize Tryd.prog 33 = some 1 := by kernel_rfl
theorem ta33 : tagg Tryd.prog 33 = some false := by kernel_rfl
theorem fo63_2 : FO Tryd.prog 63 2 61 2 := by unfold FO; kernel_rfl
theorem fo61_1 : FO Tryd.prog 61 1 3 1 := by unfold FO; kernel_rfl
theorem fo36_0 : FO Tryd.prog 36 0 34 0 := by unfold FO; kernel_rfl
theorem ts34 : tsize Tryd.prog 34 = some 1 := by kernel_rfl
theorem ta34 : tagg Tryd.prog 34 = some false := by kernel_rfl
theorem un34 : Tryd.prog.underlying 34 = some (.slice 103) := by kernel_rfl
theorem ts103 : tsize Tryd.prog 103 = some 6 := by kernel_rfl
theorem fo103_0 : FO Tryd.prog 103 0 9 0 := by unfold FO; kernel_rfl
theorem bd103_0 (a0 : List UInt8) : abuild Tryd.prog 103 [(0, .d (eS a0))] = some (.d (eApiEntry (ApiEntry.mk a0 false ([] : List UInt8) (0 : UInt64) false ([] : List UInt8)))) := by rfl
theorem zo103 : zeroOf Tryd.prog 103 = some (eApiEntry (ApiEntry.mk ([] : List UInt8) false ([] : List UInt8) (0 : UInt64) false ([] : List UInt8))) := by kernel_rfl
theorem fo103_1 : FO Tryd.prog 103 1 4 1 := by unfold FO; kernel_rfl
theorem fo103_2 : FO Tryd.prog 103 2 9 2 := by unfold FO; kernel_rfl
theorem bd133_0_1 (a0 : Bool) (a1 : List UInt8) : abuild Tryd.prog 133 [(0, .d (eB a0)), (1, .d (eS a1))] = some (.d (eGranaryref09Val (Granaryref09Val.mk a0 a1))) := by rfl
theorem zo133 : zeroOf Tryd.prog 133 = some (eGranaryref09Val (Granaryref09Val.mk false ([] : List UInt8))) := by kernel_rfl
theorem ts133 : tsize Tryd.prog 133 = some 2 := by kernel_rfl
theorem fo103_4 : FO Tryd.prog 103 4 4 4 := by unfold FO; kernel_rfl
theorem fo103_5 : FO Tryd.prog 103 5 9 5 := by unfold FO; kernel_rfl
theorem fo103_3 : FO Tryd.prog 103 3 59 3 := by unfold FO; kernel_rfl
theorem fo61_3 : FO Tryd.prog 61 3 59 3 := by unfold FO; kernel_rfl
theorem ta133 : tagg Tryd.prog 133 = some true := by kernel_rfl
theorem fo61_4 : FO Tryd.prog 61 4 9 4 := by unfold FO; kernel_rfl
theorem bd133_ : abuild Tryd.prog 133 [] = some (.d (eGranaryref09Val (Granaryref09Val.mk false ([] : List UInt8)))) := by rfl
theorem fo133_0 : FO Tryd.prog 133 0 4 0 := by unfold FO; kernel_rfl
theorem fo61_5 : FO Tryd.prog 61 5 3 5 := by unfold FO; kernel_rfl
theorem fo133_1 : FO Tryd.prog 133 1 9 1 := by unfold FO; kernel_rfl
theorem fo61_6 : FO Tryd.prog 61 6 59 6 := by unfold FO; kernel_rfl
theorem cb60 : callable Tryd.prog 60 = true := by kernel_rfl
theorem bd103_0_1_3 (a0 : List UInt8) (a1 : Bool) (a3 : UInt64) : abuild Tryd.prog 103 [(0, .d (eS a0)), (1, .d (eB a1)), (3, .d (eU64 a3))] = some (.d (eApiEntry (ApiEntry.mk a0 a1 ([] : List UInt8) a3 false ([] : List UInt8)))) := by rfl
theorem ta103 : tagg Tryd.prog 103 = some true := by kernel_rfl
theorem cb45 : callable Tryd.prog 45 = true := by kernel_rfl
theorem cb46 : callable Tryd.prog 46 = true := by kernel_rfl
theorem ei103 : EI Tryd.prog 103 6 72 (eApiEntry (ApiEntry.mk ([] : List UInt8) false ([] : List UInt8) (0 : UInt64) false ([] : List UInt8))) := ⟨by kernel_rfl, by kernel_rfl, rfl, by decide, rfl, by decide⟩
theorem bc34 : byCount Tryd.prog 34 = false := by kernel_rfl
theorem cb31 : callable Tryd.prog 31 = true := by kernel_rfl
theorem mixO : Tryd.prog.follows .mixedOrders = true := by kernel_rfl
theorem cb11 : callable Tryd.prog 11 = true := by kernel_rfl
theorem fz36_0 : afieldAddr Tryd.prog 36 0 (.ref 0 0 0) = some (.ref 0 0 0) := by kernel_rfl
theorem un56 : Tryd.prog.underlying 56 = some (.slice 34) := by kernel_rfl
theorem ei34 : EI Tryd.prog 34 1 24 .nils := ⟨by kernel_rfl, by kernel_rfl, rfl, by decide, rfl, by decide⟩
theorem bc56 : byCount Tryd.prog 56 = false := by kernel_rfl
theorem ut103 : Tryd.prog.underlying 103 = some (.struct (Tryd.prog.fieldsOf 103)) := by kernel_rfl
theorem fl103 : (Tryd.prog.fieldsOf 103).toList.map fsig = [(false, 9, 0), (false, 4, 1), (false, 9, 2), (false, 59, 3), (false, 4, 4), (false, 9, 5)] := by kernel_rfl
theorem sh103 : Tryd.prog.stoodInHeld 103 = false := by kernel_rfl
theorem eg103 : Tryd.prog.eqGuardType Tryd.prog.depth 103 = false := by kernel_rfl
theorem un4 : Tryd.prog.underlying 4 = some (.bool) := by kernel_rfl
theorem eqApiEntry_val103 (x y : ApiEntry) (d : Nat) : pr Tryd.prog (Op.equalIn (d + 2) 103 (.agg #[.string ⟨x.Key.toArray⟩, .bool x.Has, .string ⟨x.Val.toArray⟩, .int .u64 (x.Txn.toNat : Int), .bool x.New, .string ⟨x.NewVal.toArray⟩]) (.agg #[.string ⟨y.Key.toArray⟩, .bool y.Has, .string ⟨y.Val.toArray⟩, .int .u64 (y.Txn.toNat : Int), .bool y.New, .string ⟨y.NewVal.toArray⟩])) = some (eqApiEntry x y) := eq_struct (d := d + 1) ut103 fl103 sh103 (.cons (part1 ta9 rfl) (part1 ta9 rfl) (eq_str (d := d + 0) un9 _ _) (.cons (part1 ta4 rfl) (part1 ta4 rfl) (eq_bool (d := d + 0) un4 _ _) (.cons (part1 ta9 rfl) (part1 ta9 rfl) (eq_str (d := d + 0) un9 _ _) (.cons (part1 ta59 rfl) (part1 ta59 rfl) (eq_u64 (d := d + 0) un59 _ _) (.cons (part1 ta4 rfl) (part1 ta4 rfl) (eq_bool (d := d + 0) un4 _ _) (.cons (part1 ta9 rfl) (part1 ta9 rfl) (eq_str (d := d + 0) un9 _ _) .nil))))))
theorem eqApiEntry_neq_103 (X Y : Operand) (x y : ApiEntry) : abinOp Tryd.prog .neq 103 X Y (.d (eApiEntry x)) (.d (eApiEntry y)) = some (.d (eB (!eqApiEntry x y))) := b_struct_neq (L := 2) rfl rfl eg103 (by decide) (eqApiEntry_val103 x y)
theorem cb13 : callable Tryd.prog 13 = true := by kernel_rfl
end Lv
