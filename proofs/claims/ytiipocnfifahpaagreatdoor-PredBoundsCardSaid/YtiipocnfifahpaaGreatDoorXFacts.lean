/- Part of the proof of a law: facts of the program. -/
import Derived.Test.YtiipocnfifahpaaGreatDoorXTypes
import Derived.Test.YtiipocnfifahpaaGreatDoorProg
import Derived.KernelRfl
/- Part of the proof of a law: facts of the program. -/
namespace Lv
open Go Go.Proofs
set_option linter.unusedVariables false
set_option linter.unusedSimpArgs false
set_option linter.unusedSectionVars false
set_option maxRecDepth 100000
variable [BaseTab]
theorem bd41_0_1 (a0 : Int) (a1 : UInt64) : abuild Tryz.prog 41 [(0, .d (eI a0)), (1, .d (eU64 a1))] = some (.d (eApiValue (ApiValue.mk a0 a1 ([] : List UInt8)))) := by rfl
theorem bd43_0_1_2_3 (a0 : Int) (a1 : Int) (a2 : Int) (a3 : ApiValue) : abuild Tryz.prog 43 [(0, .d (eI a0)), (1, .d (eI a1)), (2, .d (eI a2)), (3, .d (eApiValue a3))] = some (.d (ePredNode (PredNode.mk a0 a1 a2 a3))) := by rfl
theorem bd43_0 (a0 : Int) : abuild Tryz.prog 43 [(0, .d (eI a0))] = some (.d (ePredNode (PredNode.mk a0 (0 : Int) (0 : Int) (ApiValue.mk (0 : Int) (0 : UInt64) ([] : List UInt8))))) := by rfl
theorem un23 : Tryz.prog.underlying 23 = some (.slice 43) := by kernel_rfl
theorem ei43 : EI Tryz.prog 43 6 56 (ePredNode (PredNode.mk (0 : Int) (0 : Int) (0 : Int) (ApiValue.mk (0 : Int) (0 : UInt64) ([] : List UInt8)))) := ⟨by kernel_rfl, by kernel_rfl, rfl, by decide, rfl, by decide⟩
theorem bd41_0 (a0 : Int) : abuild Tryz.prog 41 [(0, .d (eI a0))] = some (.d (eApiValue (ApiValue.mk a0 (0 : UInt64) ([] : List UInt8)))) := by rfl
theorem bd50_0_1_4 (a0 : List UInt8) (a1 : Int) (a4 : ApiValue) : abuild Tryz.prog 50 [(0, .d (eS a0)), (1, .d (eI a1)), (4, .d (eApiValue a4))] = some (.d (eApiColumn (ApiColumn.mk a0 a1 (0 : Int) false a4))) := by rfl
theorem un22 : Tryz.prog.underlying 22 = some (.slice 50) := by kernel_rfl
theorem ei50 : EI Tryz.prog 50 7 72 (eApiColumn (ApiColumn.mk ([] : List UInt8) (0 : Int) (0 : Int) false (ApiValue.mk (0 : Int) (0 : UInt64) ([] : List UInt8)))) := ⟨by kernel_rfl, by kernel_rfl, rfl, by decide, rfl, by decide⟩
theorem bd52_0 (a0 : Int) : abuild Tryz.prog 52 [(0, .d (eI a0))] = some (.d (eApiPart (ApiPart.mk a0 false))) := by rfl
theorem un25 : Tryz.prog.underlying 25 = some (.slice 52) := by kernel_rfl
theorem ei52 : EI Tryz.prog 52 2 16 (eApiPart (ApiPart.mk (0 : Int) false)) := ⟨by kernel_rfl, by kernel_rfl, rfl, by decide, rfl, by decide⟩
theorem zo33 : zeroOf Tryz.prog 33 = some (eApiSpan (ApiSpan.mk ([] : List UInt8) ([] : List UInt8) false)) := by kernel_rfl
theorem ts43 : tsize Tryz.prog 43 = some 6 := by kernel_rfl
theorem ta43 : tagg Tryz.prog 43 = some true := by kernel_rfl
theorem zo43 : zeroOf Tryz.prog 43 = some (ePredNode (PredNode.mk (0 : Int) (0 : Int) (0 : Int) (ApiValue.mk (0 : Int) (0 : UInt64) ([] : List UInt8)))) := by kernel_rfl
theorem fo43_0 : FO Tryz.prog 43 0 3 0 := by unfold FO; kernel_rfl
theorem ts3 : tsize Tryz.prog 3 = some 1 := by kernel_rfl
theorem ta3 : tagg Tryz.prog 3 = some false := by kernel_rfl
theorem cb16 : callable Tryz.prog 16 = true := by kernel_rfl
theorem bc23 : byCount Tryz.prog 23 = false := by kernel_rfl
theorem cb24 : callable Tryz.prog 24 = true := by kernel_rfl
theorem ts52 : tsize Tryz.prog 52 = some 2 := by kernel_rfl
theorem ta52 : tagg Tryz.prog 52 = some true := by kernel_rfl
theorem zo52 : zeroOf Tryz.prog 52 = some (eApiPart (ApiPart.mk (0 : Int) false)) := by kernel_rfl
theorem fo52_0 : FO Tryz.prog 52 0 3 0 := by unfold FO; kernel_rfl
theorem fo43_1 : FO Tryz.prog 43 1 3 1 := by unfold FO; kernel_rfl
theorem fo43_2 : FO Tryz.prog 43 2 3 2 := by unfold FO; kernel_rfl
theorem cb27 : callable Tryz.prog 27 = true := by kernel_rfl
theorem cb26 : callable Tryz.prog 26 = true := by kernel_rfl
theorem cb25 : callable Tryz.prog 25 = true := by kernel_rfl
theorem fo43_3 : FO Tryz.prog 43 3 41 3 := by unfold FO; kernel_rfl
theorem ts41 : tsize Tryz.prog 41 = some 3 := by kernel_rfl
theorem ta41 : tagg Tryz.prog 41 = some true := by kernel_rfl
theorem fo52_1 : FO Tryz.prog 52 1 4 1 := by unfold FO; kernel_rfl
theorem ts4 : tsize Tryz.prog 4 = some 1 := by kernel_rfl
theorem ta4 : tagg Tryz.prog 4 = some false := by kernel_rfl
theorem un24 : Tryz.prog.underlying 24 = some (.slice 41) := by kernel_rfl
theorem ei41 : EI Tryz.prog 41 3 32 (eApiValue (ApiValue.mk (0 : Int) (0 : UInt64) ([] : List UInt8))) := ⟨by kernel_rfl, by kernel_rfl, rfl, by decide, rfl, by decide⟩
theorem un63 : Tryz.prog.underlying 63 = some (.slice 4) := by kernel_rfl
theorem ei4 : EI Tryz.prog 4 1 1 (eB false) := ⟨by kernel_rfl, by kernel_rfl, rfl, by decide, rfl, by decide⟩
theorem fo41_0 : FO Tryz.prog 41 0 3 0 := by unfold FO; kernel_rfl
theorem bd41_ : abuild Tryz.prog 41 [] = some (.d (eApiValue (ApiValue.mk (0 : Int) (0 : UInt64) ([] : List UInt8)))) := by rfl
theorem ut41 : Tryz.prog.underlying 41 = some (.struct (Tryz.prog.fieldsOf 41)) := by kernel_rfl
theorem fl41 : (Tryz.prog.fieldsOf 41).toList.map fsig = [(false, 3, 0), (false, 39, 1), (false, 9, 2)] := by kernel_rfl
theorem sh41 : Tryz.prog.stoodInHeld 41 = false := by kernel_rfl
theorem eg41 : Tryz.prog.eqGuardType Tryz.prog.depth 41 = false := by kernel_rfl
theorem ta9 : tagg Tryz.prog 9 = some false := by kernel_rfl
theorem un9 : Tryz.prog.underlying 9 = some (.string) := by kernel_rfl
theorem ta39 : tagg Tryz.prog 39 = some false := by kernel_rfl
theorem un39 : Tryz.prog.underlying 39 = some (.int .u64) := by kernel_rfl
theorem un3 : Tryz.prog.underlying 3 = some (.int .i64) := by kernel_rfl
theorem eqApiValue_val41 (x y : ApiValue) (d : Nat) : pr Tryz.prog (Op.equalIn (d + 2) 41 (.agg #[.int .i64 x.Kind, .int .u64 (x.N.toNat : Int), .string ⟨x.S.toArray⟩]) (.agg #[.int .i64 y.Kind, .int .u64 (y.N.toNat : Int), .string ⟨y.S.toArray⟩])) = some (eqApiValue x y) := eq_struct (d := d + 1) ut41 fl41 sh41 (.cons (part1 ta3 rfl) (part1 ta3 rfl) (eq_i64 (d := d + 0) un3 _ _) (.cons (part1 ta39 rfl) (part1 ta39 rfl) (eq_u64 (d := d + 0) un39 _ _) (.cons (part1 ta9 rfl) (part1 ta9 rfl) (eq_str (d := d + 0) un9 _ _) .nil)))
theorem eqApiValue_eql_41 (X Y : Operand) (x y : ApiValue) : abinOp Tryz.prog .eql 41 X Y (.d (eApiValue x)) (.d (eApiValue y)) = some (.d (eB (eqApiValue x y))) := b_struct_eql (L := 2) rfl rfl eg41 (by decide) (eqApiValue_val41 x y)
theorem fo41_2 : FO Tryz.prog 41 2 9 2 := by unfold FO; kernel_rfl
theorem ts9 : tsize Tryz.prog 9 = some 1 := by kernel_rfl
theorem fo41_1 : FO Tryz.prog 41 1 39 1 := by unfold FO; kernel_rfl
theorem ts39 : tsize Tryz.prog 39 = some 1 := by kernel_rfl
theorem cb34 : callable Tryz.prog 34 = true := by kernel_rfl
theorem cb18 : callable Tryz.prog 18 = true := by kernel_rfl
theorem cb54 : callable Tryz.prog 54 = true := by kernel_rfl
theorem cb69 : callable Tryz.prog 69 = true := by kernel_rfl
theorem cb53 : callable Tryz.prog 53 = true := by kernel_rfl
theorem zo41 : zeroOf Tryz.prog 41 = some (eApiValue (ApiValue.mk (0 : Int) (0 : UInt64) ([] : List UInt8))) := by kernel_rfl
theorem zo113 : zeroOf Tryz.prog 113 = some (.agg [.nils]) := by kernel_rfl
theorem un95 : Tryz.prog.underlying 95 = some (.slice 5) := by kernel_rfl
theorem ei5 : EI Tryz.prog 5 1 1 (eU8 (0 : UInt8)) := ⟨by kernel_rfl, by kernel_rfl, rfl, by decide, rfl, by decide⟩
theorem un131 : Tryz.prog.underlying 131 = some (.pointer 113) := by kernel_rfl
theorem fo113_0 : FO Tryz.prog 113 0 95 0 := by unfold FO; kernel_rfl
theorem ts95 : tsize Tryz.prog 95 = some 1 := by kernel_rfl
theorem ta95 : tagg Tryz.prog 95 = some false := by kernel_rfl
theorem bc95 : byCount Tryz.prog 95 = false := by kernel_rfl
theorem cb88 : callable Tryz.prog 88 = true := by kernel_rfl
theorem cb70 : callable Tryz.prog 70 = true := by kernel_rfl
theorem un108 : Tryz.prog.underlying 108 = some (.int .u32) := by kernel_rfl
theorem un145 : Tryz.prog.underlying 145 = some (.int .u16) := by kernel_rfl
theorem un5 : Tryz.prog.underlying 5 = some (.int .u8) := by kernel_rfl
theorem cb96 : callable Tryz.prog 96 = true := by kernel_rfl
theorem cb89 : callable Tryz.prog 89 = true := by kernel_rfl
theorem cb71 : callable Tryz.prog 71 = true := by kernel_rfl
theorem cb72 : callable Tryz.prog 72 = true := by kernel_rfl
theorem cb73 : callable Tryz.prog 73 = true := by kernel_rfl
theorem cb74 : callable Tryz.prog 74 = true := by kernel_rfl
theorem bc9 : byCount Tryz.prog 9 = false := by kernel_rfl
theorem ts5 : tsize Tryz.prog 5 = some 1 := by kernel_rfl
theorem ta5 : tagg Tryz.prog 5 = some false := by kernel_rfl
theorem cb75 : callable Tryz.prog 75 = true := by kernel_rfl
theorem cb55 : callable Tryz.prog 55 = true := by kernel_rfl
theorem cb43 : callable Tryz.prog 43 = true := by kernel_rfl
theorem cb28 : callable Tryz.prog 28 = true := by kernel_rfl
theorem cb45 : callable Tryz.prog 45 = true := by kernel_rfl
theorem cb44 : callable Tryz.prog 44 = true := by kernel_rfl
theorem bd33_0_1 (a0 : List UInt8) (a1 : List UInt8) : abuild Tryz.prog 33 [(0, .d (eS a0)), (1, .d (eS a1))] = some (.d (eApiSpan (ApiSpan.mk a0 a1 false))) := by rfl
theorem ts33 : tsize Tryz.prog 33 = some 3 := by kernel_rfl
theorem un4 : Tryz.prog.underlying 4 = some (.bool) := by kernel_rfl
theorem fo33_1 : FO Tryz.prog 33 1 9 1 := by unfold FO; kernel_rfl
theorem fo33_0 : FO Tryz.prog 33 0 9 0 := by unfold FO; kernel_rfl
theorem ta33 : tagg Tryz.prog 33 = some true := by kernel_rfl
theorem cb29 : callable Tryz.prog 29 = true := by kernel_rfl
theorem bd33_0_1_2 (a0 : List UInt8) (a1 : List UInt8) (a2 : Bool) : abuild Tryz.prog 33 [(0, .d (eS a0)), (1, .d (eS a1)), (2, .d (eB a2))] = some (.d (eApiSpan (ApiSpan.mk a0 a1 a2))) := by rfl
theorem cb30 : callable Tryz.prog 30 = true := by kernel_rfl
theorem cb12 : callable Tryz.prog 12 = true := by kernel_rfl
theorem un45 : Tryz.prog.underlying 45 = some (.slice 3) := by kernel_rfl
theorem ut43 : Tryz.prog.underlying 43 = some (.struct (Tryz.prog.fieldsOf 43)) := by kernel_rfl
theorem fl43 : (Tryz.prog.fieldsOf 43).toList.map fsig = [(false, 3, 0), (false, 3, 1), (false, 3, 2), (false, 41, 3)] := by kernel_rfl
theorem sh43 : Tryz.prog.stoodInHeld 43 = false := by kernel_rfl
theorem eg43 : Tryz.prog.eqGuardType Tryz.prog.depth 43 = false := by kernel_rfl
theorem eqPredNode_val43 (x y : PredNode) (d : Nat) : pr Tryz.prog (Op.equalIn (d + 3) 43 (.agg #[.int .i64 x.Kind, .int .i64 x.Col, .int .i64 x.Op, .int .i64 x.Val.Kind, .int .u64 (x.Val.N.toNat : Int), .string ⟨x.Val.S.toArray⟩]) (.agg #[.int .i64 y.Kind, .int .i64 y.Col, .int .i64 y.Op, .int .i64 y.Val.Kind, .int .u64 (y.Val.N.toNat : Int), .string ⟨y.Val.S.toArray⟩])) = some (eqPredNode x y) := eq_struct (d := d + 2) ut43 fl43 sh43 (.cons (part1 ta3 rfl) (part1 ta3 rfl) (eq_i64 (d := d + 1) un3 _ _) (.cons (part1 ta3 rfl) (part1 ta3 rfl) (eq_i64 (d := d + 1) un3 _ _) (.cons (part1 ta3 rfl) (part1 ta3 rfl) (eq_i64 (d := d + 1) un3 _ _) (.cons (partA ta41 ts41 rfl) (partA ta41 ts41 rfl) (eqApiValue_val41 x.Val y.Val (d + 0)) .nil))))
theorem eqPredNode_eql_43 (X Y : Operand) (x y : PredNode) : abinOp Tryz.prog .eql 43 X Y (.d (ePredNode x)) (.d (ePredNode y)) = some (.d (eB (eqPredNode x y))) := b_struct_eql (L := 3) rfl rfl eg43 (by decide) (eqPredNode_val43 x y)
theorem cb17 : callable Tryz.prog 17 = true := by kernel_rfl
theorem ts50 : tsize Tryz.prog 50 = some 7 := by kernel_rfl
theorem fo50_1 : FO Tryz.prog 50 1 3 1 := by unfold FO; kernel_rfl
theorem ei3 : EI Tryz.prog 3 1 8 (eI (0 : Int)) := ⟨by kernel_rfl, by kernel_rfl, rfl, by decide, rfl, by decide⟩
theorem bc45 : byCount Tryz.prog 45 = false := by kernel_rfl
theorem cb8 : callable Tryz.prog 8 = true := by kernel_rfl
theorem zo61 : zeroOf Tryz.prog 61 = some (.agg [.nilf, .nilf, .nilf, .nilf, .nilf, .nilf, .nilf]) := by kernel_rfl
theorem bd61_1_2_3_4_5_6 : abuild Tryz.prog 61 [(1, .fn (.func 37) [] []), (2, .fn (.func 38) [] []), (3, .fn (.func 39) [] []), (4, .fn (.func 40) [] []), (5, .fn (.func 41) [] []), (6, .fn (.func 42) [] [])] = some (.agg [.d .nilf, .fn (.func 37) [] [], .fn (.func 38) [] [], .fn (.func 39) [] [], .fn (.func 40) [] [], .fn (.func 41) [] [], .fn (.func 42) [] []]) := by rfl
theorem ts61 : tsize Tryz.prog 61 = some 7 := by kernel_rfl
theorem ta61 : tagg Tryz.prog 61 = some true := by kernel_rfl
theorem cb23 : callable Tryz.prog 23 = true := by kernel_rfl
theorem un61 : Tryz.prog.underlying 61 = some (.array 7 60) := by kernel_rfl
theorem ts60 : tsize Tryz.prog 60 = some 1 := by kernel_rfl
theorem ta60 : tagg Tryz.prog 60 = some false := by kernel_rfl
theorem cb39 : callable Tryz.prog 39 = true := by kernel_rfl
theorem bc63 : byCount Tryz.prog 63 = false := by kernel_rfl
theorem cb82 : callable Tryz.prog 82 = true := by kernel_rfl
theorem cb83 : callable Tryz.prog 83 = true := by kernel_rfl
theorem un2 : Tryz.prog.underlying 2 = some (.int .i64) := by kernel_rfl
theorem cb93 : callable Tryz.prog 93 = true := by kernel_rfl
theorem cb84 : callable Tryz.prog 84 = true := by kernel_rfl
theorem cb94 : callable Tryz.prog 94 = true := by kernel_rfl
theorem cb86 : callable Tryz.prog 86 = true := by kernel_rfl
theorem cb87 : callable Tryz.prog 87 = true := by kernel_rfl
theorem cb85 : callable Tryz.prog 85 = true := by kernel_rfl
theorem cb68 : callable Tryz.prog 68 = true := by kernel_rfl
theorem cb52 : callable Tryz.prog 52 = true := by kernel_rfl
theorem cb38 : callable Tryz.prog 38 = true := by kernel_rfl
theorem cb37 : callable Tryz.prog 37 = true := by kernel_rfl
theorem cb42 : callable Tryz.prog 42 = true := by kernel_rfl
theorem cb41 : callable Tryz.prog 41 = true := by kernel_rfl
theorem cb40 : callable Tryz.prog 40 = true := by kernel_rfl
theorem cb11 : callable Tryz.prog 11 = true := by kernel_rfl
theorem cb32 : callable Tryz.prog 32 = true := by kernel_rfl
theorem cb33 : callable Tryz.prog 33 = true := by kernel_rfl
theorem cb15 : callable Tryz.prog 15 = true := by kernel_rfl
theorem cb7 : callable Tryz.prog 7 = true := by kernel_rfl
theorem cb20 : callable Tryz.prog 20 = true := by kernel_rfl
theorem cb19 : callable Tryz.prog 19 = true := by kernel_rfl
theorem cb9 : callable Tryz.prog 9 = true := by kernel_rfl
theorem ta50 : tagg Tryz.prog 50 = some true := by kernel_rfl
theorem fo50_0 : FO Tryz.prog 50 0 9 0 := by unfold FO; kernel_rfl
theorem cb50 : callable Tryz.prog 50 = true := by kernel_rfl
theorem fo50_2 : FO Tryz.prog 50 2 3 2 := by unfold FO; kernel_rfl
theorem fo50_4 : FO Tryz.prog 50 4 41 4 := by unfold FO; kernel_rfl
theorem cb51 : callable Tryz.prog 51 = true := by kernel_rfl
theorem cb36 : callable Tryz.prog 36 = true := by kernel_rfl
theorem fo50_3 : FO Tryz.prog 50 3 4 3 := by unfold FO; kernel_rfl
theorem cb22 : callable Tryz.prog 22 = true := by kernel_rfl
theorem cb35 : callable Tryz.prog 35 = true := by kernel_rfl
theorem cb21 : callable Tryz.prog 21 = true := by kernel_rfl
theorem cb10 : callable Tryz.prog 10 = true := by kernel_rfl
theorem bd75_1 (a1 : List ApiPart) : abuild Tryz.prog 75 [(1, .d ((eL 2 eApiPart) a1))] = some (.d (.agg [(eS ([] : List UInt8)), ((eL 2 eApiPart) a1), .nils, (eB false), (eB false), (eI (0 : Int))])) := by rfl
theorem fo75_1 : FO Tryz.prog 75 1 25 1 := by unfold FO; kernel_rfl
theorem ts25 : tsize Tryz.prog 25 = some 1 := by kernel_rfl
theorem ta25 : tagg Tryz.prog 25 = some false := by kernel_rfl
theorem bc24 : byCount Tryz.prog 24 = false := by kernel_rfl
theorem bd137_ : abuild Tryz.prog 137 [] = some (.d (.agg [.nils])) := by rfl
theorem fo137_0 : FO Tryz.prog 137 0 95 0 := by unfold FO; kernel_rfl
theorem cb91 : callable Tryz.prog 91 = true := by kernel_rfl
theorem cb76 : callable Tryz.prog 76 = true := by kernel_rfl
theorem cb56 : callable Tryz.prog 56 = true := by kernel_rfl
theorem cb46 : callable Tryz.prog 46 = true := by kernel_rfl
theorem cb31 : callable Tryz.prog 31 = true := by kernel_rfl
theorem cb13 : callable Tryz.prog 13 = true := by kernel_rfl
theorem fo33_2 : FO Tryz.prog 33 2 4 2 := by unfold FO; kernel_rfl
theorem cb14 : callable Tryz.prog 14 = true := by kernel_rfl
end Lv
