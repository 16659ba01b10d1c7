/- Part of the proof of a law: facts of the program. -/
import Derived.Test.YtjnpmmiacggffaaGreatDoorXTypes
import Derived.Test.YtjnpmmiacggffaaGreatDoorProg
import Derived.KernelRfl
/- Part of the proof of a law: facts of the program. -/
namespace Lv
open Go Go.Proofs
set_option linter.unusedVariables false
set_option linter.unusedSimpArgs false
set_option linter.unusedSectionVars false
set_option maxRecDepth 100000
variable [BaseTab]
theorem bd74_0 (a0 : Int) : abuild Tryz.prog 74 [(0, .d (eI a0))] = some (.d (eApiValue (ApiValue.mk a0 (0 : UInt64) ([] : List UInt8)))) := by rfl
theorem bd76_0_1_4 (a0 : List UInt8) (a1 : Int) (a4 : ApiValue) : abuild Tryz.prog 76 [(0, .d (eS a0)), (1, .d (eI a1)), (4, .d (eApiValue a4))] = some (.d (eApiColumn (ApiColumn.mk a0 a1 (0 : Int) false a4))) := by rfl
theorem un22 : Tryz.prog.underlying 22 = some (.slice 76) := by kernel_rfl
theorem ei76 : EI Tryz.prog 76 7 72 (eApiColumn (ApiColumn.mk ([] : List UInt8) (0 : Int) (0 : Int) false (ApiValue.mk (0 : Int) (0 : UInt64) ([] : List UInt8)))) := ⟨by kernel_rfl, by kernel_rfl, rfl, by decide, rfl, by decide⟩
theorem un23 : Tryz.prog.underlying 23 = some (.slice 3) := by kernel_rfl
theorem ei3 : EI Tryz.prog 3 1 8 (eI (0 : Int)) := ⟨by kernel_rfl, by kernel_rfl, rfl, by decide, rfl, by decide⟩
theorem bd26_0_1_2_4 (a0 : List UInt8) (a4 : Int) : abuild Tryz.prog 26 [(0, .d (eS a0)), (1, .slc 0 7 0 ([(ApiColumn.mk ([105, 100] : List UInt8) (1 : Int) (0 : Int) false (ApiValue.mk (1 : Int) (0 : UInt64) ([] : List UInt8))), (ApiColumn.mk ([110] : List UInt8) (1 : Int) (0 : Int) false (ApiValue.mk (1 : Int) (0 : UInt64) ([] : List UInt8)))].length) none), (2, .slc 1 1 0 ([(0 : Int)].length) none), (4, .d (eI a4))] = some (.agg [.d (eS a0), .slc 0 7 0 ([(ApiColumn.mk ([105, 100] : List UInt8) (1 : Int) (0 : Int) false (ApiValue.mk (1 : Int) (0 : UInt64) ([] : List UInt8))), (ApiColumn.mk ([110] : List UInt8) (1 : Int) (0 : Int) false (ApiValue.mk (1 : Int) (0 : UInt64) ([] : List UInt8)))].length) none, .slc 1 1 0 ([(0 : Int)].length) none, .d .nils, .d (eI a4)]) := by rfl
theorem zo26 : zeroOf Tryz.prog 26 = some (.agg [(eS ([] : List UInt8)), .nils, .nils, .nils, (eI (0 : Int))]) := by kernel_rfl
theorem ts26 : tsize Tryz.prog 26 = some 5 := by kernel_rfl
theorem bd78_0 (a0 : Int) : abuild Tryz.prog 78 [(0, .d (eI a0))] = some (.d (eApiPart (ApiPart.mk a0 false))) := by rfl
theorem un28 : Tryz.prog.underlying 28 = some (.slice 78) := by kernel_rfl
theorem ei78 : EI Tryz.prog 78 2 16 (eApiPart (ApiPart.mk (0 : Int) false)) := ⟨by kernel_rfl, by kernel_rfl, rfl, by decide, rfl, by decide⟩
theorem bd60_0_1_4_5 (a0 : List UInt8) (a4 : Bool) (a5 : Int) : abuild Tryz.prog 60 [(0, .d (eS a0)), (1, .slc 3 2 0 ([(ApiPart.mk (1 : Int) false)].length) none), (4, .d (eB a4)), (5, .d (eI a5))] = some (.agg [.d (eS a0), .slc 3 2 0 ([(ApiPart.mk (1 : Int) false)].length) none, .d .nils, .d (eB false), .d (eB a4), .d (eI a5)]) := by rfl
theorem un24 : Tryz.prog.underlying 24 = some (.slice 60) := by kernel_rfl
theorem ei60 : EI Tryz.prog 60 6 80 (.agg [(eS ([] : List UInt8)), .nils, .nils, (eB false), (eB false), (eI (0 : Int))]) := ⟨by kernel_rfl, by kernel_rfl, rfl, by decide, rfl, by decide⟩
theorem fo26_3 : FO Tryz.prog 26 3 24 3 := by unfold FO; kernel_rfl
theorem ts24 : tsize Tryz.prog 24 = some 1 := by kernel_rfl
theorem bd74_0_1 (a0 : Int) (a1 : UInt64) : abuild Tryz.prog 74 [(0, .d (eI a0)), (1, .d (eU64 a1))] = some (.d (eApiValue (ApiValue.mk a0 a1 ([] : List UInt8)))) := by rfl
theorem bd80_0_1_2_3 (a0 : Int) (a1 : Int) (a2 : Int) (a3 : ApiValue) : abuild Tryz.prog 80 [(0, .d (eI a0)), (1, .d (eI a1)), (2, .d (eI a2)), (3, .d (eApiValue a3))] = some (.d (ePredNode (PredNode.mk a0 a1 a2 a3))) := by rfl
theorem un27 : Tryz.prog.underlying 27 = some (.slice 80) := by kernel_rfl
theorem ei80 : EI Tryz.prog 80 6 56 (ePredNode (PredNode.mk (0 : Int) (0 : Int) (0 : Int) (ApiValue.mk (0 : Int) (0 : UInt64) ([] : List UInt8)))) := ⟨by kernel_rfl, by kernel_rfl, rfl, by decide, rfl, by decide⟩
theorem bd30_0_1_3 (a3 : Int) : abuild Tryz.prog 30 [(0, .slc 5 6 0 ([(PredNode.mk (2 : Int) (1 : Int) (3 : Int) (ApiValue.mk (1 : Int) (5 : UInt64) ([] : List UInt8)))].length) none), (1, .slc 6 1 0 ([(0 : Int)].length) none), (3, .d (eI a3))] = some (.agg [.slc 5 6 0 ([(PredNode.mk (2 : Int) (1 : Int) (3 : Int) (ApiValue.mk (1 : Int) (5 : UInt64) ([] : List UInt8)))].length) none, .slc 6 1 0 ([(0 : Int)].length) none, .d .nils, .d (eI a3)]) := by rfl
theorem zo30 : zeroOf Tryz.prog 30 = some (.agg [.nils, .nils, .nils, (eI (0 : Int))]) := by kernel_rfl
theorem ts30 : tsize Tryz.prog 30 = some 4 := by kernel_rfl
theorem ta26 : tagg Tryz.prog 26 = some true := by kernel_rfl
theorem ta30 : tagg Tryz.prog 30 = some true := by kernel_rfl
theorem zo50 : zeroOf Tryz.prog 50 = some (eApiSpan (ApiSpan.mk ([] : List UInt8) ([] : List UInt8) false)) := by kernel_rfl
theorem un9 : Tryz.prog.underlying 9 = some (.string) := by kernel_rfl
theorem un156 : Tryz.prog.underlying 156 = some (.slice 5) := by kernel_rfl
theorem un5 : Tryz.prog.underlying 5 = some (.int .u8) := by kernel_rfl
theorem ts5 : tsize Tryz.prog 5 = some 1 := by kernel_rfl
theorem ta5 : tagg Tryz.prog 5 = some false := by kernel_rfl
theorem cb72 : callable Tryz.prog 72 = true := by kernel_rfl
theorem bd50_0_1_2 (a0 : List UInt8) (a1 : List UInt8) (a2 : Bool) : abuild Tryz.prog 50 [(0, .d (eS a0)), (1, .d (eS a1)), (2, .d (eB a2))] = some (.d (eApiSpan (ApiSpan.mk a0 a1 a2))) := by rfl
theorem ts50 : tsize Tryz.prog 50 = some 3 := by kernel_rfl
theorem ta50 : tagg Tryz.prog 50 = some true := by kernel_rfl
theorem cb42 : callable Tryz.prog 42 = true := by kernel_rfl
theorem bd52_0_1_5 (a0 : Int) (a1 : ApiSpan) (a5 : Int) : abuild Tryz.prog 52 [(0, .d (eI a0)), (1, .d (eApiSpan a1)), (5, .d (eI a5))] = some (.d (ePlanPlan (PlanPlan.mk a0 a1 (0 : Int) false false a5))) := by rfl
theorem un41 : Tryz.prog.underlying 41 = some (.slice 52) := by kernel_rfl
theorem ei52 : EI Tryz.prog 52 8 72 (ePlanPlan (PlanPlan.mk (0 : Int) (ApiSpan.mk ([] : List UInt8) ([] : List UInt8) false) (0 : Int) false false (0 : Int))) := ⟨by kernel_rfl, by kernel_rfl, rfl, by decide, rfl, by decide⟩
theorem fo26_2 : FO Tryz.prog 26 2 23 2 := by unfold FO; kernel_rfl
theorem ts23 : tsize Tryz.prog 23 = some 1 := by kernel_rfl
theorem ta23 : tagg Tryz.prog 23 = some false := by kernel_rfl
theorem ts3 : tsize Tryz.prog 3 = some 1 := by kernel_rfl
theorem ta3 : tagg Tryz.prog 3 = some false := by kernel_rfl
theorem bc28 : byCount Tryz.prog 28 = false := by kernel_rfl
theorem bd52_0 (a0 : Int) : abuild Tryz.prog 52 [(0, .d (eI a0))] = some (.d (ePlanPlan (PlanPlan.mk a0 (ApiSpan.mk ([] : List UInt8) ([] : List UInt8) false) (0 : Int) false false (0 : Int)))) := by rfl
theorem zo52 : zeroOf Tryz.prog 52 = some (ePlanPlan (PlanPlan.mk (0 : Int) (ApiSpan.mk ([] : List UInt8) ([] : List UInt8) false) (0 : Int) false false (0 : Int))) := by kernel_rfl
theorem ts52 : tsize Tryz.prog 52 = some 8 := by kernel_rfl
theorem fo30_0 : FO Tryz.prog 30 0 27 0 := by unfold FO; kernel_rfl
theorem ts27 : tsize Tryz.prog 27 = some 1 := by kernel_rfl
theorem ta27 : tagg Tryz.prog 27 = some false := by kernel_rfl
theorem ts80 : tsize Tryz.prog 80 = some 6 := by kernel_rfl
theorem ta80 : tagg Tryz.prog 80 = some true := by kernel_rfl
theorem zo80 : zeroOf Tryz.prog 80 = some (ePredNode (PredNode.mk (0 : Int) (0 : Int) (0 : Int) (ApiValue.mk (0 : Int) (0 : UInt64) ([] : List UInt8)))) := by kernel_rfl
theorem fo80_0 : FO Tryz.prog 80 0 3 0 := by unfold FO; kernel_rfl
theorem cb57 : callable Tryz.prog 57 = true := by kernel_rfl
theorem bc27 : byCount Tryz.prog 27 = false := by kernel_rfl
theorem cb73 : callable Tryz.prog 73 = true := by kernel_rfl
theorem ts78 : tsize Tryz.prog 78 = some 2 := by kernel_rfl
theorem ta78 : tagg Tryz.prog 78 = some true := by kernel_rfl
theorem zo78 : zeroOf Tryz.prog 78 = some (eApiPart (ApiPart.mk (0 : Int) false)) := by kernel_rfl
theorem fo78_0 : FO Tryz.prog 78 0 3 0 := by unfold FO; kernel_rfl
theorem fo80_1 : FO Tryz.prog 80 1 3 1 := by unfold FO; kernel_rfl
theorem fo80_2 : FO Tryz.prog 80 2 3 2 := by unfold FO; kernel_rfl
theorem cb76 : callable Tryz.prog 76 = true := by kernel_rfl
theorem cb75 : callable Tryz.prog 75 = true := by kernel_rfl
theorem cb74 : callable Tryz.prog 74 = true := by kernel_rfl
theorem fo80_3 : FO Tryz.prog 80 3 74 3 := by unfold FO; kernel_rfl
theorem ts74 : tsize Tryz.prog 74 = some 3 := by kernel_rfl
theorem ta74 : tagg Tryz.prog 74 = some true := by kernel_rfl
theorem fo78_1 : FO Tryz.prog 78 1 4 1 := by unfold FO; kernel_rfl
theorem ts4 : tsize Tryz.prog 4 = some 1 := by kernel_rfl
theorem ta4 : tagg Tryz.prog 4 = some false := by kernel_rfl
theorem un61 : Tryz.prog.underlying 61 = some (.slice 74) := by kernel_rfl
theorem ei74 : EI Tryz.prog 74 3 32 (eApiValue (ApiValue.mk (0 : Int) (0 : UInt64) ([] : List UInt8))) := ⟨by kernel_rfl, by kernel_rfl, rfl, by decide, rfl, by decide⟩
theorem un57 : Tryz.prog.underlying 57 = some (.slice 4) := by kernel_rfl
theorem ei4 : EI Tryz.prog 4 1 1 (eB false) := ⟨by kernel_rfl, by kernel_rfl, rfl, by decide, rfl, by decide⟩
theorem fo74_0 : FO Tryz.prog 74 0 3 0 := by unfold FO; kernel_rfl
theorem bd74_ : abuild Tryz.prog 74 [] = some (.d (eApiValue (ApiValue.mk (0 : Int) (0 : UInt64) ([] : List UInt8)))) := by rfl
theorem ut74 : Tryz.prog.underlying 74 = some (.struct (Tryz.prog.fieldsOf 74)) := by kernel_rfl
theorem fl74 : (Tryz.prog.fieldsOf 74).toList.map fsig = [(false, 3, 0), (false, 72, 1), (false, 9, 2)] := by kernel_rfl
theorem sh74 : Tryz.prog.stoodInHeld 74 = false := by kernel_rfl
theorem eg74 : Tryz.prog.eqGuardType Tryz.prog.depth 74 = false := by kernel_rfl
theorem ta9 : tagg Tryz.prog 9 = some false := by kernel_rfl
theorem ta72 : tagg Tryz.prog 72 = some false := by kernel_rfl
theorem un72 : Tryz.prog.underlying 72 = some (.int .u64) := by kernel_rfl
theorem un3 : Tryz.prog.underlying 3 = some (.int .i64) := by kernel_rfl
theorem eqApiValue_val74 (x y : ApiValue) (d : Nat) : pr Tryz.prog (Op.equalIn (d + 2) 74 (.agg #[.int .i64 x.Kind, .int .u64 (x.N.toNat : Int), .string ⟨x.S.toArray⟩]) (.agg #[.int .i64 y.Kind, .int .u64 (y.N.toNat : Int), .string ⟨y.S.toArray⟩])) = some (eqApiValue x y) := eq_struct (d := d + 1) ut74 fl74 sh74 (.cons (part1 ta3 rfl) (part1 ta3 rfl) (eq_i64 (d := d + 0) un3 _ _) (.cons (part1 ta72 rfl) (part1 ta72 rfl) (eq_u64 (d := d + 0) un72 _ _) (.cons (part1 ta9 rfl) (part1 ta9 rfl) (eq_str (d := d + 0) un9 _ _) .nil)))
theorem eqApiValue_eql_74 (X Y : Operand) (x y : ApiValue) : abinOp Tryz.prog .eql 74 X Y (.d (eApiValue x)) (.d (eApiValue y)) = some (.d (eB (eqApiValue x y))) := b_struct_eql (L := 2) rfl rfl eg74 (by decide) (eqApiValue_val74 x y)
theorem fo74_2 : FO Tryz.prog 74 2 9 2 := by unfold FO; kernel_rfl
theorem ts9 : tsize Tryz.prog 9 = some 1 := by kernel_rfl
theorem fo74_1 : FO Tryz.prog 74 1 72 1 := by unfold FO; kernel_rfl
theorem ts72 : tsize Tryz.prog 72 = some 1 := by kernel_rfl
theorem cb104 : callable Tryz.prog 104 = true := by kernel_rfl
theorem cb66 : callable Tryz.prog 66 = true := by kernel_rfl
theorem cb126 : callable Tryz.prog 126 = true := by kernel_rfl
theorem cb141 : callable Tryz.prog 141 = true := by kernel_rfl
theorem cb125 : callable Tryz.prog 125 = true := by kernel_rfl
theorem zo74 : zeroOf Tryz.prog 74 = some (eApiValue (ApiValue.mk (0 : Int) (0 : UInt64) ([] : List UInt8))) := by kernel_rfl
theorem zo158 : zeroOf Tryz.prog 158 = some (.agg [.nils]) := by kernel_rfl
theorem ei5 : EI Tryz.prog 5 1 1 (eU8 (0 : UInt8)) := ⟨by kernel_rfl, by kernel_rfl, rfl, by decide, rfl, by decide⟩
theorem un161 : Tryz.prog.underlying 161 = some (.pointer 158) := by kernel_rfl
theorem fo158_0 : FO Tryz.prog 158 0 156 0 := by unfold FO; kernel_rfl
theorem ts156 : tsize Tryz.prog 156 = some 1 := by kernel_rfl
theorem ta156 : tagg Tryz.prog 156 = some false := by kernel_rfl
theorem bc156 : byCount Tryz.prog 156 = false := by kernel_rfl
theorem cb128 : callable Tryz.prog 128 = true := by kernel_rfl
theorem cb129 : callable Tryz.prog 129 = true := by kernel_rfl
theorem un173 : Tryz.prog.underlying 173 = some (.int .u32) := by kernel_rfl
theorem un201 : Tryz.prog.underlying 201 = some (.int .u16) := by kernel_rfl
theorem cb145 : callable Tryz.prog 145 = true := by kernel_rfl
theorem cb144 : callable Tryz.prog 144 = true := by kernel_rfl
theorem cb130 : callable Tryz.prog 130 = true := by kernel_rfl
theorem cb101 : callable Tryz.prog 101 = true := by kernel_rfl
theorem cb103 : callable Tryz.prog 103 = true := by kernel_rfl
theorem cb142 : callable Tryz.prog 142 = true := by kernel_rfl
theorem bc9 : byCount Tryz.prog 9 = false := by kernel_rfl
theorem cb143 : callable Tryz.prog 143 = true := by kernel_rfl
theorem cb127 : callable Tryz.prog 127 = true := by kernel_rfl
theorem cb100 : callable Tryz.prog 100 = true := by kernel_rfl
theorem cb77 : callable Tryz.prog 77 = true := by kernel_rfl
theorem cb117 : callable Tryz.prog 117 = true := by kernel_rfl
theorem bd50_0_1 (a0 : List UInt8) (a1 : List UInt8) : abuild Tryz.prog 50 [(0, .d (eS a0)), (1, .d (eS a1))] = some (.d (eApiSpan (ApiSpan.mk a0 a1 false))) := by rfl
theorem un4 : Tryz.prog.underlying 4 = some (.bool) := by kernel_rfl
theorem fo50_1 : FO Tryz.prog 50 1 9 1 := by unfold FO; kernel_rfl
theorem fo50_0 : FO Tryz.prog 50 0 9 0 := by unfold FO; kernel_rfl
theorem cb78 : callable Tryz.prog 78 = true := by kernel_rfl
theorem cb43 : callable Tryz.prog 43 = true := by kernel_rfl
theorem fo52_1 : FO Tryz.prog 52 1 50 1 := by unfold FO; kernel_rfl
theorem fo52_2 : FO Tryz.prog 52 2 3 4 := by unfold FO; kernel_rfl
theorem fo52_3 : FO Tryz.prog 52 3 4 5 := by unfold FO; kernel_rfl
theorem ta52 : tagg Tryz.prog 52 = some true := by kernel_rfl
theorem cb44 : callable Tryz.prog 44 = true := by kernel_rfl
theorem fo52_5 : FO Tryz.prog 52 5 3 7 := by unfold FO; kernel_rfl
theorem bc41 : byCount Tryz.prog 41 = false := by kernel_rfl
theorem bc23 : byCount Tryz.prog 23 = false := by kernel_rfl
theorem cb37 : callable Tryz.prog 37 = true := by kernel_rfl
theorem cb38 : callable Tryz.prog 38 = true := by kernel_rfl
theorem cb49 : callable Tryz.prog 49 = true := by kernel_rfl
theorem fo30_1 : FO Tryz.prog 30 1 23 1 := by unfold FO; kernel_rfl
theorem fo30_2 : FO Tryz.prog 30 2 28 2 := by unfold FO; kernel_rfl
theorem ts28 : tsize Tryz.prog 28 = some 1 := by kernel_rfl
theorem ta28 : tagg Tryz.prog 28 = some false := by kernel_rfl
theorem cb35 : callable Tryz.prog 35 = true := by kernel_rfl
theorem un143 : Tryz.prog.underlying 143 = some (.slice 23) := by kernel_rfl
theorem ei23 : EI Tryz.prog 23 1 24 .nils := ⟨by kernel_rfl, by kernel_rfl, rfl, by decide, rfl, by decide⟩
theorem ni9 : notI Tryz.prog 9 = true := by kernel_rfl
theorem cb87 : callable Tryz.prog 87 = true := by kernel_rfl
theorem cb48 : callable Tryz.prog 48 = true := by kernel_rfl
theorem cb16 : callable Tryz.prog 16 = true := by kernel_rfl
theorem ta24 : tagg Tryz.prog 24 = some false := by kernel_rfl
theorem ts60 : tsize Tryz.prog 60 = some 6 := by kernel_rfl
theorem ta60 : tagg Tryz.prog 60 = some true := by kernel_rfl
theorem zo60 : zeroOf Tryz.prog 60 = some (.agg [(eS ([] : List UInt8)), .nils, .nils, (eB false), (eB false), (eI (0 : Int))]) := by kernel_rfl
theorem fo60_4 : FO Tryz.prog 60 4 4 4 := by unfold FO; kernel_rfl
theorem fo60_1 : FO Tryz.prog 60 1 28 1 := by unfold FO; kernel_rfl
theorem cb81 : callable Tryz.prog 81 = true := by kernel_rfl
theorem cb118 : callable Tryz.prog 118 = true := by kernel_rfl
theorem cb80 : callable Tryz.prog 80 = true := by kernel_rfl
theorem fo60_2 : FO Tryz.prog 60 2 23 2 := by unfold FO; kernel_rfl
theorem cb119 : callable Tryz.prog 119 = true := by kernel_rfl
theorem cb82 : callable Tryz.prog 82 = true := by kernel_rfl
theorem cb79 : callable Tryz.prog 79 = true := by kernel_rfl
theorem cb67 : callable Tryz.prog 67 = true := by kernel_rfl
theorem cb36 : callable Tryz.prog 36 = true := by kernel_rfl
theorem cb45 : callable Tryz.prog 45 = true := by kernel_rfl
theorem bd52_0_4 (a0 : Int) (a4 : Bool) : abuild Tryz.prog 52 [(0, .d (eI a0)), (4, .d (eB a4))] = some (.d (ePlanPlan (PlanPlan.mk a0 (ApiSpan.mk ([] : List UInt8) ([] : List UInt8) false) (0 : Int) false a4 (0 : Int)))) := by rfl
theorem fo60_3 : FO Tryz.prog 60 3 4 3 := by unfold FO; kernel_rfl
theorem fo52_4 : FO Tryz.prog 52 4 4 6 := by unfold FO; kernel_rfl
theorem cb13 : callable Tryz.prog 13 = true := by kernel_rfl
theorem fo26_1 : FO Tryz.prog 26 1 22 1 := by unfold FO; kernel_rfl
theorem ts22 : tsize Tryz.prog 22 = some 1 := by kernel_rfl
theorem ta22 : tagg Tryz.prog 22 = some false := by kernel_rfl
theorem bd80_0 (a0 : Int) : abuild Tryz.prog 80 [(0, .d (eI a0))] = some (.d (ePredNode (PredNode.mk a0 (0 : Int) (0 : Int) (ApiValue.mk (0 : Int) (0 : UInt64) ([] : List UInt8))))) := by rfl
theorem ut80 : Tryz.prog.underlying 80 = some (.struct (Tryz.prog.fieldsOf 80)) := by kernel_rfl
theorem fl80 : (Tryz.prog.fieldsOf 80).toList.map fsig = [(false, 3, 0), (false, 3, 1), (false, 3, 2), (false, 74, 3)] := by kernel_rfl
theorem sh80 : Tryz.prog.stoodInHeld 80 = false := by kernel_rfl
theorem eg80 : Tryz.prog.eqGuardType Tryz.prog.depth 80 = false := by kernel_rfl
theorem eqPredNode_val80 (x y : PredNode) (d : Nat) : pr Tryz.prog (Op.equalIn (d + 3) 80 (.agg #[.int .i64 x.Kind, .int .i64 x.Col, .int .i64 x.Op, .int .i64 x.Val.Kind, .int .u64 (x.Val.N.toNat : Int), .string ⟨x.Val.S.toArray⟩]) (.agg #[.int .i64 y.Kind, .int .i64 y.Col, .int .i64 y.Op, .int .i64 y.Val.Kind, .int .u64 (y.Val.N.toNat : Int), .string ⟨y.Val.S.toArray⟩])) = some (eqPredNode x y) := eq_struct (d := d + 2) ut80 fl80 sh80 (.cons (part1 ta3 rfl) (part1 ta3 rfl) (eq_i64 (d := d + 1) un3 _ _) (.cons (part1 ta3 rfl) (part1 ta3 rfl) (eq_i64 (d := d + 1) un3 _ _) (.cons (part1 ta3 rfl) (part1 ta3 rfl) (eq_i64 (d := d + 1) un3 _ _) (.cons (partA ta74 ts74 rfl) (partA ta74 ts74 rfl) (eqApiValue_val74 x.Val y.Val (d + 0)) .nil))))
theorem eqPredNode_eql_80 (X Y : Operand) (x y : PredNode) : abinOp Tryz.prog .eql 80 X Y (.d (ePredNode x)) (.d (ePredNode y)) = some (.d (eB (eqPredNode x y))) := b_struct_eql (L := 3) rfl rfl eg80 (by decide) (eqPredNode_val80 x y)
theorem cb65 : callable Tryz.prog 65 = true := by kernel_rfl
theorem ts76 : tsize Tryz.prog 76 = some 7 := by kernel_rfl
theorem fo76_1 : FO Tryz.prog 76 1 3 1 := by unfold FO; kernel_rfl
theorem cb33 : callable Tryz.prog 33 = true := by kernel_rfl
theorem fo30_3 : FO Tryz.prog 30 3 3 3 := by unfold FO; kernel_rfl
theorem cb34 : callable Tryz.prog 34 = true := by kernel_rfl
theorem cb11 : callable Tryz.prog 11 = true := by kernel_rfl
theorem fo52_0 : FO Tryz.prog 52 0 3 0 := by unfold FO; kernel_rfl
theorem bd110_0 (a0 : List PlanPlan) : abuild Tryz.prog 110 [(0, .d ((eL 8 ePlanPlan) a0))] = some (.d (.agg [((eL 8 ePlanPlan) a0), .nils])) := by rfl
theorem ni108 : notI Tryz.prog 108 = true := by kernel_rfl
theorem ni3 : notI Tryz.prog 3 = true := by kernel_rfl
theorem mt108_Push : methF Tryz.prog 108 "Push" = some (196, true) := by kernel_rfl
theorem un108 : Tryz.prog.underlying 108 = some (.pointer 110) := by kernel_rfl
theorem fo110_1 : FO Tryz.prog 110 1 23 1 := by unfold FO; kernel_rfl
theorem cb196 : callable Tryz.prog 196 = true := by kernel_rfl
theorem mt108_Len : methF Tryz.prog 108 "Len" = some (52, false) := by kernel_rfl
theorem ts110 : tsize Tryz.prog 110 = some 2 := by kernel_rfl
theorem ta110 : tagg Tryz.prog 110 = some true := by kernel_rfl
theorem cb52 : callable Tryz.prog 52 = true := by kernel_rfl
theorem mt108_Less : methF Tryz.prog 108 "Less" = some (194, false) := by kernel_rfl
theorem fo110_0 : FO Tryz.prog 110 0 41 0 := by unfold FO; kernel_rfl
theorem ts41 : tsize Tryz.prog 41 = some 1 := by kernel_rfl
theorem ta41 : tagg Tryz.prog 41 = some false := by kernel_rfl
theorem cb194 : callable Tryz.prog 194 = true := by kernel_rfl
theorem mt108_Swap : methF Tryz.prog 108 "Swap" = some (197, false) := by kernel_rfl
theorem cb197 : callable Tryz.prog 197 = true := by kernel_rfl
theorem cb88 : callable Tryz.prog 88 = true := by kernel_rfl
theorem cb51 : callable Tryz.prog 51 = true := by kernel_rfl
theorem cb89 : callable Tryz.prog 89 = true := by kernel_rfl
theorem mt108_Pop : methF Tryz.prog 108 "Pop" = some (195, true) := by kernel_rfl
theorem cb195 : callable Tryz.prog 195 = true := by kernel_rfl
theorem cb53 : callable Tryz.prog 53 = true := by kernel_rfl
theorem cb19 : callable Tryz.prog 19 = true := by kernel_rfl
theorem cb15 : callable Tryz.prog 15 = true := by kernel_rfl
theorem cb7 : callable Tryz.prog 7 = true := by kernel_rfl
theorem bd52_0_5 (a0 : Int) (a5 : Int) : abuild Tryz.prog 52 [(0, .d (eI a0)), (5, .d (eI a5))] = some (.d (ePlanPlan (PlanPlan.mk a0 (ApiSpan.mk ([] : List UInt8) ([] : List UInt8) false) (0 : Int) false false a5))) := by rfl
end Lv
