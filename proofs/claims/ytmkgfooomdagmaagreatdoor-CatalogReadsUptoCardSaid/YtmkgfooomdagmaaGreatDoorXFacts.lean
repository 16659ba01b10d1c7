/- Part of the proof of a law: facts of the program. -/
import Derived.Test.YtmkgfooomdagmaaGreatDoorXTypes
import Derived.Test.YtmkgfooomdagmaaGreatDoorProg
import Derived.KernelRfl
/- Part of the proof of a law: facts of the program. -/
namespace Lv
open Go Go.Proofs
set_option linter.unusedVariables false
set_option linter.unusedSimpArgs false
set_option linter.unusedSectionVars false
set_option maxRecDepth 100000
variable [BaseTab]
theorem bd43_0 (a0 : Int) : abuild Tryz.prog 43 [(0, .d (eI a0))] = some (.d (eApiValue (ApiValue.mk a0 (0 : UInt64) ([] : List UInt8)))) := by rfl
theorem bd45_0_1_4 (a0 : List UInt8) (a1 : Int) (a4 : ApiValue) : abuild Tryz.prog 45 [(0, .d (eS a0)), (1, .d (eI a1)), (4, .d (eApiValue a4))] = some (.d (eApiColumn (ApiColumn.mk a0 a1 (0 : Int) false a4))) := by rfl
theorem un22 : Tryz.prog.underlying 22 = some (.slice 45) := by kernel_rfl
theorem ei45 : EI Tryz.prog 45 7 72 (eApiColumn (ApiColumn.mk ([] : List UInt8) (0 : Int) (0 : Int) false (ApiValue.mk (0 : Int) (0 : UInt64) ([] : List UInt8)))) := ⟨by kernel_rfl, by kernel_rfl, rfl, by decide, rfl, by decide⟩
theorem un23 : Tryz.prog.underlying 23 = some (.slice 3) := by kernel_rfl
theorem ei3 : EI Tryz.prog 3 1 8 (eI (0 : Int)) := ⟨by kernel_rfl, by kernel_rfl, rfl, by decide, rfl, by decide⟩
theorem bd26_0_1_2_4 (a0 : List UInt8) (a4 : Int) : abuild Tryz.prog 26 [(0, .d (eS a0)), (1, .slc 0 7 0 ([(ApiColumn.mk ([105, 100] : List UInt8) (1 : Int) (0 : Int) false (ApiValue.mk (1 : Int) (0 : UInt64) ([] : List UInt8)))].length) none), (2, .slc 1 1 0 ([(0 : Int)].length) none), (4, .d (eI a4))] = some (.agg [.d (eS a0), .slc 0 7 0 ([(ApiColumn.mk ([105, 100] : List UInt8) (1 : Int) (0 : Int) false (ApiValue.mk (1 : Int) (0 : UInt64) ([] : List UInt8)))].length) none, .slc 1 1 0 ([(0 : Int)].length) none, .d .nils, .d (eI a4)]) := by rfl
theorem zo26 : zeroOf Tryz.prog 26 = some (.agg [(eS ([] : List UInt8)), .nils, .nils, .nils, (eI (0 : Int))]) := by kernel_rfl
theorem ts26 : tsize Tryz.prog 26 = some 5 := by kernel_rfl
theorem ta26 : tagg Tryz.prog 26 = some true := by kernel_rfl
theorem zo70 : zeroOf Tryz.prog 70 = some .nilf := by kernel_rfl
theorem ts70 : tsize Tryz.prog 70 = some 1 := by kernel_rfl
theorem fo26_0 : FO Tryz.prog 26 0 9 0 := by unfold FO; kernel_rfl
theorem ts9 : tsize Tryz.prog 9 = some 1 := by kernel_rfl
theorem ta9 : tagg Tryz.prog 9 = some false := by kernel_rfl
theorem un9 : Tryz.prog.underlying 9 = some (.string) := by kernel_rfl
theorem cb64 : callable Tryz.prog 64 = true := by kernel_rfl
theorem fo26_1 : FO Tryz.prog 26 1 22 1 := by unfold FO; kernel_rfl
theorem ts22 : tsize Tryz.prog 22 = some 1 := by kernel_rfl
theorem ta22 : tagg Tryz.prog 22 = some false := by kernel_rfl
theorem un123 : Tryz.prog.underlying 123 = some (.map 9 4) := by kernel_rfl
theorem ts45 : tsize Tryz.prog 45 = some 7 := by kernel_rfl
theorem ta45 : tagg Tryz.prog 45 = some true := by kernel_rfl
theorem zo45 : zeroOf Tryz.prog 45 = some (eApiColumn (ApiColumn.mk ([] : List UInt8) (0 : Int) (0 : Int) false (ApiValue.mk (0 : Int) (0 : UInt64) ([] : List UInt8)))) := by kernel_rfl
theorem fo45_0 : FO Tryz.prog 45 0 9 0 := by unfold FO; kernel_rfl
theorem fo45_1 : FO Tryz.prog 45 1 3 1 := by unfold FO; kernel_rfl
theorem ts3 : tsize Tryz.prog 3 = some 1 := by kernel_rfl
theorem ta3 : tagg Tryz.prog 3 = some false := by kernel_rfl
theorem cb121 : callable Tryz.prog 121 = true := by kernel_rfl
theorem fo45_2 : FO Tryz.prog 45 2 3 2 := by unfold FO; kernel_rfl
theorem fo45_4 : FO Tryz.prog 45 4 43 4 := by unfold FO; kernel_rfl
theorem ts43 : tsize Tryz.prog 43 = some 3 := by kernel_rfl
theorem ta43 : tagg Tryz.prog 43 = some true := by kernel_rfl
theorem fo43_0 : FO Tryz.prog 43 0 3 0 := by unfold FO; kernel_rfl
theorem bd43_ : abuild Tryz.prog 43 [] = some (.d (eApiValue (ApiValue.mk (0 : Int) (0 : UInt64) ([] : List UInt8)))) := by rfl
theorem ut43 : Tryz.prog.underlying 43 = some (.struct (Tryz.prog.fieldsOf 43)) := by kernel_rfl
theorem fl43 : (Tryz.prog.fieldsOf 43).toList.map fsig = [(false, 3, 0), (false, 41, 1), (false, 9, 2)] := by kernel_rfl
theorem sh43 : Tryz.prog.stoodInHeld 43 = false := by kernel_rfl
theorem eg43 : Tryz.prog.eqGuardType Tryz.prog.depth 43 = false := by kernel_rfl
theorem ta41 : tagg Tryz.prog 41 = some false := by kernel_rfl
theorem un41 : Tryz.prog.underlying 41 = some (.int .u64) := by kernel_rfl
theorem un3 : Tryz.prog.underlying 3 = some (.int .i64) := by kernel_rfl
theorem eqApiValue_val43 (x y : ApiValue) (d : Nat) : pr Tryz.prog (Op.equalIn (d + 2) 43 (.agg #[.int .i64 x.Kind, .int .u64 (x.N.toNat : Int), .string ⟨x.S.toArray⟩]) (.agg #[.int .i64 y.Kind, .int .u64 (y.N.toNat : Int), .string ⟨y.S.toArray⟩])) = some (eqApiValue x y) := eq_struct (d := d + 1) ut43 fl43 sh43 (.cons (part1 ta3 rfl) (part1 ta3 rfl) (eq_i64 (d := d + 0) un3 _ _) (.cons (part1 ta41 rfl) (part1 ta41 rfl) (eq_u64 (d := d + 0) un41 _ _) (.cons (part1 ta9 rfl) (part1 ta9 rfl) (eq_str (d := d + 0) un9 _ _) .nil)))
theorem eqApiValue_eql_43 (X Y : Operand) (x y : ApiValue) : abinOp Tryz.prog .eql 43 X Y (.d (eApiValue x)) (.d (eApiValue y)) = some (.d (eB (eqApiValue x y))) := b_struct_eql (L := 2) rfl rfl eg43 (by decide) (eqApiValue_val43 x y)
theorem fo43_2 : FO Tryz.prog 43 2 9 2 := by unfold FO; kernel_rfl
theorem fo43_1 : FO Tryz.prog 43 1 41 1 := by unfold FO; kernel_rfl
theorem ts41 : tsize Tryz.prog 41 = some 1 := by kernel_rfl
theorem cb127 : callable Tryz.prog 127 = true := by kernel_rfl
theorem cb126 : callable Tryz.prog 126 = true := by kernel_rfl
theorem fo45_3 : FO Tryz.prog 45 3 4 3 := by unfold FO; kernel_rfl
theorem ts4 : tsize Tryz.prog 4 = some 1 := by kernel_rfl
theorem ta4 : tagg Tryz.prog 4 = some false := by kernel_rfl
theorem cb122 : callable Tryz.prog 122 = true := by kernel_rfl
theorem cb105 : callable Tryz.prog 105 = true := by kernel_rfl
theorem zo4 : zeroOf Tryz.prog 4 = some (eB false) := by kernel_rfl
theorem cb65 : callable Tryz.prog 65 = true := by kernel_rfl
theorem fo26_2 : FO Tryz.prog 26 2 23 2 := by unfold FO; kernel_rfl
theorem ts23 : tsize Tryz.prog 23 = some 1 := by kernel_rfl
theorem ta23 : tagg Tryz.prog 23 = some false := by kernel_rfl
theorem un149 : Tryz.prog.underlying 149 = some (.map 3 4) := by kernel_rfl
theorem cb66 : callable Tryz.prog 66 = true := by kernel_rfl
theorem cb68 : callable Tryz.prog 68 = true := by kernel_rfl
theorem cb106 : callable Tryz.prog 106 = true := by kernel_rfl
theorem cb67 : callable Tryz.prog 67 = true := by kernel_rfl
theorem cb107 : callable Tryz.prog 107 = true := by kernel_rfl
theorem cb69 : callable Tryz.prog 69 = true := by kernel_rfl
theorem bd78_0 (a0 : Int) : abuild Tryz.prog 78 [(0, .d (eI a0))] = some (.d (eApiPart (ApiPart.mk a0 false))) := by rfl
theorem un54 : Tryz.prog.underlying 54 = some (.slice 78) := by kernel_rfl
theorem ei78 : EI Tryz.prog 78 2 16 (eApiPart (ApiPart.mk (0 : Int) false)) := ⟨by kernel_rfl, by kernel_rfl, rfl, by decide, rfl, by decide⟩
theorem bc54 : byCount Tryz.prog 54 = false := by kernel_rfl
theorem cb71 : callable Tryz.prog 71 = true := by kernel_rfl
theorem ts78 : tsize Tryz.prog 78 = some 2 := by kernel_rfl
theorem ta78 : tagg Tryz.prog 78 = some true := by kernel_rfl
theorem zo78 : zeroOf Tryz.prog 78 = some (eApiPart (ApiPart.mk (0 : Int) false)) := by kernel_rfl
theorem fo78_0 : FO Tryz.prog 78 0 3 0 := by unfold FO; kernel_rfl
theorem cb70 : callable Tryz.prog 70 = true := by kernel_rfl
theorem fo26_3 : FO Tryz.prog 26 3 24 3 := by unfold FO; kernel_rfl
theorem ts24 : tsize Tryz.prog 24 = some 1 := by kernel_rfl
theorem ta24 : tagg Tryz.prog 24 = some false := by kernel_rfl
theorem un24 : Tryz.prog.underlying 24 = some (.slice 56) := by kernel_rfl
theorem ts56 : tsize Tryz.prog 56 = some 6 := by kernel_rfl
theorem ta56 : tagg Tryz.prog 56 = some true := by kernel_rfl
theorem zo56 : zeroOf Tryz.prog 56 = some (.agg [(eS ([] : List UInt8)), .nils, .nils, (eB false), (eB false), (eI (0 : Int))]) := by kernel_rfl
theorem fo56_0 : FO Tryz.prog 56 0 9 0 := by unfold FO; kernel_rfl
theorem fo56_1 : FO Tryz.prog 56 1 54 1 := by unfold FO; kernel_rfl
theorem ts54 : tsize Tryz.prog 54 = some 1 := by kernel_rfl
theorem ta54 : tagg Tryz.prog 54 = some false := by kernel_rfl
theorem bc23 : byCount Tryz.prog 23 = false := by kernel_rfl
theorem cb108 : callable Tryz.prog 108 = true := by kernel_rfl
theorem zo23 : zeroOf Tryz.prog 23 = some .nils := by kernel_rfl
theorem fo56_2 : FO Tryz.prog 56 2 23 2 := by unfold FO; kernel_rfl
theorem cb123 : callable Tryz.prog 123 = true := by kernel_rfl
theorem cb110 : callable Tryz.prog 110 = true := by kernel_rfl
theorem cb109 : callable Tryz.prog 109 = true := by kernel_rfl
theorem cb72 : callable Tryz.prog 72 = true := by kernel_rfl
theorem cb35 : callable Tryz.prog 35 = true := by kernel_rfl
theorem ta70 : tagg Tryz.prog 70 = some false := by kernel_rfl
theorem fo26_4 : FO Tryz.prog 26 4 3 4 := by unfold FO; kernel_rfl
theorem cb34 : callable Tryz.prog 34 = true := by kernel_rfl
theorem fo56_5 : FO Tryz.prog 56 5 3 5 := by unfold FO; kernel_rfl
theorem cb37 : callable Tryz.prog 37 = true := by kernel_rfl
theorem cb73 : callable Tryz.prog 73 = true := by kernel_rfl
theorem cb36 : callable Tryz.prog 36 = true := by kernel_rfl
theorem cb15 : callable Tryz.prog 15 = true := by kernel_rfl
theorem zo59 : zeroOf Tryz.prog 59 = some (.agg [.nils]) := by kernel_rfl
theorem un61 : Tryz.prog.underlying 61 = some (.int .u16) := by kernel_rfl
theorem un5 : Tryz.prog.underlying 5 = some (.int .u8) := by kernel_rfl
theorem un57 : Tryz.prog.underlying 57 = some (.slice 5) := by kernel_rfl
theorem ei5 : EI Tryz.prog 5 1 1 (eU8 (0 : UInt8)) := ⟨by kernel_rfl, by kernel_rfl, rfl, by decide, rfl, by decide⟩
theorem un64 : Tryz.prog.underlying 64 = some (.pointer 59) := by kernel_rfl
theorem fo59_0 : FO Tryz.prog 59 0 57 0 := by unfold FO; kernel_rfl
theorem ts57 : tsize Tryz.prog 57 = some 1 := by kernel_rfl
theorem ta57 : tagg Tryz.prog 57 = some false := by kernel_rfl
theorem bc57 : byCount Tryz.prog 57 = false := by kernel_rfl
theorem cb38 : callable Tryz.prog 38 = true := by kernel_rfl
theorem cb16 : callable Tryz.prog 16 = true := by kernel_rfl
theorem cb17 : callable Tryz.prog 17 = true := by kernel_rfl
theorem cb18 : callable Tryz.prog 18 = true := by kernel_rfl
theorem cb19 : callable Tryz.prog 19 = true := by kernel_rfl
theorem bd49_0_1 (a0 : List UInt8) (a1 : List UInt8) : abuild Tryz.prog 49 [(0, .d (eS a0)), (1, .d (eS a1))] = some (.d (eApiPair (ApiPair.mk a0 a1))) := by rfl
theorem un29 : Tryz.prog.underlying 29 = some (.slice 49) := by kernel_rfl
theorem ei49 : EI Tryz.prog 49 2 32 (eApiPair (ApiPair.mk ([] : List UInt8) ([] : List UInt8))) := ⟨by kernel_rfl, by kernel_rfl, rfl, by decide, rfl, by decide⟩
theorem cb20 : callable Tryz.prog 20 = true := by kernel_rfl
theorem bc9 : byCount Tryz.prog 9 = false := by kernel_rfl
theorem cb39 : callable Tryz.prog 39 = true := by kernel_rfl
theorem cb40 : callable Tryz.prog 40 = true := by kernel_rfl
theorem un126 : Tryz.prog.underlying 126 = some (.int .u32) := by kernel_rfl
theorem cb74 : callable Tryz.prog 74 = true := by kernel_rfl
theorem cb41 : callable Tryz.prog 41 = true := by kernel_rfl
theorem cb21 : callable Tryz.prog 21 = true := by kernel_rfl
theorem bc29 : byCount Tryz.prog 29 = false := by kernel_rfl
theorem fo78_1 : FO Tryz.prog 78 1 4 1 := by unfold FO; kernel_rfl
theorem fo56_3 : FO Tryz.prog 56 3 4 3 := by unfold FO; kernel_rfl
theorem fo56_4 : FO Tryz.prog 56 4 4 4 := by unfold FO; kernel_rfl
theorem cb22 : callable Tryz.prog 22 = true := by kernel_rfl
theorem cb7 : callable Tryz.prog 7 = true := by kernel_rfl
theorem ts29 : tsize Tryz.prog 29 = some 1 := by kernel_rfl
theorem ta29 : tagg Tryz.prog 29 = some false := by kernel_rfl
theorem ts49 : tsize Tryz.prog 49 = some 2 := by kernel_rfl
theorem fo49_0 : FO Tryz.prog 49 0 9 0 := by unfold FO; kernel_rfl
theorem cb51 : callable Tryz.prog 51 = true := by kernel_rfl
theorem bd26_ : abuild Tryz.prog 26 [] = some (.d (.agg [(eS ([] : List UInt8)), .nils, .nils, .nils, (eI (0 : Int))])) := by rfl
theorem bd26_0 (a0 : List UInt8) : abuild Tryz.prog 26 [(0, .d (eS a0))] = some (.d (.agg [(eS a0), .nils, .nils, .nils, (eI (0 : Int))])) := by rfl
theorem zo105 : zeroOf Tryz.prog 105 = some (.agg [.nilp]) := by kernel_rfl
theorem bd105_ : abuild Tryz.prog 105 [] = some (.d (.agg [.nilp])) := by rfl
theorem ts105 : tsize Tryz.prog 105 = some 1 := by kernel_rfl
theorem fo49_1 : FO Tryz.prog 49 1 9 1 := by unfold FO; kernel_rfl
theorem ts5 : tsize Tryz.prog 5 = some 1 := by kernel_rfl
theorem cb80 : callable Tryz.prog 80 = true := by kernel_rfl
theorem bd105_0 : abuild Tryz.prog 105 [(0, .ref 3 0 0)] = some (.agg [.ref 3 0 0]) := by rfl
theorem ta105 : tagg Tryz.prog 105 = some true := by kernel_rfl
theorem cb52 : callable Tryz.prog 52 = true := by kernel_rfl
theorem fo105_0 : FO Tryz.prog 105 0 103 0 := by unfold FO; kernel_rfl
theorem ts103 : tsize Tryz.prog 103 = some 1 := by kernel_rfl
theorem ta103 : tagg Tryz.prog 103 = some false := by kernel_rfl
theorem cb113 : callable Tryz.prog 113 = true := by kernel_rfl
theorem cb81 : callable Tryz.prog 81 = true := by kernel_rfl
theorem cb53 : callable Tryz.prog 53 = true := by kernel_rfl
theorem cb82 : callable Tryz.prog 82 = true := by kernel_rfl
theorem cb54 : callable Tryz.prog 54 = true := by kernel_rfl
theorem cb84 : callable Tryz.prog 84 = true := by kernel_rfl
theorem cb83 : callable Tryz.prog 83 = true := by kernel_rfl
theorem cb55 : callable Tryz.prog 55 = true := by kernel_rfl
theorem cb56 : callable Tryz.prog 56 = true := by kernel_rfl
theorem un103 : Tryz.prog.underlying 103 = some (.pointer 153) := by kernel_rfl
theorem fo153_1 : FO Tryz.prog 153 1 4 1 := by unfold FO; kernel_rfl
theorem fo153_0 : FO Tryz.prog 153 0 57 0 := by unfold FO; kernel_rfl
theorem ta5 : tagg Tryz.prog 5 = some false := by kernel_rfl
theorem cb85 : callable Tryz.prog 85 = true := by kernel_rfl
theorem cb114 : callable Tryz.prog 114 = true := by kernel_rfl
theorem cb86 : callable Tryz.prog 86 = true := by kernel_rfl
theorem cb87 : callable Tryz.prog 87 = true := by kernel_rfl
theorem bd45_0_1_2_3 (a0 : List UInt8) (a1 : Int) (a2 : Int) (a3 : Bool) : abuild Tryz.prog 45 [(0, .d (eS a0)), (1, .d (eI a1)), (2, .d (eI a2)), (3, .d (eB a3))] = some (.d (eApiColumn (ApiColumn.mk a0 a1 a2 a3 (ApiValue.mk (0 : Int) (0 : UInt64) ([] : List UInt8))))) := by rfl
theorem cb88 : callable Tryz.prog 88 = true := by kernel_rfl
theorem bd43_0_1_2 (a0 : Int) (a1 : UInt64) (a2 : List UInt8) : abuild Tryz.prog 43 [(0, .d (eI a0)), (1, .d (eU64 a1)), (2, .d (eS a2))] = some (.d (eApiValue (ApiValue.mk a0 a1 a2))) := by rfl
theorem cb57 : callable Tryz.prog 57 = true := by kernel_rfl
theorem bc22 : byCount Tryz.prog 22 = false := by kernel_rfl
theorem bd56_0 (a0 : List UInt8) : abuild Tryz.prog 56 [(0, .d (eS a0))] = some (.d (.agg [(eS a0), .nils, .nils, (eB false), (eB false), (eI (0 : Int))])) := by rfl
theorem cb90 : callable Tryz.prog 90 = true := by kernel_rfl
theorem cb89 : callable Tryz.prog 89 = true := by kernel_rfl
theorem cb58 : callable Tryz.prog 58 = true := by kernel_rfl
theorem ei56 : EI Tryz.prog 56 6 80 (.agg [(eS ([] : List UInt8)), .nils, .nils, (eB false), (eB false), (eI (0 : Int))]) := ⟨by kernel_rfl, by kernel_rfl, rfl, by decide, rfl, by decide⟩
theorem bc24 : byCount Tryz.prog 24 = false := by kernel_rfl
theorem cb30 : callable Tryz.prog 30 = true := by kernel_rfl
theorem un36 : Tryz.prog.underlying 36 = some (.slice 26) := by kernel_rfl
theorem ei26 : EI Tryz.prog 26 5 96 (.agg [(eS ([] : List UInt8)), .nils, .nils, .nils, (eI (0 : Int))]) := ⟨by kernel_rfl, by kernel_rfl, rfl, by decide, rfl, by decide⟩
theorem bc36 : byCount Tryz.prog 36 = false := by kernel_rfl
theorem cb11 : callable Tryz.prog 11 = true := by kernel_rfl
theorem bd49_0 (a0 : List UInt8) : abuild Tryz.prog 49 [(0, .d (eS a0))] = some (.d (eApiPair (ApiPair.mk a0 ([] : List UInt8)))) := by rfl
theorem un84 : Tryz.prog.underlying 84 = some (.map 9 9) := by kernel_rfl
theorem ta49 : tagg Tryz.prog 49 = some true := by kernel_rfl
theorem zo49 : zeroOf Tryz.prog 49 = some (eApiPair (ApiPair.mk ([] : List UInt8) ([] : List UInt8))) := by kernel_rfl
theorem un85 : Tryz.prog.underlying 85 = some (.slice 9) := by kernel_rfl
theorem ei9 : EI Tryz.prog 9 1 16 (eS ([] : List UInt8)) := ⟨by kernel_rfl, by kernel_rfl, rfl, by decide, rfl, by decide⟩
theorem bc85 : byCount Tryz.prog 85 = false := by kernel_rfl
theorem cb32 : callable Tryz.prog 32 = true := by kernel_rfl
theorem cb33 : callable Tryz.prog 33 = true := by kernel_rfl
theorem zo9 : zeroOf Tryz.prog 9 = some (eS ([] : List UInt8)) := by kernel_rfl
theorem bd51_1_2_4 (a1 : Int) (a2 : List UInt8) (a4 : List UInt8) : abuild Tryz.prog 51 [(1, .d (eI a1)), (2, .d (eS a2)), (4, .d (eS a4))] = some (.d (eApiMsg (ApiMsg.mk (0 : UInt64) a1 a2 (0 : UInt64) a4 (0 : Int) (0 : UInt64)))) := by rfl
theorem zo51 : zeroOf Tryz.prog 51 = some (eApiMsg (ApiMsg.mk (0 : UInt64) (0 : Int) ([] : List UInt8) (0 : UInt64) ([] : List UInt8) (0 : Int) (0 : UInt64))) := by kernel_rfl
theorem ts51 : tsize Tryz.prog 51 = some 7 := by kernel_rfl
theorem fo51_1 : FO Tryz.prog 51 1 3 1 := by unfold FO; kernel_rfl
theorem ta51 : tagg Tryz.prog 51 = some true := by kernel_rfl
theorem bd53_0_1_2 (a0 : Int) (a1 : Int) (a2 : ApiMsg) : abuild Tryz.prog 53 [(0, .d (eI a0)), (1, .d (eI a1)), (2, .d (eApiMsg a2))] = some (.d (eForestOp (ForestOp.mk a0 a1 a2))) := by rfl
theorem un46 : Tryz.prog.underlying 46 = some (.slice 53) := by kernel_rfl
theorem ei53 : EI Tryz.prog 53 9 88 (eForestOp (ForestOp.mk (0 : Int) (0 : Int) (ApiMsg.mk (0 : UInt64) (0 : Int) ([] : List UInt8) (0 : UInt64) ([] : List UInt8) (0 : Int) (0 : UInt64)))) := ⟨by kernel_rfl, by kernel_rfl, rfl, by decide, rfl, by decide⟩
theorem bc46 : byCount Tryz.prog 46 = false := by kernel_rfl
theorem cb14 : callable Tryz.prog 14 = true := by kernel_rfl
theorem cb29 : callable Tryz.prog 29 = true := by kernel_rfl
theorem ut45 : Tryz.prog.underlying 45 = some (.struct (Tryz.prog.fieldsOf 45)) := by kernel_rfl
theorem fl45 : (Tryz.prog.fieldsOf 45).toList.map fsig = [(false, 9, 0), (false, 3, 1), (false, 3, 2), (false, 4, 3), (false, 43, 4)] := by kernel_rfl
theorem sh45 : Tryz.prog.stoodInHeld 45 = false := by kernel_rfl
theorem eg45 : Tryz.prog.eqGuardType Tryz.prog.depth 45 = false := by kernel_rfl
theorem un4 : Tryz.prog.underlying 4 = some (.bool) := by kernel_rfl
theorem eqApiColumn_val45 (x y : ApiColumn) (d : Nat) : pr Tryz.prog (Op.equalIn (d + 3) 45 (.agg #[.string ⟨x.Name.toArray⟩, .int .i64 x.Kind, .int .i64 x.Max, .bool x.Nulls, .int .i64 x.Default.Kind, .int .u64 (x.Default.N.toNat : Int), .string ⟨x.Default.S.toArray⟩]) (.agg #[.string ⟨y.Name.toArray⟩, .int .i64 y.Kind, .int .i64 y.Max, .bool y.Nulls, .int .i64 y.Default.Kind, .int .u64 (y.Default.N.toNat : Int), .string ⟨y.Default.S.toArray⟩])) = some (eqApiColumn x y) := eq_struct (d := d + 2) ut45 fl45 sh45 (.cons (part1 ta9 rfl) (part1 ta9 rfl) (eq_str (d := d + 1) un9 _ _) (.cons (part1 ta3 rfl) (part1 ta3 rfl) (eq_i64 (d := d + 1) un3 _ _) (.cons (part1 ta3 rfl) (part1 ta3 rfl) (eq_i64 (d := d + 1) un3 _ _) (.cons (part1 ta4 rfl) (part1 ta4 rfl) (eq_bool (d := d + 1) un4 _ _) (.cons (partA ta43 ts43 rfl) (partA ta43 ts43 rfl) (eqApiValue_val43 x.Default y.Default (d + 0)) .nil)))))
theorem eqApiColumn_neq_45 (X Y : Operand) (x y : ApiColumn) : abinOp Tryz.prog .neq 45 X Y (.d (eApiColumn x)) (.d (eApiColumn y)) = some (.d (eB (!eqApiColumn x y))) := b_struct_neq (L := 3) rfl rfl eg45 (by decide) (eqApiColumn_val45 x y)
theorem ut78 : Tryz.prog.underlying 78 = some (.struct (Tryz.prog.fieldsOf 78)) := by kernel_rfl
theorem fl78 : (Tryz.prog.fieldsOf 78).toList.map fsig = [(false, 3, 0), (false, 4, 1)] := by kernel_rfl
theorem sh78 : Tryz.prog.stoodInHeld 78 = false := by kernel_rfl
theorem eg78 : Tryz.prog.eqGuardType Tryz.prog.depth 78 = false := by kernel_rfl
theorem eqApiPart_val78 (x y : ApiPart) (d : Nat) : pr Tryz.prog (Op.equalIn (d + 2) 78 (.agg #[.int .i64 x.Col, .bool x.Down]) (.agg #[.int .i64 y.Col, .bool y.Down])) = some (eqApiPart x y) := eq_struct (d := d + 1) ut78 fl78 sh78 (.cons (part1 ta3 rfl) (part1 ta3 rfl) (eq_i64 (d := d + 0) un3 _ _) (.cons (part1 ta4 rfl) (part1 ta4 rfl) (eq_bool (d := d + 0) un4 _ _) .nil))
theorem eqApiPart_neq_78 (X Y : Operand) (x y : ApiPart) : abinOp Tryz.prog .neq 78 X Y (.d (eApiPart x)) (.d (eApiPart y)) = some (.d (eB (!eqApiPart x y))) := b_struct_neq (L := 2) rfl rfl eg78 (by decide) (eqApiPart_val78 x y)
theorem cb10 : callable Tryz.prog 10 = true := by kernel_rfl
theorem ts53 : tsize Tryz.prog 53 = some 9 := by kernel_rfl
theorem fo53_2 : FO Tryz.prog 53 2 51 2 := by unfold FO; kernel_rfl
theorem fo51_2 : FO Tryz.prog 51 2 9 2 := by unfold FO; kernel_rfl
theorem cb5 : callable Tryz.prog 5 = true := by kernel_rfl
theorem fo115_2 : FO Tryz.prog 115 2 4 2 := by unfold FO; kernel_rfl
theorem fo115_0 : FO Tryz.prog 115 0 57 0 := by unfold FO; kernel_rfl
theorem fo115_1 : FO Tryz.prog 115 1 3 1 := by unfold FO; kernel_rfl
theorem cb91 : callable Tryz.prog 91 = true := by kernel_rfl
theorem cb59 : callable Tryz.prog 59 = true := by kernel_rfl
theorem bd45_ : abuild Tryz.prog 45 [] = some (.d (eApiColumn (ApiColumn.mk ([] : List UInt8) (0 : Int) (0 : Int) false (ApiValue.mk (0 : Int) (0 : UInt64) ([] : List UInt8))))) := by rfl
theorem cb92 : callable Tryz.prog 92 = true := by kernel_rfl
theorem cb93 : callable Tryz.prog 93 = true := by kernel_rfl
theorem cb60 : callable Tryz.prog 60 = true := by kernel_rfl
theorem bd56_ : abuild Tryz.prog 56 [] = some (.d (.agg [(eS ([] : List UInt8)), .nils, .nils, (eB false), (eB false), (eI (0 : Int))])) := by rfl
theorem cb61 : callable Tryz.prog 61 = true := by kernel_rfl
theorem cb31 : callable Tryz.prog 31 = true := by kernel_rfl
theorem cb42 : callable Tryz.prog 42 = true := by kernel_rfl
theorem cb124 : callable Tryz.prog 124 = true := by kernel_rfl
theorem cb111 : callable Tryz.prog 111 = true := by kernel_rfl
theorem cb75 : callable Tryz.prog 75 = true := by kernel_rfl
theorem cb43 : callable Tryz.prog 43 = true := by kernel_rfl
theorem cb76 : callable Tryz.prog 76 = true := by kernel_rfl
theorem cb44 : callable Tryz.prog 44 = true := by kernel_rfl
theorem cb77 : callable Tryz.prog 77 = true := by kernel_rfl
theorem cb45 : callable Tryz.prog 45 = true := by kernel_rfl
theorem cb47 : callable Tryz.prog 47 = true := by kernel_rfl
theorem cb46 : callable Tryz.prog 46 = true := by kernel_rfl
theorem cb78 : callable Tryz.prog 78 = true := by kernel_rfl
theorem cb48 : callable Tryz.prog 48 = true := by kernel_rfl
theorem cb23 : callable Tryz.prog 23 = true := by kernel_rfl
theorem cb24 : callable Tryz.prog 24 = true := by kernel_rfl
theorem bd73_ : abuild Tryz.prog 73 [] = some (.d (.agg [.nils])) := by rfl
theorem fo73_0 : FO Tryz.prog 73 0 57 0 := by unfold FO; kernel_rfl
theorem cb25 : callable Tryz.prog 25 = true := by kernel_rfl
theorem cb26 : callable Tryz.prog 26 = true := by kernel_rfl
theorem cb49 : callable Tryz.prog 49 = true := by kernel_rfl
theorem cb50 : callable Tryz.prog 50 = true := by kernel_rfl
theorem cb27 : callable Tryz.prog 27 = true := by kernel_rfl
theorem cb28 : callable Tryz.prog 28 = true := by kernel_rfl
theorem cb8 : callable Tryz.prog 8 = true := by kernel_rfl
theorem ut49 : Tryz.prog.underlying 49 = some (.struct (Tryz.prog.fieldsOf 49)) := by kernel_rfl
theorem fl49 : (Tryz.prog.fieldsOf 49).toList.map fsig = [(false, 9, 0), (false, 9, 1)] := by kernel_rfl
theorem sh49 : Tryz.prog.stoodInHeld 49 = false := by kernel_rfl
theorem eg49 : Tryz.prog.eqGuardType Tryz.prog.depth 49 = false := by kernel_rfl
theorem eqApiPair_val49 (x y : ApiPair) (d : Nat) : pr Tryz.prog (Op.equalIn (d + 2) 49 (.agg #[.string ⟨x.Key.toArray⟩, .string ⟨x.Val.toArray⟩]) (.agg #[.string ⟨y.Key.toArray⟩, .string ⟨y.Val.toArray⟩])) = some (eqApiPair x y) := eq_struct (d := d + 1) ut49 fl49 sh49 (.cons (part1 ta9 rfl) (part1 ta9 rfl) (eq_str (d := d + 0) un9 _ _) (.cons (part1 ta9 rfl) (part1 ta9 rfl) (eq_str (d := d + 0) un9 _ _) .nil))
theorem eqApiPair_neq_49 (X Y : Operand) (x y : ApiPair) : abinOp Tryz.prog .neq 49 X Y (.d (eApiPair x)) (.d (eApiPair y)) = some (.d (eB (!eqApiPair x y))) := b_struct_neq (L := 2) rfl rfl eg49 (by decide) (eqApiPair_val49 x y)
theorem cb9 : callable Tryz.prog 9 = true := by kernel_rfl
theorem cb12 : callable Tryz.prog 12 = true := by kernel_rfl
theorem cb13 : callable Tryz.prog 13 = true := by kernel_rfl
end Lv
