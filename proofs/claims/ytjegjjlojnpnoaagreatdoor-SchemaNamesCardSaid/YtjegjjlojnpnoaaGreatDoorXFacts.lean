/- Part of the proof of a law: facts of the program. -/
import Derived.Test.YtjegjjlojnpnoaaGreatDoorXTypes
import Derived.Test.YtjegjjlojnpnoaaGreatDoorProg
import Derived.KernelRfl
/- Part of the proof of a law: facts of the program. -/
namespace Lv
open Go Go.Proofs
set_option linter.unusedVariables false
set_option linter.unusedSimpArgs false
set_option linter.unusedSectionVars false
set_option maxRecDepth 100000
variable [BaseTab]
theorem zo26 : zeroOf Tryz.prog 26 = some (.agg [(eS ([] : List UInt8)), .nils, .nils, .nils, (eI (0 : Int))]) := by kernel_rfl
theorem bd40_0 (a0 : Int) : abuild Tryz.prog 40 [(0, .d (eI a0))] = some (.d (eApiValue (ApiValue.mk a0 (0 : UInt64) ([] : List UInt8)))) := by rfl
theorem bd42_0_1_4 (a0 : List UInt8) (a1 : Int) (a4 : ApiValue) : abuild Tryz.prog 42 [(0, .d (eS a0)), (1, .d (eI a1)), (4, .d (eApiValue a4))] = some (.d (eApiColumn (ApiColumn.mk a0 a1 (0 : Int) false a4))) := by rfl
theorem bd42_0_1_2_3 (a0 : List UInt8) (a1 : Int) (a2 : Int) (a3 : Bool) : abuild Tryz.prog 42 [(0, .d (eS a0)), (1, .d (eI a1)), (2, .d (eI a2)), (3, .d (eB a3))] = some (.d (eApiColumn (ApiColumn.mk a0 a1 a2 a3 (ApiValue.mk (0 : Int) (0 : UInt64) ([] : List UInt8))))) := by rfl
theorem un22 : Tryz.prog.underlying 22 = some (.slice 42) := by kernel_rfl
theorem ei42 : EI Tryz.prog 42 7 72 (eApiColumn (ApiColumn.mk ([] : List UInt8) (0 : Int) (0 : Int) false (ApiValue.mk (0 : Int) (0 : UInt64) ([] : List UInt8)))) := ⟨by kernel_rfl, by kernel_rfl, rfl, by decide, rfl, by decide⟩
theorem un23 : Tryz.prog.underlying 23 = some (.slice 3) := by kernel_rfl
theorem ei3 : EI Tryz.prog 3 1 8 (eI (0 : Int)) := ⟨by kernel_rfl, by kernel_rfl, rfl, by decide, rfl, by decide⟩
theorem bd26_0_1_2 (a0 : List UInt8) : abuild Tryz.prog 26 [(0, .d (eS a0)), (1, .slc 1 7 0 ([(ApiColumn.mk ([105, 100] : List UInt8) (1 : Int) (0 : Int) false (ApiValue.mk (1 : Int) (0 : UInt64) ([] : List UInt8))), (ApiColumn.mk ([110, 97, 109, 101] : List UInt8) (5 : Int) (4 : Int) true (ApiValue.mk (0 : Int) (0 : UInt64) ([] : List UInt8))), (ApiColumn.mk ([97, 103, 101] : List UInt8) (2 : Int) (0 : Int) false (ApiValue.mk (2 : Int) (0 : UInt64) ([] : List UInt8)))].length) none), (2, .slc 2 1 0 ([(0 : Int)].length) none)] = some (.agg [.d (eS a0), .slc 1 7 0 ([(ApiColumn.mk ([105, 100] : List UInt8) (1 : Int) (0 : Int) false (ApiValue.mk (1 : Int) (0 : UInt64) ([] : List UInt8))), (ApiColumn.mk ([110, 97, 109, 101] : List UInt8) (5 : Int) (4 : Int) true (ApiValue.mk (0 : Int) (0 : UInt64) ([] : List UInt8))), (ApiColumn.mk ([97, 103, 101] : List UInt8) (2 : Int) (0 : Int) false (ApiValue.mk (2 : Int) (0 : UInt64) ([] : List UInt8)))].length) none, .slc 2 1 0 ([(0 : Int)].length) none, .d .nils, .d (eI (0 : Int))]) := by rfl
theorem ts26 : tsize Tryz.prog 26 = some 5 := by kernel_rfl
theorem ta26 : tagg Tryz.prog 26 = some true := by kernel_rfl
theorem cb20 : callable Tryz.prog 20 = true := by kernel_rfl
theorem bd48_0_1 (a0 : Int) (a1 : Bool) : abuild Tryz.prog 48 [(0, .d (eI a0)), (1, .d (eB a1))] = some (.d (eApiPart (ApiPart.mk a0 a1))) := by rfl
theorem un27 : Tryz.prog.underlying 27 = some (.slice 48) := by kernel_rfl
theorem ei48 : EI Tryz.prog 48 2 16 (eApiPart (ApiPart.mk (0 : Int) false)) := ⟨by kernel_rfl, by kernel_rfl, rfl, by decide, rfl, by decide⟩
theorem bd29_0_1_2 (a0 : List UInt8) : abuild Tryz.prog 29 [(0, .d (eS a0)), (1, .slc 4 2 0 ([(ApiPart.mk (1 : Int) true)].length) none), (2, .slc 5 1 0 ([(2 : Int)].length) none)] = some (.agg [.d (eS a0), .slc 4 2 0 ([(ApiPart.mk (1 : Int) true)].length) none, .slc 5 1 0 ([(2 : Int)].length) none, .d (eB false), .d (eB false), .d (eI (0 : Int))]) := by rfl
theorem zo29 : zeroOf Tryz.prog 29 = some (.agg [(eS ([] : List UInt8)), .nils, .nils, (eB false), (eB false), (eI (0 : Int))]) := by kernel_rfl
theorem ts29 : tsize Tryz.prog 29 = some 6 := by kernel_rfl
theorem ta29 : tagg Tryz.prog 29 = some true := by kernel_rfl
theorem bd40_0_1 (a0 : Int) (a1 : UInt64) : abuild Tryz.prog 40 [(0, .d (eI a0)), (1, .d (eU64 a1))] = some (.d (eApiValue (ApiValue.mk a0 a1 ([] : List UInt8)))) := by rfl
theorem bd40_0_2 (a0 : Int) (a2 : List UInt8) : abuild Tryz.prog 40 [(0, .d (eI a0)), (2, .d (eS a2))] = some (.d (eApiValue (ApiValue.mk a0 (0 : UInt64) a2))) := by rfl
theorem un55 : Tryz.prog.underlying 55 = some (.slice 40) := by kernel_rfl
theorem ei40 : EI Tryz.prog 40 3 32 (eApiValue (ApiValue.mk (0 : Int) (0 : UInt64) ([] : List UInt8))) := ⟨by kernel_rfl, by kernel_rfl, rfl, by decide, rfl, by decide⟩
theorem zo52 : zeroOf Tryz.prog 52 = some (eApiPair (ApiPair.mk ([] : List UInt8) ([] : List UInt8))) := by kernel_rfl
theorem fo29_1 : FO Tryz.prog 29 1 27 1 := by unfold FO; kernel_rfl
theorem ts27 : tsize Tryz.prog 27 = some 1 := by kernel_rfl
theorem ta27 : tagg Tryz.prog 27 = some false := by kernel_rfl
theorem fo26_1 : FO Tryz.prog 26 1 22 1 := by unfold FO; kernel_rfl
theorem ts22 : tsize Tryz.prog 22 = some 1 := by kernel_rfl
theorem ta22 : tagg Tryz.prog 22 = some false := by kernel_rfl
theorem ts42 : tsize Tryz.prog 42 = some 7 := by kernel_rfl
theorem ta42 : tagg Tryz.prog 42 = some true := by kernel_rfl
theorem fo42_0 : FO Tryz.prog 42 0 9 0 := by unfold FO; kernel_rfl
theorem ts9 : tsize Tryz.prog 9 = some 1 := by kernel_rfl
theorem ta9 : tagg Tryz.prog 9 = some false := by kernel_rfl
theorem un9 : Tryz.prog.underlying 9 = some (.string) := by kernel_rfl
theorem cb33 : callable Tryz.prog 33 = true := by kernel_rfl
theorem fo42_1 : FO Tryz.prog 42 1 3 1 := by unfold FO; kernel_rfl
theorem ts3 : tsize Tryz.prog 3 = some 1 := by kernel_rfl
theorem ta3 : tagg Tryz.prog 3 = some false := by kernel_rfl
theorem cb64 : callable Tryz.prog 64 = true := by kernel_rfl
theorem fo42_2 : FO Tryz.prog 42 2 3 2 := by unfold FO; kernel_rfl
theorem fo42_4 : FO Tryz.prog 42 4 40 4 := by unfold FO; kernel_rfl
theorem ts40 : tsize Tryz.prog 40 = some 3 := by kernel_rfl
theorem ta40 : tagg Tryz.prog 40 = some true := by kernel_rfl
theorem fo40_0 : FO Tryz.prog 40 0 3 0 := by unfold FO; kernel_rfl
theorem bd40_ : abuild Tryz.prog 40 [] = some (.d (eApiValue (ApiValue.mk (0 : Int) (0 : UInt64) ([] : List UInt8)))) := by rfl
theorem ut40 : Tryz.prog.underlying 40 = some (.struct (Tryz.prog.fieldsOf 40)) := by kernel_rfl
theorem fl40 : (Tryz.prog.fieldsOf 40).toList.map fsig = [(false, 3, 0), (false, 38, 1), (false, 9, 2)] := by kernel_rfl
theorem sh40 : Tryz.prog.stoodInHeld 40 = false := by kernel_rfl
theorem eg40 : Tryz.prog.eqGuardType Tryz.prog.depth 40 = false := by kernel_rfl
theorem ta38 : tagg Tryz.prog 38 = some false := by kernel_rfl
theorem un38 : Tryz.prog.underlying 38 = some (.int .u64) := by kernel_rfl
theorem un3 : Tryz.prog.underlying 3 = some (.int .i64) := by kernel_rfl
theorem eqApiValue_val40 (x y : ApiValue) (d : Nat) : pr Tryz.prog (Op.equalIn (d + 2) 40 (.agg #[.int .i64 x.Kind, .int .u64 (x.N.toNat : Int), .string ⟨x.S.toArray⟩]) (.agg #[.int .i64 y.Kind, .int .u64 (y.N.toNat : Int), .string ⟨y.S.toArray⟩])) = some (eqApiValue x y) := eq_struct (d := d + 1) ut40 fl40 sh40 (.cons (part1 ta3 rfl) (part1 ta3 rfl) (eq_i64 (d := d + 0) un3 _ _) (.cons (part1 ta38 rfl) (part1 ta38 rfl) (eq_u64 (d := d + 0) un38 _ _) (.cons (part1 ta9 rfl) (part1 ta9 rfl) (eq_str (d := d + 0) un9 _ _) .nil)))
theorem eqApiValue_eql_40 (X Y : Operand) (x y : ApiValue) : abinOp Tryz.prog .eql 40 X Y (.d (eApiValue x)) (.d (eApiValue y)) = some (.d (eB (eqApiValue x y))) := b_struct_eql (L := 2) rfl rfl eg40 (by decide) (eqApiValue_val40 x y)
theorem fo40_2 : FO Tryz.prog 40 2 9 2 := by unfold FO; kernel_rfl
theorem fo40_1 : FO Tryz.prog 40 1 38 1 := by unfold FO; kernel_rfl
theorem ts38 : tsize Tryz.prog 38 = some 1 := by kernel_rfl
theorem cb82 : callable Tryz.prog 82 = true := by kernel_rfl
theorem cb74 : callable Tryz.prog 74 = true := by kernel_rfl
theorem fo42_3 : FO Tryz.prog 42 3 4 3 := by unfold FO; kernel_rfl
theorem ts4 : tsize Tryz.prog 4 = some 1 := by kernel_rfl
theorem ta4 : tagg Tryz.prog 4 = some false := by kernel_rfl
theorem cb65 : callable Tryz.prog 65 = true := by kernel_rfl
theorem cb53 : callable Tryz.prog 53 = true := by kernel_rfl
theorem cb79 : callable Tryz.prog 79 = true := by kernel_rfl
theorem cb86 : callable Tryz.prog 86 = true := by kernel_rfl
theorem cb78 : callable Tryz.prog 78 = true := by kernel_rfl
theorem cb68 : callable Tryz.prog 68 = true := by kernel_rfl
theorem zo40 : zeroOf Tryz.prog 40 = some (eApiValue (ApiValue.mk (0 : Int) (0 : UInt64) ([] : List UInt8))) := by kernel_rfl
theorem cb59 : callable Tryz.prog 59 = true := by kernel_rfl
theorem ts48 : tsize Tryz.prog 48 = some 2 := by kernel_rfl
theorem ta48 : tagg Tryz.prog 48 = some true := by kernel_rfl
theorem zo48 : zeroOf Tryz.prog 48 = some (eApiPart (ApiPart.mk (0 : Int) false)) := by kernel_rfl
theorem fo48_0 : FO Tryz.prog 48 0 3 0 := by unfold FO; kernel_rfl
theorem bc55 : byCount Tryz.prog 55 = false := by kernel_rfl
theorem fo48_1 : FO Tryz.prog 48 1 4 1 := by unfold FO; kernel_rfl
theorem un97 : Tryz.prog.underlying 97 = some (.slice 4) := by kernel_rfl
theorem ei4 : EI Tryz.prog 4 1 1 (eB false) := ⟨by kernel_rfl, by kernel_rfl, rfl, by decide, rfl, by decide⟩
theorem bc97 : byCount Tryz.prog 97 = false := by kernel_rfl
theorem cb76 : callable Tryz.prog 76 = true := by kernel_rfl
theorem cb83 : callable Tryz.prog 83 = true := by kernel_rfl
theorem cb75 : callable Tryz.prog 75 = true := by kernel_rfl
theorem zo90 : zeroOf Tryz.prog 90 = some (.agg [.nils]) := by kernel_rfl
theorem un88 : Tryz.prog.underlying 88 = some (.slice 5) := by kernel_rfl
theorem ei5 : EI Tryz.prog 5 1 1 (eU8 (0 : UInt8)) := ⟨by kernel_rfl, by kernel_rfl, rfl, by decide, rfl, by decide⟩
theorem un93 : Tryz.prog.underlying 93 = some (.pointer 90) := by kernel_rfl
theorem fo90_0 : FO Tryz.prog 90 0 88 0 := by unfold FO; kernel_rfl
theorem ts88 : tsize Tryz.prog 88 = some 1 := by kernel_rfl
theorem ta88 : tagg Tryz.prog 88 = some false := by kernel_rfl
theorem bc88 : byCount Tryz.prog 88 = false := by kernel_rfl
theorem cb69 : callable Tryz.prog 69 = true := by kernel_rfl
theorem cb70 : callable Tryz.prog 70 = true := by kernel_rfl
theorem un108 : Tryz.prog.underlying 108 = some (.int .u32) := by kernel_rfl
theorem un111 : Tryz.prog.underlying 111 = some (.int .u16) := by kernel_rfl
theorem un5 : Tryz.prog.underlying 5 = some (.int .u8) := by kernel_rfl
theorem cb81 : callable Tryz.prog 81 = true := by kernel_rfl
theorem cb80 : callable Tryz.prog 80 = true := by kernel_rfl
theorem cb71 : callable Tryz.prog 71 = true := by kernel_rfl
theorem cb60 : callable Tryz.prog 60 = true := by kernel_rfl
theorem cb62 : callable Tryz.prog 62 = true := by kernel_rfl
theorem cb84 : callable Tryz.prog 84 = true := by kernel_rfl
theorem bc9 : byCount Tryz.prog 9 = false := by kernel_rfl
theorem ts5 : tsize Tryz.prog 5 = some 1 := by kernel_rfl
theorem ta5 : tagg Tryz.prog 5 = some false := by kernel_rfl
theorem cb85 : callable Tryz.prog 85 = true := by kernel_rfl
theorem cb77 : callable Tryz.prog 77 = true := by kernel_rfl
theorem cb67 : callable Tryz.prog 67 = true := by kernel_rfl
theorem cb58 : callable Tryz.prog 58 = true := by kernel_rfl
theorem cb42 : callable Tryz.prog 42 = true := by kernel_rfl
theorem bd52_ : abuild Tryz.prog 52 [] = some (.d (eApiPair (ApiPair.mk ([] : List UInt8) ([] : List UInt8)))) := by rfl
theorem ts52 : tsize Tryz.prog 52 = some 2 := by kernel_rfl
theorem fo26_2 : FO Tryz.prog 26 2 23 2 := by unfold FO; kernel_rfl
theorem ts23 : tsize Tryz.prog 23 = some 1 := by kernel_rfl
theorem ta23 : tagg Tryz.prog 23 = some false := by kernel_rfl
theorem bd48_0 (a0 : Int) : abuild Tryz.prog 48 [(0, .d (eI a0))] = some (.d (eApiPart (ApiPart.mk a0 false))) := by rfl
theorem bc27 : byCount Tryz.prog 27 = false := by kernel_rfl
theorem cb38 : callable Tryz.prog 38 = true := by kernel_rfl
theorem cb43 : callable Tryz.prog 43 = true := by kernel_rfl
theorem bd52_0 (a0 : List UInt8) : abuild Tryz.prog 52 [(0, .d (eS a0))] = some (.d (eApiPair (ApiPair.mk a0 ([] : List UInt8)))) := by rfl
theorem fo29_2 : FO Tryz.prog 29 2 23 2 := by unfold FO; kernel_rfl
theorem bc22 : byCount Tryz.prog 22 = false := by kernel_rfl
theorem cb45 : callable Tryz.prog 45 = true := by kernel_rfl
theorem cb72 : callable Tryz.prog 72 = true := by kernel_rfl
theorem cb61 : callable Tryz.prog 61 = true := by kernel_rfl
theorem cb44 : callable Tryz.prog 44 = true := by kernel_rfl
theorem fo52_1 : FO Tryz.prog 52 1 9 1 := by unfold FO; kernel_rfl
theorem ta52 : tagg Tryz.prog 52 = some true := by kernel_rfl
theorem cb21 : callable Tryz.prog 21 = true := by kernel_rfl
theorem fo26_0 : FO Tryz.prog 26 0 9 0 := by unfold FO; kernel_rfl
theorem un69 : Tryz.prog.underlying 69 = some (.map 9 4) := by kernel_rfl
theorem zo42 : zeroOf Tryz.prog 42 = some (eApiColumn (ApiColumn.mk ([] : List UInt8) (0 : Int) (0 : Int) false (ApiValue.mk (0 : Int) (0 : UInt64) ([] : List UInt8)))) := by kernel_rfl
theorem zo4 : zeroOf Tryz.prog 4 = some (eB false) := by kernel_rfl
theorem cb34 : callable Tryz.prog 34 = true := by kernel_rfl
theorem un84 : Tryz.prog.underlying 84 = some (.map 3 4) := by kernel_rfl
theorem cb35 : callable Tryz.prog 35 = true := by kernel_rfl
theorem cb37 : callable Tryz.prog 37 = true := by kernel_rfl
theorem cb54 : callable Tryz.prog 54 = true := by kernel_rfl
theorem cb36 : callable Tryz.prog 36 = true := by kernel_rfl
theorem cb40 : callable Tryz.prog 40 = true := by kernel_rfl
theorem cb12 : callable Tryz.prog 12 = true := by kernel_rfl
theorem cb17 : callable Tryz.prog 17 = true := by kernel_rfl
theorem fo26_3 : FO Tryz.prog 26 3 24 3 := by unfold FO; kernel_rfl
theorem ts24 : tsize Tryz.prog 24 = some 1 := by kernel_rfl
theorem ta24 : tagg Tryz.prog 24 = some false := by kernel_rfl
theorem un24 : Tryz.prog.underlying 24 = some (.slice 29) := by kernel_rfl
theorem fo29_0 : FO Tryz.prog 29 0 9 0 := by unfold FO; kernel_rfl
theorem bc23 : byCount Tryz.prog 23 = false := by kernel_rfl
theorem cb55 : callable Tryz.prog 55 = true := by kernel_rfl
theorem zo23 : zeroOf Tryz.prog 23 = some .nils := by kernel_rfl
theorem cb66 : callable Tryz.prog 66 = true := by kernel_rfl
theorem cb57 : callable Tryz.prog 57 = true := by kernel_rfl
theorem cb56 : callable Tryz.prog 56 = true := by kernel_rfl
theorem cb39 : callable Tryz.prog 39 = true := by kernel_rfl
theorem cb10 : callable Tryz.prog 10 = true := by kernel_rfl
theorem fo52_0 : FO Tryz.prog 52 0 9 0 := by unfold FO; kernel_rfl
theorem cb5 : callable Tryz.prog 5 = true := by kernel_rfl
theorem cb22 : callable Tryz.prog 22 = true := by kernel_rfl
theorem cb73 : callable Tryz.prog 73 = true := by kernel_rfl
theorem cb63 : callable Tryz.prog 63 = true := by kernel_rfl
theorem cb46 : callable Tryz.prog 46 = true := by kernel_rfl
theorem cb23 : callable Tryz.prog 23 = true := by kernel_rfl
theorem cb47 : callable Tryz.prog 47 = true := by kernel_rfl
theorem cb24 : callable Tryz.prog 24 = true := by kernel_rfl
theorem cb41 : callable Tryz.prog 41 = true := by kernel_rfl
theorem cb13 : callable Tryz.prog 13 = true := by kernel_rfl
theorem cb25 : callable Tryz.prog 25 = true := by kernel_rfl
theorem cb18 : callable Tryz.prog 18 = true := by kernel_rfl
theorem cb48 : callable Tryz.prog 48 = true := by kernel_rfl
theorem cb26 : callable Tryz.prog 26 = true := by kernel_rfl
theorem cb6 : callable Tryz.prog 6 = true := by kernel_rfl
theorem cb49 : callable Tryz.prog 49 = true := by kernel_rfl
theorem cb50 : callable Tryz.prog 50 = true := by kernel_rfl
theorem ei29 : EI Tryz.prog 29 6 80 (.agg [(eS ([] : List UInt8)), .nils, .nils, (eB false), (eB false), (eI (0 : Int))]) := ⟨by kernel_rfl, by kernel_rfl, rfl, by decide, rfl, by decide⟩
theorem bc24 : byCount Tryz.prog 24 = false := by kernel_rfl
theorem cb51 : callable Tryz.prog 51 = true := by kernel_rfl
theorem cb52 : callable Tryz.prog 52 = true := by kernel_rfl
theorem cb27 : callable Tryz.prog 27 = true := by kernel_rfl
theorem bd26_ : abuild Tryz.prog 26 [] = some (.d (.agg [(eS ([] : List UInt8)), .nils, .nils, .nils, (eI (0 : Int))])) := by rfl
theorem cb28 : callable Tryz.prog 28 = true := by kernel_rfl
theorem cb7 : callable Tryz.prog 7 = true := by kernel_rfl
theorem cb30 : callable Tryz.prog 30 = true := by kernel_rfl
theorem cb29 : callable Tryz.prog 29 = true := by kernel_rfl
theorem cb31 : callable Tryz.prog 31 = true := by kernel_rfl
theorem cb8 : callable Tryz.prog 8 = true := by kernel_rfl
theorem fo26_4 : FO Tryz.prog 26 4 3 4 := by unfold FO; kernel_rfl
theorem cb32 : callable Tryz.prog 32 = true := by kernel_rfl
theorem ut42 : Tryz.prog.underlying 42 = some (.struct (Tryz.prog.fieldsOf 42)) := by kernel_rfl
theorem fl42 : (Tryz.prog.fieldsOf 42).toList.map fsig = [(false, 9, 0), (false, 3, 1), (false, 3, 2), (false, 4, 3), (false, 40, 4)] := by kernel_rfl
theorem sh42 : Tryz.prog.stoodInHeld 42 = false := by kernel_rfl
theorem eg42 : Tryz.prog.eqGuardType Tryz.prog.depth 42 = false := by kernel_rfl
theorem un4 : Tryz.prog.underlying 4 = some (.bool) := by kernel_rfl
theorem eqApiColumn_val42 (x y : ApiColumn) (d : Nat) : pr Tryz.prog (Op.equalIn (d + 3) 42 (.agg #[.string ⟨x.Name.toArray⟩, .int .i64 x.Kind, .int .i64 x.Max, .bool x.Nulls, .int .i64 x.Default.Kind, .int .u64 (x.Default.N.toNat : Int), .string ⟨x.Default.S.toArray⟩]) (.agg #[.string ⟨y.Name.toArray⟩, .int .i64 y.Kind, .int .i64 y.Max, .bool y.Nulls, .int .i64 y.Default.Kind, .int .u64 (y.Default.N.toNat : Int), .string ⟨y.Default.S.toArray⟩])) = some (eqApiColumn x y) := eq_struct (d := d + 2) ut42 fl42 sh42 (.cons (part1 ta9 rfl) (part1 ta9 rfl) (eq_str (d := d + 1) un9 _ _) (.cons (part1 ta3 rfl) (part1 ta3 rfl) (eq_i64 (d := d + 1) un3 _ _) (.cons (part1 ta3 rfl) (part1 ta3 rfl) (eq_i64 (d := d + 1) un3 _ _) (.cons (part1 ta4 rfl) (part1 ta4 rfl) (eq_bool (d := d + 1) un4 _ _) (.cons (partA ta40 ts40 rfl) (partA ta40 ts40 rfl) (eqApiValue_val40 x.Default y.Default (d + 0)) .nil)))))
theorem eqApiColumn_neq_42 (X Y : Operand) (x y : ApiColumn) : abinOp Tryz.prog .neq 42 X Y (.d (eApiColumn x)) (.d (eApiColumn y)) = some (.d (eB (!eqApiColumn x y))) := b_struct_neq (L := 3) rfl rfl eg42 (by decide) (eqApiColumn_val42 x y)
theorem fo29_3 : FO Tryz.prog 29 3 4 3 := by unfold FO; kernel_rfl
theorem fo29_4 : FO Tryz.prog 29 4 4 4 := by unfold FO; kernel_rfl
theorem fo29_5 : FO Tryz.prog 29 5 3 5 := by unfold FO; kernel_rfl
theorem ut48 : Tryz.prog.underlying 48 = some (.struct (Tryz.prog.fieldsOf 48)) := by kernel_rfl
theorem fl48 : (Tryz.prog.fieldsOf 48).toList.map fsig = [(false, 3, 0), (false, 4, 1)] := by kernel_rfl
theorem sh48 : Tryz.prog.stoodInHeld 48 = false := by kernel_rfl
theorem eg48 : Tryz.prog.eqGuardType Tryz.prog.depth 48 = false := by kernel_rfl
theorem eqApiPart_val48 (x y : ApiPart) (d : Nat) : pr Tryz.prog (Op.equalIn (d + 2) 48 (.agg #[.int .i64 x.Col, .bool x.Down]) (.agg #[.int .i64 y.Col, .bool y.Down])) = some (eqApiPart x y) := eq_struct (d := d + 1) ut48 fl48 sh48 (.cons (part1 ta3 rfl) (part1 ta3 rfl) (eq_i64 (d := d + 0) un3 _ _) (.cons (part1 ta4 rfl) (part1 ta4 rfl) (eq_bool (d := d + 0) un4 _ _) .nil))
theorem eqApiPart_neq_48 (X Y : Operand) (x y : ApiPart) : abinOp Tryz.prog .neq 48 X Y (.d (eApiPart x)) (.d (eApiPart y)) = some (.d (eB (!eqApiPart x y))) := b_struct_neq (L := 2) rfl rfl eg48 (by decide) (eqApiPart_val48 x y)
theorem cb9 : callable Tryz.prog 9 = true := by kernel_rfl
end Lv
