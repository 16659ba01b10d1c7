/- Part of the proof of a law: facts of the program. -/
import Derived.Test.YtmkgfooomdagmaaDoorXTypes
import Derived.Test.YtmkgfooomdagmaaDoorProg
import Derived.KernelRfl
/- Part of the proof of a law: facts of the program. -/
namespace Lv
open Go Go.Proofs
set_option linter.unusedVariables false
set_option linter.unusedSimpArgs false
set_option linter.unusedSectionVars false
set_option maxRecDepth 100000
variable [BaseTab]
theorem bd60_0 (a0 : Int) : abuild Tryd.prog 60 [(0, .d (eI a0))] = some (.d (eApiValue (ApiValue.mk a0 (0 : UInt64) ([] : List UInt8)))) := by rfl
theorem bd62_0_1_4 (a0 : List UInt8) (a1 : Int) (a4 : ApiValue) : abuild Tryd.prog 62 [(0, .d (eS a0)), (1, .d (eI a1)), (4, .d (eApiValue a4))] = some (.d (eApiColumn (ApiColumn.mk a0 a1 (0 : Int) false a4))) := by rfl
theorem un49 : Tryd.prog.underlying 49 = some (.slice 62) := by kernel_rfl
theorem ei62 : EI Tryd.prog 62 7 72 (eApiColumn (ApiColumn.mk ([] : List UInt8) (0 : Int) (0 : Int) false (ApiValue.mk (0 : Int) (0 : UInt64) ([] : List UInt8)))) := ⟨by kernel_rfl, by kernel_rfl, rfl, by decide, rfl, by decide⟩
theorem un50 : Tryd.prog.underlying 50 = some (.slice 3) := by kernel_rfl
theorem ei3 : EI Tryd.prog 3 1 8 (eI (0 : Int)) := ⟨by kernel_rfl, by kernel_rfl, rfl, by decide, rfl, by decide⟩
theorem bd53_0_1_2_4 (a0 : List UInt8) (a4 : Int) : abuild Tryd.prog 53 [(0, .d (eS a0)), (1, .slc 0 7 0 ([(ApiColumn.mk ([105, 100] : List UInt8) (1 : Int) (0 : Int) false (ApiValue.mk (1 : Int) (0 : UInt64) ([] : List UInt8)))].length) none), (2, .slc 1 1 0 ([(0 : Int)].length) none), (4, .d (eI a4))] = some (.agg [.d (eS a0), .slc 0 7 0 ([(ApiColumn.mk ([105, 100] : List UInt8) (1 : Int) (0 : Int) false (ApiValue.mk (1 : Int) (0 : UInt64) ([] : List UInt8)))].length) none, .slc 1 1 0 ([(0 : Int)].length) none, .d .nils, .d (eI a4)]) := by rfl
theorem zo53 : zeroOf Tryd.prog 53 = some (.agg [(eS ([] : List UInt8)), .nils, .nils, .nils, (eI (0 : Int))]) := by kernel_rfl
theorem ts53 : tsize Tryd.prog 53 = some 5 := by kernel_rfl
theorem ta53 : tagg Tryd.prog 53 = some true := by kernel_rfl
theorem zo99 : zeroOf Tryd.prog 99 = some .nilf := by kernel_rfl
theorem ts99 : tsize Tryd.prog 99 = some 1 := by kernel_rfl
theorem fo53_0 : FO Tryd.prog 53 0 9 0 := by unfold FO; kernel_rfl
theorem ts9 : tsize Tryd.prog 9 = some 1 := by kernel_rfl
theorem ta9 : tagg Tryd.prog 9 = some false := by kernel_rfl
theorem un9 : Tryd.prog.underlying 9 = some (.string) := by kernel_rfl
theorem cb60 : callable Tryd.prog 60 = true := by kernel_rfl
theorem fo53_1 : FO Tryd.prog 53 1 49 1 := by unfold FO; kernel_rfl
theorem ts49 : tsize Tryd.prog 49 = some 1 := by kernel_rfl
theorem ta49 : tagg Tryd.prog 49 = some false := by kernel_rfl
theorem un136 : Tryd.prog.underlying 136 = some (.map 9 4) := by kernel_rfl
theorem ts62 : tsize Tryd.prog 62 = some 7 := by kernel_rfl
theorem ta62 : tagg Tryd.prog 62 = some true := by kernel_rfl
theorem zo62 : zeroOf Tryd.prog 62 = some (eApiColumn (ApiColumn.mk ([] : List UInt8) (0 : Int) (0 : Int) false (ApiValue.mk (0 : Int) (0 : UInt64) ([] : List UInt8)))) := by kernel_rfl
theorem fo62_0 : FO Tryd.prog 62 0 9 0 := by unfold FO; kernel_rfl
theorem fo62_1 : FO Tryd.prog 62 1 3 1 := by unfold FO; kernel_rfl
theorem ts3 : tsize Tryd.prog 3 = some 1 := by kernel_rfl
theorem ta3 : tagg Tryd.prog 3 = some false := by kernel_rfl
theorem cb99 : callable Tryd.prog 99 = true := by kernel_rfl
theorem fo62_2 : FO Tryd.prog 62 2 3 2 := by unfold FO; kernel_rfl
theorem fo62_4 : FO Tryd.prog 62 4 60 4 := by unfold FO; kernel_rfl
theorem ts60 : tsize Tryd.prog 60 = some 3 := by kernel_rfl
theorem ta60 : tagg Tryd.prog 60 = some true := by kernel_rfl
theorem fo60_0 : FO Tryd.prog 60 0 3 0 := by unfold FO; kernel_rfl
theorem bd60_ : abuild Tryd.prog 60 [] = some (.d (eApiValue (ApiValue.mk (0 : Int) (0 : UInt64) ([] : List UInt8)))) := by rfl
theorem ut60 : Tryd.prog.underlying 60 = some (.struct (Tryd.prog.fieldsOf 60)) := by kernel_rfl
theorem fl60 : (Tryd.prog.fieldsOf 60).toList.map fsig = [(false, 3, 0), (false, 35, 1), (false, 9, 2)] := by kernel_rfl
theorem sh60 : Tryd.prog.stoodInHeld 60 = false := by kernel_rfl
theorem eg60 : Tryd.prog.eqGuardType Tryd.prog.depth 60 = false := by kernel_rfl
theorem ta35 : tagg Tryd.prog 35 = some false := by kernel_rfl
theorem un35 : Tryd.prog.underlying 35 = some (.int .u64) := by kernel_rfl
theorem un3 : Tryd.prog.underlying 3 = some (.int .i64) := by kernel_rfl
theorem eqApiValue_val60 (x y : ApiValue) (d : Nat) : pr Tryd.prog (Op.equalIn (d + 2) 60 (.agg #[.int .i64 x.Kind, .int .u64 (x.N.toNat : Int), .string ⟨x.S.toArray⟩]) (.agg #[.int .i64 y.Kind, .int .u64 (y.N.toNat : Int), .string ⟨y.S.toArray⟩])) = some (eqApiValue x y) := eq_struct (d := d + 1) ut60 fl60 sh60 (.cons (part1 ta3 rfl) (part1 ta3 rfl) (eq_i64 (d := d + 0) un3 _ _) (.cons (part1 ta35 rfl) (part1 ta35 rfl) (eq_u64 (d := d + 0) un35 _ _) (.cons (part1 ta9 rfl) (part1 ta9 rfl) (eq_str (d := d + 0) un9 _ _) .nil)))
theorem eqApiValue_eql_60 (X Y : Operand) (x y : ApiValue) : abinOp Tryd.prog .eql 60 X Y (.d (eApiValue x)) (.d (eApiValue y)) = some (.d (eB (eqApiValue x y))) := b_struct_eql (L := 2) rfl rfl eg60 (by decide) (eqApiValue_val60 x y)
theorem fo60_2 : FO Tryd.prog 60 2 9 2 := by unfold FO; kernel_rfl
theorem fo60_1 : FO Tryd.prog 60 1 35 1 := by unfold FO; kernel_rfl
theorem ts35 : tsize Tryd.prog 35 = some 1 := by kernel_rfl
theorem cb103 : callable Tryd.prog 103 = true := by kernel_rfl
theorem cb102 : callable Tryd.prog 102 = true := by kernel_rfl
theorem fo62_3 : FO Tryd.prog 62 3 4 3 := by unfold FO; kernel_rfl
theorem ts4 : tsize Tryd.prog 4 = some 1 := by kernel_rfl
theorem ta4 : tagg Tryd.prog 4 = some false := by kernel_rfl
theorem cb100 : callable Tryd.prog 100 = true := by kernel_rfl
theorem cb89 : callable Tryd.prog 89 = true := by kernel_rfl
theorem zo4 : zeroOf Tryd.prog 4 = some (eB false) := by kernel_rfl
theorem cb61 : callable Tryd.prog 61 = true := by kernel_rfl
theorem fo53_2 : FO Tryd.prog 53 2 50 2 := by unfold FO; kernel_rfl
theorem ts50 : tsize Tryd.prog 50 = some 1 := by kernel_rfl
theorem ta50 : tagg Tryd.prog 50 = some false := by kernel_rfl
theorem un154 : Tryd.prog.underlying 154 = some (.map 3 4) := by kernel_rfl
theorem cb62 : callable Tryd.prog 62 = true := by kernel_rfl
theorem cb64 : callable Tryd.prog 64 = true := by kernel_rfl
theorem cb90 : callable Tryd.prog 90 = true := by kernel_rfl
theorem cb63 : callable Tryd.prog 63 = true := by kernel_rfl
theorem cb91 : callable Tryd.prog 91 = true := by kernel_rfl
theorem cb65 : callable Tryd.prog 65 = true := by kernel_rfl
theorem bd92_0 (a0 : Int) : abuild Tryd.prog 92 [(0, .d (eI a0))] = some (.d (eApiPart (ApiPart.mk a0 false))) := by rfl
theorem un83 : Tryd.prog.underlying 83 = some (.slice 92) := by kernel_rfl
theorem ei92 : EI Tryd.prog 92 2 16 (eApiPart (ApiPart.mk (0 : Int) false)) := ⟨by kernel_rfl, by kernel_rfl, rfl, by decide, rfl, by decide⟩
theorem bc83 : byCount Tryd.prog 83 = false := by kernel_rfl
theorem cb67 : callable Tryd.prog 67 = true := by kernel_rfl
theorem ts92 : tsize Tryd.prog 92 = some 2 := by kernel_rfl
theorem ta92 : tagg Tryd.prog 92 = some true := by kernel_rfl
theorem zo92 : zeroOf Tryd.prog 92 = some (eApiPart (ApiPart.mk (0 : Int) false)) := by kernel_rfl
theorem fo92_0 : FO Tryd.prog 92 0 3 0 := by unfold FO; kernel_rfl
theorem cb66 : callable Tryd.prog 66 = true := by kernel_rfl
theorem fo53_3 : FO Tryd.prog 53 3 51 3 := by unfold FO; kernel_rfl
theorem ts51 : tsize Tryd.prog 51 = some 1 := by kernel_rfl
theorem ta51 : tagg Tryd.prog 51 = some false := by kernel_rfl
theorem un51 : Tryd.prog.underlying 51 = some (.slice 85) := by kernel_rfl
theorem ts85 : tsize Tryd.prog 85 = some 6 := by kernel_rfl
theorem ta85 : tagg Tryd.prog 85 = some true := by kernel_rfl
theorem zo85 : zeroOf Tryd.prog 85 = some (.agg [(eS ([] : List UInt8)), .nils, .nils, (eB false), (eB false), (eI (0 : Int))]) := by kernel_rfl
theorem fo85_0 : FO Tryd.prog 85 0 9 0 := by unfold FO; kernel_rfl
theorem fo85_1 : FO Tryd.prog 85 1 83 1 := by unfold FO; kernel_rfl
theorem ts83 : tsize Tryd.prog 83 = some 1 := by kernel_rfl
theorem ta83 : tagg Tryd.prog 83 = some false := by kernel_rfl
theorem bc50 : byCount Tryd.prog 50 = false := by kernel_rfl
theorem cb92 : callable Tryd.prog 92 = true := by kernel_rfl
theorem zo50 : zeroOf Tryd.prog 50 = some .nils := by kernel_rfl
theorem fo85_2 : FO Tryd.prog 85 2 50 2 := by unfold FO; kernel_rfl
theorem cb101 : callable Tryd.prog 101 = true := by kernel_rfl
theorem cb94 : callable Tryd.prog 94 = true := by kernel_rfl
theorem cb93 : callable Tryd.prog 93 = true := by kernel_rfl
theorem cb68 : callable Tryd.prog 68 = true := by kernel_rfl
theorem cb34 : callable Tryd.prog 34 = true := by kernel_rfl
theorem ta99 : tagg Tryd.prog 99 = some false := by kernel_rfl
theorem fo53_4 : FO Tryd.prog 53 4 3 4 := by unfold FO; kernel_rfl
theorem cb33 : callable Tryd.prog 33 = true := by kernel_rfl
theorem fo85_5 : FO Tryd.prog 85 5 3 5 := by unfold FO; kernel_rfl
theorem cb36 : callable Tryd.prog 36 = true := by kernel_rfl
theorem cb69 : callable Tryd.prog 69 = true := by kernel_rfl
theorem cb35 : callable Tryd.prog 35 = true := by kernel_rfl
theorem cb20 : callable Tryd.prog 20 = true := by kernel_rfl
theorem zo74 : zeroOf Tryd.prog 74 = some (.agg [.nils]) := by kernel_rfl
theorem un76 : Tryd.prog.underlying 76 = some (.int .u16) := by kernel_rfl
theorem un5 : Tryd.prog.underlying 5 = some (.int .u8) := by kernel_rfl
theorem un72 : Tryd.prog.underlying 72 = some (.slice 5) := by kernel_rfl
theorem ei5 : EI Tryd.prog 5 1 1 (eU8 (0 : UInt8)) := ⟨by kernel_rfl, by kernel_rfl, rfl, by decide, rfl, by decide⟩
theorem un79 : Tryd.prog.underlying 79 = some (.pointer 74) := by kernel_rfl
theorem fo74_0 : FO Tryd.prog 74 0 72 0 := by unfold FO; kernel_rfl
theorem ts72 : tsize Tryd.prog 72 = some 1 := by kernel_rfl
theorem ta72 : tagg Tryd.prog 72 = some false := by kernel_rfl
theorem bc72 : byCount Tryd.prog 72 = false := by kernel_rfl
theorem cb37 : callable Tryd.prog 37 = true := by kernel_rfl
theorem cb21 : callable Tryd.prog 21 = true := by kernel_rfl
theorem cb22 : callable Tryd.prog 22 = true := by kernel_rfl
theorem cb23 : callable Tryd.prog 23 = true := by kernel_rfl
theorem cb24 : callable Tryd.prog 24 = true := by kernel_rfl
theorem bd25_0_1 (a0 : List UInt8) (a1 : List UInt8) : abuild Tryd.prog 25 [(0, .d (eS a0)), (1, .d (eS a1))] = some (.d (eApiPair (ApiPair.mk a0 a1))) := by rfl
theorem un22 : Tryd.prog.underlying 22 = some (.slice 25) := by kernel_rfl
theorem ei25 : EI Tryd.prog 25 2 32 (eApiPair (ApiPair.mk ([] : List UInt8) ([] : List UInt8))) := ⟨by kernel_rfl, by kernel_rfl, rfl, by decide, rfl, by decide⟩
theorem cb25 : callable Tryd.prog 25 = true := by kernel_rfl
theorem bc9 : byCount Tryd.prog 9 = false := by kernel_rfl
theorem cb38 : callable Tryd.prog 38 = true := by kernel_rfl
theorem cb39 : callable Tryd.prog 39 = true := by kernel_rfl
theorem un128 : Tryd.prog.underlying 128 = some (.int .u32) := by kernel_rfl
theorem cb70 : callable Tryd.prog 70 = true := by kernel_rfl
theorem cb40 : callable Tryd.prog 40 = true := by kernel_rfl
theorem cb26 : callable Tryd.prog 26 = true := by kernel_rfl
theorem bc22 : byCount Tryd.prog 22 = false := by kernel_rfl
theorem fo92_1 : FO Tryd.prog 92 1 4 1 := by unfold FO; kernel_rfl
theorem fo85_3 : FO Tryd.prog 85 3 4 3 := by unfold FO; kernel_rfl
theorem fo85_4 : FO Tryd.prog 85 4 4 4 := by unfold FO; kernel_rfl
theorem cb27 : callable Tryd.prog 27 = true := by kernel_rfl
theorem cb11 : callable Tryd.prog 11 = true := by kernel_rfl
theorem ts22 : tsize Tryd.prog 22 = some 1 := by kernel_rfl
theorem ta22 : tagg Tryd.prog 22 = some false := by kernel_rfl
theorem ts25 : tsize Tryd.prog 25 = some 2 := by kernel_rfl
theorem fo25_0 : FO Tryd.prog 25 0 9 0 := by unfold FO; kernel_rfl
theorem cb41 : callable Tryd.prog 41 = true := by kernel_rfl
theorem bd53_ : abuild Tryd.prog 53 [] = some (.d (.agg [(eS ([] : List UInt8)), .nils, .nils, .nils, (eI (0 : Int))])) := by rfl
theorem bd53_0 (a0 : List UInt8) : abuild Tryd.prog 53 [(0, .d (eS a0))] = some (.d (.agg [(eS a0), .nils, .nils, .nils, (eI (0 : Int))])) := by rfl
theorem zo110 : zeroOf Tryd.prog 110 = some (.agg [.nilp]) := by kernel_rfl
theorem bd110_ : abuild Tryd.prog 110 [] = some (.d (.agg [.nilp])) := by rfl
theorem ts110 : tsize Tryd.prog 110 = some 1 := by kernel_rfl
theorem fo25_1 : FO Tryd.prog 25 1 9 1 := by unfold FO; kernel_rfl
theorem ts5 : tsize Tryd.prog 5 = some 1 := by kernel_rfl
theorem cb72 : callable Tryd.prog 72 = true := by kernel_rfl
theorem bd110_0 : abuild Tryd.prog 110 [(0, .ref 3 0 0)] = some (.agg [.ref 3 0 0]) := by rfl
theorem ta110 : tagg Tryd.prog 110 = some true := by kernel_rfl
theorem cb42 : callable Tryd.prog 42 = true := by kernel_rfl
theorem fo110_0 : FO Tryd.prog 110 0 108 0 := by unfold FO; kernel_rfl
theorem ts108 : tsize Tryd.prog 108 = some 1 := by kernel_rfl
theorem ta108 : tagg Tryd.prog 108 = some false := by kernel_rfl
theorem cb96 : callable Tryd.prog 96 = true := by kernel_rfl
theorem cb73 : callable Tryd.prog 73 = true := by kernel_rfl
theorem cb43 : callable Tryd.prog 43 = true := by kernel_rfl
theorem cb74 : callable Tryd.prog 74 = true := by kernel_rfl
theorem cb44 : callable Tryd.prog 44 = true := by kernel_rfl
theorem cb76 : callable Tryd.prog 76 = true := by kernel_rfl
theorem cb75 : callable Tryd.prog 75 = true := by kernel_rfl
theorem cb45 : callable Tryd.prog 45 = true := by kernel_rfl
theorem cb46 : callable Tryd.prog 46 = true := by kernel_rfl
theorem un108 : Tryd.prog.underlying 108 = some (.pointer 160) := by kernel_rfl
theorem fo160_1 : FO Tryd.prog 160 1 4 1 := by unfold FO; kernel_rfl
theorem fo160_0 : FO Tryd.prog 160 0 72 0 := by unfold FO; kernel_rfl
theorem ta5 : tagg Tryd.prog 5 = some false := by kernel_rfl
theorem cb77 : callable Tryd.prog 77 = true := by kernel_rfl
theorem cb97 : callable Tryd.prog 97 = true := by kernel_rfl
theorem cb78 : callable Tryd.prog 78 = true := by kernel_rfl
theorem cb79 : callable Tryd.prog 79 = true := by kernel_rfl
theorem bd62_0_1_2_3 (a0 : List UInt8) (a1 : Int) (a2 : Int) (a3 : Bool) : abuild Tryd.prog 62 [(0, .d (eS a0)), (1, .d (eI a1)), (2, .d (eI a2)), (3, .d (eB a3))] = some (.d (eApiColumn (ApiColumn.mk a0 a1 a2 a3 (ApiValue.mk (0 : Int) (0 : UInt64) ([] : List UInt8))))) := by rfl
theorem cb80 : callable Tryd.prog 80 = true := by kernel_rfl
theorem bd60_0_1_2 (a0 : Int) (a1 : UInt64) (a2 : List UInt8) : abuild Tryd.prog 60 [(0, .d (eI a0)), (1, .d (eU64 a1)), (2, .d (eS a2))] = some (.d (eApiValue (ApiValue.mk a0 a1 a2))) := by rfl
theorem cb47 : callable Tryd.prog 47 = true := by kernel_rfl
theorem bc49 : byCount Tryd.prog 49 = false := by kernel_rfl
theorem bd85_0 (a0 : List UInt8) : abuild Tryd.prog 85 [(0, .d (eS a0))] = some (.d (.agg [(eS a0), .nils, .nils, (eB false), (eB false), (eI (0 : Int))])) := by rfl
theorem cb82 : callable Tryd.prog 82 = true := by kernel_rfl
theorem cb81 : callable Tryd.prog 81 = true := by kernel_rfl
theorem cb48 : callable Tryd.prog 48 = true := by kernel_rfl
theorem ei85 : EI Tryd.prog 85 6 80 (.agg [(eS ([] : List UInt8)), .nils, .nils, (eB false), (eB false), (eI (0 : Int))]) := ⟨by kernel_rfl, by kernel_rfl, rfl, by decide, rfl, by decide⟩
theorem bc51 : byCount Tryd.prog 51 = false := by kernel_rfl
theorem cb28 : callable Tryd.prog 28 = true := by kernel_rfl
theorem un45 : Tryd.prog.underlying 45 = some (.slice 53) := by kernel_rfl
theorem ei53 : EI Tryd.prog 53 5 96 (.agg [(eS ([] : List UInt8)), .nils, .nils, .nils, (eI (0 : Int))]) := ⟨by kernel_rfl, by kernel_rfl, rfl, by decide, rfl, by decide⟩
theorem bc45 : byCount Tryd.prog 45 = false := by kernel_rfl
theorem cb12 : callable Tryd.prog 12 = true := by kernel_rfl
theorem bd25_0 (a0 : List UInt8) : abuild Tryd.prog 25 [(0, .d (eS a0))] = some (.d (eApiPair (ApiPair.mk a0 ([] : List UInt8)))) := by rfl
theorem un64 : Tryd.prog.underlying 64 = some (.map 9 9) := by kernel_rfl
theorem ta25 : tagg Tryd.prog 25 = some true := by kernel_rfl
theorem zo25 : zeroOf Tryd.prog 25 = some (eApiPair (ApiPair.mk ([] : List UInt8) ([] : List UInt8))) := by kernel_rfl
theorem un65 : Tryd.prog.underlying 65 = some (.slice 9) := by kernel_rfl
theorem ei9 : EI Tryd.prog 9 1 16 (eS ([] : List UInt8)) := ⟨by kernel_rfl, by kernel_rfl, rfl, by decide, rfl, by decide⟩
theorem bc65 : byCount Tryd.prog 65 = false := by kernel_rfl
theorem cb16 : callable Tryd.prog 16 = true := by kernel_rfl
theorem cb17 : callable Tryd.prog 17 = true := by kernel_rfl
theorem zo9 : zeroOf Tryd.prog 9 = some (eS ([] : List UInt8)) := by kernel_rfl
theorem bd37_1_2_4 (a1 : Int) (a2 : List UInt8) (a4 : List UInt8) : abuild Tryd.prog 37 [(1, .d (eI a1)), (2, .d (eS a2)), (4, .d (eS a4))] = some (.d (eApiMsg (ApiMsg.mk (0 : UInt64) a1 a2 (0 : UInt64) a4 (0 : Int) (0 : UInt64)))) := by rfl
theorem zo37 : zeroOf Tryd.prog 37 = some (eApiMsg (ApiMsg.mk (0 : UInt64) (0 : Int) ([] : List UInt8) (0 : UInt64) ([] : List UInt8) (0 : Int) (0 : UInt64))) := by kernel_rfl
theorem ts37 : tsize Tryd.prog 37 = some 7 := by kernel_rfl
theorem fo37_1 : FO Tryd.prog 37 1 3 1 := by unfold FO; kernel_rfl
theorem ta37 : tagg Tryd.prog 37 = some true := by kernel_rfl
theorem bd39_0_1_2 (a0 : Int) (a1 : Int) (a2 : ApiMsg) : abuild Tryd.prog 39 [(0, .d (eI a0)), (1, .d (eI a1)), (2, .d (eApiMsg a2))] = some (.d (eForestOp (ForestOp.mk a0 a1 a2))) := by rfl
theorem un26 : Tryd.prog.underlying 26 = some (.slice 39) := by kernel_rfl
theorem ei39 : EI Tryd.prog 39 9 88 (eForestOp (ForestOp.mk (0 : Int) (0 : Int) (ApiMsg.mk (0 : UInt64) (0 : Int) ([] : List UInt8) (0 : UInt64) ([] : List UInt8) (0 : Int) (0 : UInt64)))) := ⟨by kernel_rfl, by kernel_rfl, rfl, by decide, rfl, by decide⟩
theorem bc26 : byCount Tryd.prog 26 = false := by kernel_rfl
theorem cb7 : callable Tryd.prog 7 = true := by kernel_rfl
theorem cb29 : callable Tryd.prog 29 = true := by kernel_rfl
theorem ut62 : Tryd.prog.underlying 62 = some (.struct (Tryd.prog.fieldsOf 62)) := by kernel_rfl
theorem fl62 : (Tryd.prog.fieldsOf 62).toList.map fsig = [(false, 9, 0), (false, 3, 1), (false, 3, 2), (false, 4, 3), (false, 60, 4)] := by kernel_rfl
theorem sh62 : Tryd.prog.stoodInHeld 62 = false := by kernel_rfl
theorem eg62 : Tryd.prog.eqGuardType Tryd.prog.depth 62 = false := by kernel_rfl
theorem un4 : Tryd.prog.underlying 4 = some (.bool) := by kernel_rfl
theorem eqApiColumn_val62 (x y : ApiColumn) (d : Nat) : pr Tryd.prog (Op.equalIn (d + 3) 62 (.agg #[.string ⟨x.Name.toArray⟩, .int .i64 x.Kind, .int .i64 x.Max, .bool x.Nulls, .int .i64 x.Default.Kind, .int .u64 (x.Default.N.toNat : Int), .string ⟨x.Default.S.toArray⟩]) (.agg #[.string ⟨y.Name.toArray⟩, .int .i64 y.Kind, .int .i64 y.Max, .bool y.Nulls, .int .i64 y.Default.Kind, .int .u64 (y.Default.N.toNat : Int), .string ⟨y.Default.S.toArray⟩])) = some (eqApiColumn x y) := eq_struct (d := d + 2) ut62 fl62 sh62 (.cons (part1 ta9 rfl) (part1 ta9 rfl) (eq_str (d := d + 1) un9 _ _) (.cons (part1 ta3 rfl) (part1 ta3 rfl) (eq_i64 (d := d + 1) un3 _ _) (.cons (part1 ta3 rfl) (part1 ta3 rfl) (eq_i64 (d := d + 1) un3 _ _) (.cons (part1 ta4 rfl) (part1 ta4 rfl) (eq_bool (d := d + 1) un4 _ _) (.cons (partA ta60 ts60 rfl) (partA ta60 ts60 rfl) (eqApiValue_val60 x.Default y.Default (d + 0)) .nil)))))
theorem eqApiColumn_neq_62 (X Y : Operand) (x y : ApiColumn) : abinOp Tryd.prog .neq 62 X Y (.d (eApiColumn x)) (.d (eApiColumn y)) = some (.d (eB (!eqApiColumn x y))) := b_struct_neq (L := 3) rfl rfl eg62 (by decide) (eqApiColumn_val62 x y)
theorem ut92 : Tryd.prog.underlying 92 = some (.struct (Tryd.prog.fieldsOf 92)) := by kernel_rfl
theorem fl92 : (Tryd.prog.fieldsOf 92).toList.map fsig = [(false, 3, 0), (false, 4, 1)] := by kernel_rfl
theorem sh92 : Tryd.prog.stoodInHeld 92 = false := by kernel_rfl
theorem eg92 : Tryd.prog.eqGuardType Tryd.prog.depth 92 = false := by kernel_rfl
theorem eqApiPart_val92 (x y : ApiPart) (d : Nat) : pr Tryd.prog (Op.equalIn (d + 2) 92 (.agg #[.int .i64 x.Col, .bool x.Down]) (.agg #[.int .i64 y.Col, .bool y.Down])) = some (eqApiPart x y) := eq_struct (d := d + 1) ut92 fl92 sh92 (.cons (part1 ta3 rfl) (part1 ta3 rfl) (eq_i64 (d := d + 0) un3 _ _) (.cons (part1 ta4 rfl) (part1 ta4 rfl) (eq_bool (d := d + 0) un4 _ _) .nil))
theorem eqApiPart_neq_92 (X Y : Operand) (x y : ApiPart) : abinOp Tryd.prog .neq 92 X Y (.d (eApiPart x)) (.d (eApiPart y)) = some (.d (eB (!eqApiPart x y))) := b_struct_neq (L := 2) rfl rfl eg92 (by decide) (eqApiPart_val92 x y)
theorem cb15 : callable Tryd.prog 15 = true := by kernel_rfl
theorem ts39 : tsize Tryd.prog 39 = some 9 := by kernel_rfl
theorem fo39_2 : FO Tryd.prog 39 2 37 2 := by unfold FO; kernel_rfl
theorem fo37_2 : FO Tryd.prog 37 2 9 2 := by unfold FO; kernel_rfl
theorem cb6 : callable Tryd.prog 6 = true := by kernel_rfl
theorem bd33_ : abuild Tryd.prog 33 [] = some (.d (.agg [.nils])) := by rfl
theorem fo33_0 : FO Tryd.prog 33 0 31 0 := by unfold FO; kernel_rfl
theorem ts31 : tsize Tryd.prog 31 = some 1 := by kernel_rfl
theorem ta31 : tagg Tryd.prog 31 = some false := by kernel_rfl
theorem un31 : Tryd.prog.underlying 31 = some (.slice 42) := by kernel_rfl
theorem bd42_0 (a0 : List UInt8) : abuild Tryd.prog 42 [(0, .d (eS a0))] = some (.d (eApiEntry (ApiEntry.mk a0 false ([] : List UInt8) (0 : UInt64) false ([] : List UInt8)))) := by rfl
theorem zo42 : zeroOf Tryd.prog 42 = some (eApiEntry (ApiEntry.mk ([] : List UInt8) false ([] : List UInt8) (0 : UInt64) false ([] : List UInt8))) := by kernel_rfl
theorem fo42_1 : FO Tryd.prog 42 1 4 1 := by unfold FO; kernel_rfl
theorem fo42_2 : FO Tryd.prog 42 2 9 2 := by unfold FO; kernel_rfl
theorem bd97_0_1 (a0 : Bool) (a1 : List UInt8) : abuild Tryd.prog 97 [(0, .d (eB a0)), (1, .d (eS a1))] = some (.d (eGranaryref09Val (Granaryref09Val.mk a0 a1))) := by rfl
theorem zo97 : zeroOf Tryd.prog 97 = some (eGranaryref09Val (Granaryref09Val.mk false ([] : List UInt8))) := by kernel_rfl
theorem ts97 : tsize Tryd.prog 97 = some 2 := by kernel_rfl
theorem fo42_4 : FO Tryd.prog 42 4 4 4 := by unfold FO; kernel_rfl
theorem fo42_5 : FO Tryd.prog 42 5 9 5 := by unfold FO; kernel_rfl
theorem fo42_3 : FO Tryd.prog 42 3 35 3 := by unfold FO; kernel_rfl
theorem fo37_3 : FO Tryd.prog 37 3 35 3 := by unfold FO; kernel_rfl
theorem ta97 : tagg Tryd.prog 97 = some true := by kernel_rfl
theorem fo37_4 : FO Tryd.prog 37 4 9 4 := by unfold FO; kernel_rfl
theorem bd97_ : abuild Tryd.prog 97 [] = some (.d (eGranaryref09Val (Granaryref09Val.mk false ([] : List UInt8)))) := by rfl
theorem fo97_0 : FO Tryd.prog 97 0 4 0 := by unfold FO; kernel_rfl
theorem fo37_5 : FO Tryd.prog 37 5 3 5 := by unfold FO; kernel_rfl
theorem fo97_1 : FO Tryd.prog 97 1 9 1 := by unfold FO; kernel_rfl
theorem fo37_6 : FO Tryd.prog 37 6 35 6 := by unfold FO; kernel_rfl
theorem cb32 : callable Tryd.prog 32 = true := by kernel_rfl
theorem fo42_0 : FO Tryd.prog 42 0 9 0 := by unfold FO; kernel_rfl
theorem bd42_0_1_3 (a0 : List UInt8) (a1 : Bool) (a3 : UInt64) : abuild Tryd.prog 42 [(0, .d (eS a0)), (1, .d (eB a1)), (3, .d (eU64 a3))] = some (.d (eApiEntry (ApiEntry.mk a0 a1 ([] : List UInt8) a3 false ([] : List UInt8)))) := by rfl
theorem ts42 : tsize Tryd.prog 42 = some 6 := by kernel_rfl
theorem ta42 : tagg Tryd.prog 42 = some true := by kernel_rfl
theorem cb18 : callable Tryd.prog 18 = true := by kernel_rfl
theorem cb19 : callable Tryd.prog 19 = true := by kernel_rfl
theorem ei42 : EI Tryd.prog 42 6 72 (eApiEntry (ApiEntry.mk ([] : List UInt8) false ([] : List UInt8) (0 : UInt64) false ([] : List UInt8))) := ⟨by kernel_rfl, by kernel_rfl, rfl, by decide, rfl, by decide⟩
theorem bc31 : byCount Tryd.prog 31 = false := by kernel_rfl
theorem cb9 : callable Tryd.prog 9 = true := by kernel_rfl
theorem ut42 : Tryd.prog.underlying 42 = some (.struct (Tryd.prog.fieldsOf 42)) := by kernel_rfl
theorem fl42 : (Tryd.prog.fieldsOf 42).toList.map fsig = [(false, 9, 0), (false, 4, 1), (false, 9, 2), (false, 35, 3), (false, 4, 4), (false, 9, 5)] := by kernel_rfl
theorem sh42 : Tryd.prog.stoodInHeld 42 = false := by kernel_rfl
theorem eg42 : Tryd.prog.eqGuardType Tryd.prog.depth 42 = false := by kernel_rfl
theorem eqApiEntry_val42 (x y : ApiEntry) (d : Nat) : pr Tryd.prog (Op.equalIn (d + 2) 42 (.agg #[.string ⟨x.Key.toArray⟩, .bool x.Has, .string ⟨x.Val.toArray⟩, .int .u64 (x.Txn.toNat : Int), .bool x.New, .string ⟨x.NewVal.toArray⟩]) (.agg #[.string ⟨y.Key.toArray⟩, .bool y.Has, .string ⟨y.Val.toArray⟩, .int .u64 (y.Txn.toNat : Int), .bool y.New, .string ⟨y.NewVal.toArray⟩])) = some (eqApiEntry x y) := eq_struct (d := d + 1) ut42 fl42 sh42 (.cons (part1 ta9 rfl) (part1 ta9 rfl) (eq_str (d := d + 0) un9 _ _) (.cons (part1 ta4 rfl) (part1 ta4 rfl) (eq_bool (d := d + 0) un4 _ _) (.cons (part1 ta9 rfl) (part1 ta9 rfl) (eq_str (d := d + 0) un9 _ _) (.cons (part1 ta35 rfl) (part1 ta35 rfl) (eq_u64 (d := d + 0) un35 _ _) (.cons (part1 ta4 rfl) (part1 ta4 rfl) (eq_bool (d := d + 0) un4 _ _) (.cons (part1 ta9 rfl) (part1 ta9 rfl) (eq_str (d := d + 0) un9 _ _) .nil))))))
theorem eqApiEntry_neq_42 (X Y : Operand) (x y : ApiEntry) : abinOp Tryd.prog .neq 42 X Y (.d (eApiEntry x)) (.d (eApiEntry y)) = some (.d (eB (!eqApiEntry x y))) := b_struct_neq (L := 2) rfl rfl eg42 (by decide) (eqApiEntry_val42 x y)
theorem cb14 : callable Tryd.prog 14 = true := by kernel_rfl
end Lv
