/- Part of the proof of a law: facts of the program. -/
import Derived.Test.YtddopjhkmkoicaaGreatDoorXTypes
import Derived.Test.YtddopjhkmkoicaaGreatDoorProg
import Derived.KernelRfl
/- Part of the proof of a law: facts of the program. -/
namespace Lv
open Go Go.Proofs
set_option linter.unusedVariables false
set_option linter.unusedSimpArgs false
set_option linter.unusedSectionVars false
set_option maxRecDepth 100000
variable [BaseTab]
theorem bd68_0 (a0 : Int) : abuild Tryz.prog 68 [(0, .d (eI a0))] = some (.d (eApiValue (ApiValue.mk a0 (0 : UInt64) ([] : List UInt8)))) := by rfl
theorem bd77_0_1_4 (a0 : List UInt8) (a1 : Int) (a4 : ApiValue) : abuild Tryz.prog 77 [(0, .d (eS a0)), (1, .d (eI a1)), (4, .d (eApiValue a4))] = some (.d (eApiColumn (ApiColumn.mk a0 a1 (0 : Int) false a4))) := by rfl
theorem un22 : Tryz.prog.underlying 22 = some (.slice 77) := by kernel_rfl
theorem ei77 : EI Tryz.prog 77 7 72 (eApiColumn (ApiColumn.mk ([] : List UInt8) (0 : Int) (0 : Int) false (ApiValue.mk (0 : Int) (0 : UInt64) ([] : List UInt8)))) := ⟨by kernel_rfl, by kernel_rfl, rfl, by decide, rfl, by decide⟩
theorem un23 : Tryz.prog.underlying 23 = some (.slice 3) := by kernel_rfl
theorem ei3 : EI Tryz.prog 3 1 8 (eI (0 : Int)) := ⟨by kernel_rfl, by kernel_rfl, rfl, by decide, rfl, by decide⟩
theorem bd26_0_1_2_4 (a0 : List UInt8) (a4 : Int) : abuild Tryz.prog 26 [(0, .d (eS a0)), (1, .slc 0 7 0 ([(ApiColumn.mk ([105, 100] : List UInt8) (1 : Int) (0 : Int) false (ApiValue.mk (1 : Int) (0 : UInt64) ([] : List UInt8))), (ApiColumn.mk ([110] : List UInt8) (1 : Int) (0 : Int) false (ApiValue.mk (1 : Int) (0 : UInt64) ([] : List UInt8)))].length) none), (2, .slc 1 1 0 ([(0 : Int)].length) none), (4, .d (eI a4))] = some (.agg [.d (eS a0), .slc 0 7 0 ([(ApiColumn.mk ([105, 100] : List UInt8) (1 : Int) (0 : Int) false (ApiValue.mk (1 : Int) (0 : UInt64) ([] : List UInt8))), (ApiColumn.mk ([110] : List UInt8) (1 : Int) (0 : Int) false (ApiValue.mk (1 : Int) (0 : UInt64) ([] : List UInt8)))].length) none, .slc 1 1 0 ([(0 : Int)].length) none, .d .nils, .d (eI a4)]) := by rfl
theorem zo26 : zeroOf Tryz.prog 26 = some (.agg [(eS ([] : List UInt8)), .nils, .nils, .nils, (eI (0 : Int))]) := by kernel_rfl
theorem ts26 : tsize Tryz.prog 26 = some 5 := by kernel_rfl
theorem bd79_0 (a0 : Int) : abuild Tryz.prog 79 [(0, .d (eI a0))] = some (.d (eApiPart (ApiPart.mk a0 false))) := by rfl
theorem un80 : Tryz.prog.underlying 80 = some (.slice 79) := by kernel_rfl
theorem ei79 : EI Tryz.prog 79 2 16 (eApiPart (ApiPart.mk (0 : Int) false)) := ⟨by kernel_rfl, by kernel_rfl, rfl, by decide, rfl, by decide⟩
theorem bd82_0_1_3_4_5 (a0 : List UInt8) (a3 : Bool) (a4 : Bool) (a5 : Int) : abuild Tryz.prog 82 [(0, .d (eS a0)), (1, .slc 3 2 0 ([(ApiPart.mk (1 : Int) false)].length) none), (3, .d (eB a3)), (4, .d (eB a4)), (5, .d (eI a5))] = some (.agg [.d (eS a0), .slc 3 2 0 ([(ApiPart.mk (1 : Int) false)].length) none, .d .nils, .d (eB a3), .d (eB a4), .d (eI a5)]) := by rfl
theorem un24 : Tryz.prog.underlying 24 = some (.slice 82) := by kernel_rfl
theorem ei82 : EI Tryz.prog 82 6 80 (.agg [(eS ([] : List UInt8)), .nils, .nils, (eB false), (eB false), (eI (0 : Int))]) := ⟨by kernel_rfl, by kernel_rfl, rfl, by decide, rfl, by decide⟩
theorem fo26_3 : FO Tryz.prog 26 3 24 3 := by unfold FO; kernel_rfl
theorem ts24 : tsize Tryz.prog 24 = some 1 := by kernel_rfl
theorem ta26 : tagg Tryz.prog 26 = some true := by kernel_rfl
theorem un27 : Tryz.prog.underlying 27 = some (.slice 99) := by kernel_rfl
theorem ei99 : EI Tryz.prog 99 2 24 (eFanBuilt (FanBuilt.mk ([] : List UInt8) false)) := ⟨by kernel_rfl, by kernel_rfl, rfl, by decide, rfl, by decide⟩
theorem bd68_0_1 (a0 : Int) (a1 : UInt64) : abuild Tryz.prog 68 [(0, .d (eI a0)), (1, .d (eU64 a1))] = some (.d (eApiValue (ApiValue.mk a0 a1 ([] : List UInt8)))) := by rfl
theorem un28 : Tryz.prog.underlying 28 = some (.slice 68) := by kernel_rfl
theorem ei68 : EI Tryz.prog 68 3 32 (eApiValue (ApiValue.mk (0 : Int) (0 : UInt64) ([] : List UInt8))) := ⟨by kernel_rfl, by kernel_rfl, rfl, by decide, rfl, by decide⟩
theorem zo40 : zeroOf Tryz.prog 40 = some (.agg [.nils, .nils, .nils]) := by kernel_rfl
theorem ta24 : tagg Tryz.prog 24 = some false := by kernel_rfl
theorem bd40_ : abuild Tryz.prog 40 [] = some (.d (.agg [.nils, .nils, .nils])) := by rfl
theorem ts40 : tsize Tryz.prog 40 = some 3 := by kernel_rfl
theorem zo91 : zeroOf Tryz.prog 91 = some (.agg [.nils, (eS ([] : List UInt8))]) := by kernel_rfl
theorem bd91_ : abuild Tryz.prog 91 [] = some (.d (.agg [.nils, (eS ([] : List UInt8))])) := by rfl
theorem ts91 : tsize Tryz.prog 91 = some 2 := by kernel_rfl
theorem fo26_2 : FO Tryz.prog 26 2 23 2 := by unfold FO; kernel_rfl
theorem ts23 : tsize Tryz.prog 23 = some 1 := by kernel_rfl
theorem ta23 : tagg Tryz.prog 23 = some false := by kernel_rfl
theorem ts3 : tsize Tryz.prog 3 = some 1 := by kernel_rfl
theorem ta3 : tagg Tryz.prog 3 = some false := by kernel_rfl
theorem bc80 : byCount Tryz.prog 80 = false := by kernel_rfl
theorem cb78 : callable Tryz.prog 78 = true := by kernel_rfl
theorem fo26_1 : FO Tryz.prog 26 1 22 1 := by unfold FO; kernel_rfl
theorem ts22 : tsize Tryz.prog 22 = some 1 := by kernel_rfl
theorem ta22 : tagg Tryz.prog 22 = some false := by kernel_rfl
theorem ts77 : tsize Tryz.prog 77 = some 7 := by kernel_rfl
theorem ta77 : tagg Tryz.prog 77 = some true := by kernel_rfl
theorem fo77_0 : FO Tryz.prog 77 0 9 0 := by unfold FO; kernel_rfl
theorem ts9 : tsize Tryz.prog 9 = some 1 := by kernel_rfl
theorem ta9 : tagg Tryz.prog 9 = some false := by kernel_rfl
theorem un9 : Tryz.prog.underlying 9 = some (.string) := by kernel_rfl
theorem cb113 : callable Tryz.prog 113 = true := by kernel_rfl
theorem fo77_1 : FO Tryz.prog 77 1 3 1 := by unfold FO; kernel_rfl
theorem cb114 : callable Tryz.prog 114 = true := by kernel_rfl
theorem fo77_2 : FO Tryz.prog 77 2 3 2 := by unfold FO; kernel_rfl
theorem fo77_4 : FO Tryz.prog 77 4 68 4 := by unfold FO; kernel_rfl
theorem ts68 : tsize Tryz.prog 68 = some 3 := by kernel_rfl
theorem ta68 : tagg Tryz.prog 68 = some true := by kernel_rfl
theorem fo68_0 : FO Tryz.prog 68 0 3 0 := by unfold FO; kernel_rfl
theorem bd68_ : abuild Tryz.prog 68 [] = some (.d (eApiValue (ApiValue.mk (0 : Int) (0 : UInt64) ([] : List UInt8)))) := by rfl
theorem ut68 : Tryz.prog.underlying 68 = some (.struct (Tryz.prog.fieldsOf 68)) := by kernel_rfl
theorem fl68 : (Tryz.prog.fieldsOf 68).toList.map fsig = [(false, 3, 0), (false, 54, 1), (false, 9, 2)] := by kernel_rfl
theorem sh68 : Tryz.prog.stoodInHeld 68 = false := by kernel_rfl
theorem eg68 : Tryz.prog.eqGuardType Tryz.prog.depth 68 = false := by kernel_rfl
theorem ta54 : tagg Tryz.prog 54 = some false := by kernel_rfl
theorem un54 : Tryz.prog.underlying 54 = some (.int .u64) := by kernel_rfl
theorem un3 : Tryz.prog.underlying 3 = some (.int .i64) := by kernel_rfl
theorem eqApiValue_val68 (x y : ApiValue) (d : Nat) : pr Tryz.prog (Op.equalIn (d + 2) 68 (.agg #[.int .i64 x.Kind, .int .u64 (x.N.toNat : Int), .string ⟨x.S.toArray⟩]) (.agg #[.int .i64 y.Kind, .int .u64 (y.N.toNat : Int), .string ⟨y.S.toArray⟩])) = some (eqApiValue x y) := eq_struct (d := d + 1) ut68 fl68 sh68 (.cons (part1 ta3 rfl) (part1 ta3 rfl) (eq_i64 (d := d + 0) un3 _ _) (.cons (part1 ta54 rfl) (part1 ta54 rfl) (eq_u64 (d := d + 0) un54 _ _) (.cons (part1 ta9 rfl) (part1 ta9 rfl) (eq_str (d := d + 0) un9 _ _) .nil)))
theorem eqApiValue_eql_68 (X Y : Operand) (x y : ApiValue) : abinOp Tryz.prog .eql 68 X Y (.d (eApiValue x)) (.d (eApiValue y)) = some (.d (eB (eqApiValue x y))) := b_struct_eql (L := 2) rfl rfl eg68 (by decide) (eqApiValue_val68 x y)
theorem eqApiValue_neq_68 (X Y : Operand) (x y : ApiValue) : abinOp Tryz.prog .neq 68 X Y (.d (eApiValue x)) (.d (eApiValue y)) = some (.d (eB (!eqApiValue x y))) := b_struct_neq (L := 2) rfl rfl eg68 (by decide) (eqApiValue_val68 x y)
theorem fo68_2 : FO Tryz.prog 68 2 9 2 := by unfold FO; kernel_rfl
theorem fo68_1 : FO Tryz.prog 68 1 54 1 := by unfold FO; kernel_rfl
theorem ts54 : tsize Tryz.prog 54 = some 1 := by kernel_rfl
theorem cb130 : callable Tryz.prog 130 = true := by kernel_rfl
theorem cb119 : callable Tryz.prog 119 = true := by kernel_rfl
theorem fo77_3 : FO Tryz.prog 77 3 4 3 := by unfold FO; kernel_rfl
theorem ts4 : tsize Tryz.prog 4 = some 1 := by kernel_rfl
theorem ta4 : tagg Tryz.prog 4 = some false := by kernel_rfl
theorem cb96 : callable Tryz.prog 96 = true := by kernel_rfl
theorem cb90 : callable Tryz.prog 90 = true := by kernel_rfl
theorem cb89 : callable Tryz.prog 89 = true := by kernel_rfl
theorem cb112 : callable Tryz.prog 112 = true := by kernel_rfl
theorem cb88 : callable Tryz.prog 88 = true := by kernel_rfl
theorem cb59 : callable Tryz.prog 59 = true := by kernel_rfl
theorem zo68 : zeroOf Tryz.prog 68 = some (eApiValue (ApiValue.mk (0 : Int) (0 : UInt64) ([] : List UInt8))) := by kernel_rfl
theorem cb64 : callable Tryz.prog 64 = true := by kernel_rfl
theorem ts79 : tsize Tryz.prog 79 = some 2 := by kernel_rfl
theorem ta79 : tagg Tryz.prog 79 = some true := by kernel_rfl
theorem zo79 : zeroOf Tryz.prog 79 = some (eApiPart (ApiPart.mk (0 : Int) false)) := by kernel_rfl
theorem fo79_0 : FO Tryz.prog 79 0 3 0 := by unfold FO; kernel_rfl
theorem bc28 : byCount Tryz.prog 28 = false := by kernel_rfl
theorem fo79_1 : FO Tryz.prog 79 1 4 1 := by unfold FO; kernel_rfl
theorem un177 : Tryz.prog.underlying 177 = some (.slice 4) := by kernel_rfl
theorem ei4 : EI Tryz.prog 4 1 1 (eB false) := ⟨by kernel_rfl, by kernel_rfl, rfl, by decide, rfl, by decide⟩
theorem bc177 : byCount Tryz.prog 177 = false := by kernel_rfl
theorem cb125 : callable Tryz.prog 125 = true := by kernel_rfl
theorem cb131 : callable Tryz.prog 131 = true := by kernel_rfl
theorem cb124 : callable Tryz.prog 124 = true := by kernel_rfl
theorem zo139 : zeroOf Tryz.prog 139 = some (.agg [.nils]) := by kernel_rfl
theorem un125 : Tryz.prog.underlying 125 = some (.slice 5) := by kernel_rfl
theorem ei5 : EI Tryz.prog 5 1 1 (eU8 (0 : UInt8)) := ⟨by kernel_rfl, by kernel_rfl, rfl, by decide, rfl, by decide⟩
theorem un142 : Tryz.prog.underlying 142 = some (.pointer 139) := by kernel_rfl
theorem fo139_0 : FO Tryz.prog 139 0 125 0 := by unfold FO; kernel_rfl
theorem ts125 : tsize Tryz.prog 125 = some 1 := by kernel_rfl
theorem ta125 : tagg Tryz.prog 125 = some false := by kernel_rfl
theorem bc125 : byCount Tryz.prog 125 = false := by kernel_rfl
theorem cb99 : callable Tryz.prog 99 = true := by kernel_rfl
theorem cb100 : callable Tryz.prog 100 = true := by kernel_rfl
theorem un191 : Tryz.prog.underlying 191 = some (.int .u32) := by kernel_rfl
theorem un194 : Tryz.prog.underlying 194 = some (.int .u16) := by kernel_rfl
theorem un5 : Tryz.prog.underlying 5 = some (.int .u8) := by kernel_rfl
theorem cb122 : callable Tryz.prog 122 = true := by kernel_rfl
theorem cb121 : callable Tryz.prog 121 = true := by kernel_rfl
theorem cb101 : callable Tryz.prog 101 = true := by kernel_rfl
theorem cb65 : callable Tryz.prog 65 = true := by kernel_rfl
theorem cb67 : callable Tryz.prog 67 = true := by kernel_rfl
theorem cb132 : callable Tryz.prog 132 = true := by kernel_rfl
theorem bc9 : byCount Tryz.prog 9 = false := by kernel_rfl
theorem ts5 : tsize Tryz.prog 5 = some 1 := by kernel_rfl
theorem ta5 : tagg Tryz.prog 5 = some false := by kernel_rfl
theorem cb133 : callable Tryz.prog 133 = true := by kernel_rfl
theorem cb126 : callable Tryz.prog 126 = true := by kernel_rfl
theorem cb107 : callable Tryz.prog 107 = true := by kernel_rfl
theorem cb77 : callable Tryz.prog 77 = true := by kernel_rfl
theorem cb45 : callable Tryz.prog 45 = true := by kernel_rfl
theorem bd91_0_1 (a0 : List ApiValue) (a1 : List UInt8) : abuild Tryz.prog 91 [(0, .d ((eL 3 eApiValue) a0)), (1, .d (eS a1))] = some (.d (eFanSide (FanSide.mk a0 a1))) := by rfl
theorem ta91 : tagg Tryz.prog 91 = some true := by kernel_rfl
theorem cb29 : callable Tryz.prog 29 = true := by kernel_rfl
theorem fo91_1 : FO Tryz.prog 91 1 9 1 := by unfold FO; kernel_rfl
theorem fo91_0 : FO Tryz.prog 91 0 28 0 := by unfold FO; kernel_rfl
theorem ts28 : tsize Tryz.prog 28 = some 1 := by kernel_rfl
theorem ta28 : tagg Tryz.prog 28 = some false := by kernel_rfl
theorem cb30 : callable Tryz.prog 30 = true := by kernel_rfl
theorem fo26_4 : FO Tryz.prog 26 4 3 4 := by unfold FO; kernel_rfl
theorem fo40_1 : FO Tryz.prog 40 1 37 1 := by unfold FO; kernel_rfl
theorem ts37 : tsize Tryz.prog 37 = some 1 := by kernel_rfl
theorem ta37 : tagg Tryz.prog 37 = some false := by kernel_rfl
theorem zo31 : zeroOf Tryz.prog 31 = some (eApiSpan (ApiSpan.mk ([] : List UInt8) ([] : List UInt8) false)) := by kernel_rfl
theorem bd31_0_1 (a0 : List UInt8) (a1 : List UInt8) : abuild Tryz.prog 31 [(0, .d (eS a0)), (1, .d (eS a1))] = some (.d (eApiSpan (ApiSpan.mk a0 a1 false))) := by rfl
theorem ts31 : tsize Tryz.prog 31 = some 3 := by kernel_rfl
theorem ta31 : tagg Tryz.prog 31 = some true := by kernel_rfl
theorem cb6 : callable Tryz.prog 6 = true := by kernel_rfl
theorem bd137_0_1_2 (a0 : Int) (a1 : ApiSpan) (a2 : Bool) : abuild Tryz.prog 137 [(0, .d (eI a0)), (1, .d (eApiSpan a1)), (2, .d (eB a2))] = some (.d (eApiLock (ApiLock.mk a0 a1 a2))) := by rfl
theorem un37 : Tryz.prog.underlying 37 = some (.slice 137) := by kernel_rfl
theorem ei137 : EI Tryz.prog 137 5 56 (eApiLock (ApiLock.mk (0 : Int) (ApiSpan.mk ([] : List UInt8) ([] : List UInt8) false) false)) := ⟨by kernel_rfl, by kernel_rfl, rfl, by decide, rfl, by decide⟩
theorem bc37 : byCount Tryz.prog 37 = false := by kernel_rfl
theorem cb31 : callable Tryz.prog 31 = true := by kernel_rfl
theorem cb32 : callable Tryz.prog 32 = true := by kernel_rfl
theorem ta40 : tagg Tryz.prog 40 = some true := by kernel_rfl
theorem cb102 : callable Tryz.prog 102 = true := by kernel_rfl
theorem cb66 : callable Tryz.prog 66 = true := by kernel_rfl
theorem cb33 : callable Tryz.prog 33 = true := by kernel_rfl
theorem bd63_1_2_4 (a1 : Int) (a2 : List UInt8) (a4 : List UInt8) : abuild Tryz.prog 63 [(1, .d (eI a1)), (2, .d (eS a2)), (4, .d (eS a4))] = some (.d (eApiMsg (ApiMsg.mk (0 : UInt64) a1 a2 (0 : UInt64) a4 (0 : Int) (0 : UInt64)))) := by rfl
theorem fo40_0 : FO Tryz.prog 40 0 36 0 := by unfold FO; kernel_rfl
theorem ts36 : tsize Tryz.prog 36 = some 1 := by kernel_rfl
theorem ta36 : tagg Tryz.prog 36 = some false := by kernel_rfl
theorem ts63 : tsize Tryz.prog 63 = some 7 := by kernel_rfl
theorem ta63 : tagg Tryz.prog 63 = some true := by kernel_rfl
theorem bd65_0_1_2 (a0 : Int) (a1 : Int) (a2 : ApiMsg) : abuild Tryz.prog 65 [(0, .d (eI a0)), (1, .d (eI a1)), (2, .d (eApiMsg a2))] = some (.d (eForestOp (ForestOp.mk a0 a1 a2))) := by rfl
theorem un36 : Tryz.prog.underlying 36 = some (.slice 65) := by kernel_rfl
theorem ei65 : EI Tryz.prog 65 9 88 (eForestOp (ForestOp.mk (0 : Int) (0 : Int) (ApiMsg.mk (0 : UInt64) (0 : Int) ([] : List UInt8) (0 : UInt64) ([] : List UInt8) (0 : Int) (0 : UInt64)))) := ⟨by kernel_rfl, by kernel_rfl, rfl, by decide, rfl, by decide⟩
theorem bc36 : byCount Tryz.prog 36 = false := by kernel_rfl
theorem cb34 : callable Tryz.prog 34 = true := by kernel_rfl
theorem bd63_1_2 (a1 : Int) (a2 : List UInt8) : abuild Tryz.prog 63 [(1, .d (eI a1)), (2, .d (eS a2))] = some (.d (eApiMsg (ApiMsg.mk (0 : UInt64) a1 a2 (0 : UInt64) ([] : List UInt8) (0 : Int) (0 : UInt64)))) := by rfl
theorem ts82 : tsize Tryz.prog 82 = some 6 := by kernel_rfl
theorem ta82 : tagg Tryz.prog 82 = some true := by kernel_rfl
theorem zo82 : zeroOf Tryz.prog 82 = some (.agg [(eS ([] : List UInt8)), .nils, .nils, (eB false), (eB false), (eI (0 : Int))]) := by kernel_rfl
theorem fo82_4 : FO Tryz.prog 82 4 4 4 := by unfold FO; kernel_rfl
theorem ts99 : tsize Tryz.prog 99 = some 2 := by kernel_rfl
theorem fo99_1 : FO Tryz.prog 99 1 4 1 := by unfold FO; kernel_rfl
theorem fo99_0 : FO Tryz.prog 99 0 9 0 := by unfold FO; kernel_rfl
theorem zo145 : zeroOf Tryz.prog 145 = some (eApiPair (ApiPair.mk ([] : List UInt8) ([] : List UInt8))) := by kernel_rfl
theorem fo82_1 : FO Tryz.prog 82 1 80 1 := by unfold FO; kernel_rfl
theorem ts80 : tsize Tryz.prog 80 = some 1 := by kernel_rfl
theorem ta80 : tagg Tryz.prog 80 = some false := by kernel_rfl
theorem cb69 : callable Tryz.prog 69 = true := by kernel_rfl
theorem bd145_ : abuild Tryz.prog 145 [] = some (.d (eApiPair (ApiPair.mk ([] : List UInt8) ([] : List UInt8)))) := by rfl
theorem ts145 : tsize Tryz.prog 145 = some 2 := by kernel_rfl
theorem bd145_0 (a0 : List UInt8) : abuild Tryz.prog 145 [(0, .d (eS a0))] = some (.d (eApiPair (ApiPair.mk a0 ([] : List UInt8)))) := by rfl
theorem fo82_2 : FO Tryz.prog 82 2 23 2 := by unfold FO; kernel_rfl
theorem bc22 : byCount Tryz.prog 22 = false := by kernel_rfl
theorem cb103 : callable Tryz.prog 103 = true := by kernel_rfl
theorem fo145_1 : FO Tryz.prog 145 1 9 1 := by unfold FO; kernel_rfl
theorem ta145 : tagg Tryz.prog 145 = some true := by kernel_rfl
theorem cb68 : callable Tryz.prog 68 = true := by kernel_rfl
theorem ut145 : Tryz.prog.underlying 145 = some (.struct (Tryz.prog.fieldsOf 145)) := by kernel_rfl
theorem fl145 : (Tryz.prog.fieldsOf 145).toList.map fsig = [(false, 9, 0), (false, 9, 1)] := by kernel_rfl
theorem sh145 : Tryz.prog.stoodInHeld 145 = false := by kernel_rfl
theorem eg145 : Tryz.prog.eqGuardType Tryz.prog.depth 145 = false := by kernel_rfl
theorem eqApiPair_val145 (x y : ApiPair) (d : Nat) : pr Tryz.prog (Op.equalIn (d + 2) 145 (.agg #[.string ⟨x.Key.toArray⟩, .string ⟨x.Val.toArray⟩]) (.agg #[.string ⟨y.Key.toArray⟩, .string ⟨y.Val.toArray⟩])) = some (eqApiPair x y) := eq_struct (d := d + 1) ut145 fl145 sh145 (.cons (part1 ta9 rfl) (part1 ta9 rfl) (eq_str (d := d + 0) un9 _ _) (.cons (part1 ta9 rfl) (part1 ta9 rfl) (eq_str (d := d + 0) un9 _ _) .nil))
theorem eqApiPair_eql_145 (X Y : Operand) (x y : ApiPair) : abinOp Tryz.prog .eql 145 X Y (.d (eApiPair x)) (.d (eApiPair y)) = some (.d (eB (eqApiPair x y))) := b_struct_eql (L := 2) rfl rfl eg145 (by decide) (eqApiPair_val145 x y)
theorem fo145_0 : FO Tryz.prog 145 0 9 0 := by unfold FO; kernel_rfl
theorem ts135 : tsize Tryz.prog 135 = some 1 := by kernel_rfl
theorem ta135 : tagg Tryz.prog 135 = some false := by kernel_rfl
theorem fo82_5 : FO Tryz.prog 82 5 3 5 := by unfold FO; kernel_rfl
theorem fo63_2 : FO Tryz.prog 63 2 9 2 := by unfold FO; kernel_rfl
theorem cb70 : callable Tryz.prog 70 = true := by kernel_rfl
theorem fo82_3 : FO Tryz.prog 82 3 4 3 := by unfold FO; kernel_rfl
theorem cb104 : callable Tryz.prog 104 = true := by kernel_rfl
theorem bd31_0_1_2 (a0 : List UInt8) (a1 : List UInt8) (a2 : Bool) : abuild Tryz.prog 31 [(0, .d (eS a0)), (1, .d (eS a1)), (2, .d (eB a2))] = some (.d (eApiSpan (ApiSpan.mk a0 a1 a2))) := by rfl
theorem cb71 : callable Tryz.prog 71 = true := by kernel_rfl
theorem bd137_0_1 (a0 : Int) (a1 : ApiSpan) : abuild Tryz.prog 137 [(0, .d (eI a0)), (1, .d (eApiSpan a1))] = some (.d (eApiLock (ApiLock.mk a0 a1 false))) := by rfl
theorem fo40_2 : FO Tryz.prog 40 2 38 2 := by unfold FO; kernel_rfl
theorem ts38 : tsize Tryz.prog 38 = some 1 := by kernel_rfl
theorem ta38 : tagg Tryz.prog 38 = some false := by kernel_rfl
theorem bd110_0_1 (a0 : Int) (a1 : ApiSpan) : abuild Tryz.prog 110 [(0, .d (eI a0)), (1, .d (eApiSpan a1))] = some (.d (eFanProbe (FanProbe.mk a0 a1))) := by rfl
theorem un38 : Tryz.prog.underlying 38 = some (.slice 110) := by kernel_rfl
theorem ei110 : EI Tryz.prog 110 4 48 (eFanProbe (FanProbe.mk (0 : Int) (ApiSpan.mk ([] : List UInt8) ([] : List UInt8) false))) := ⟨by kernel_rfl, by kernel_rfl, rfl, by decide, rfl, by decide⟩
theorem bc38 : byCount Tryz.prog 38 = false := by kernel_rfl
theorem cb35 : callable Tryz.prog 35 = true := by kernel_rfl
theorem cb10 : callable Tryz.prog 10 = true := by kernel_rfl
theorem ts65 : tsize Tryz.prog 65 = some 9 := by kernel_rfl
theorem fo65_1 : FO Tryz.prog 65 1 3 1 := by unfold FO; kernel_rfl
theorem fo31_1 : FO Tryz.prog 31 1 9 1 := by unfold FO; kernel_rfl
theorem cb5 : callable Tryz.prog 5 = true := by kernel_rfl
theorem cb7 : callable Tryz.prog 7 = true := by kernel_rfl
theorem ut31 : Tryz.prog.underlying 31 = some (.struct (Tryz.prog.fieldsOf 31)) := by kernel_rfl
theorem fl31 : (Tryz.prog.fieldsOf 31).toList.map fsig = [(false, 9, 0), (false, 9, 1), (false, 4, 2)] := by kernel_rfl
theorem sh31 : Tryz.prog.stoodInHeld 31 = false := by kernel_rfl
theorem eg31 : Tryz.prog.eqGuardType Tryz.prog.depth 31 = false := by kernel_rfl
theorem un4 : Tryz.prog.underlying 4 = some (.bool) := by kernel_rfl
theorem eqApiSpan_val31 (x y : ApiSpan) (d : Nat) : pr Tryz.prog (Op.equalIn (d + 2) 31 (.agg #[.string ⟨x.Lo.toArray⟩, .string ⟨x.Hi.toArray⟩, .bool x.Open]) (.agg #[.string ⟨y.Lo.toArray⟩, .string ⟨y.Hi.toArray⟩, .bool y.Open])) = some (eqApiSpan x y) := eq_struct (d := d + 1) ut31 fl31 sh31 (.cons (part1 ta9 rfl) (part1 ta9 rfl) (eq_str (d := d + 0) un9 _ _) (.cons (part1 ta9 rfl) (part1 ta9 rfl) (eq_str (d := d + 0) un9 _ _) (.cons (part1 ta4 rfl) (part1 ta4 rfl) (eq_bool (d := d + 0) un4 _ _) .nil)))
theorem eqApiSpan_neq_31 (X Y : Operand) (x y : ApiSpan) : abinOp Tryz.prog .neq 31 X Y (.d (eApiSpan x)) (.d (eApiSpan y)) = some (.d (eB (!eqApiSpan x y))) := b_struct_neq (L := 2) rfl rfl eg31 (by decide) (eqApiSpan_val31 x y)
theorem fo26_0 : FO Tryz.prog 26 0 9 0 := by unfold FO; kernel_rfl
theorem cb22 : callable Tryz.prog 22 = true := by kernel_rfl
theorem cb120 : callable Tryz.prog 120 = true := by kernel_rfl
theorem cb98 : callable Tryz.prog 98 = true := by kernel_rfl
theorem cb62 : callable Tryz.prog 62 = true := by kernel_rfl
theorem cb23 : callable Tryz.prog 23 = true := by kernel_rfl
theorem cb52 : callable Tryz.prog 52 = true := by kernel_rfl
theorem cb24 : callable Tryz.prog 24 = true := by kernel_rfl
theorem cb63 : callable Tryz.prog 63 = true := by kernel_rfl
theorem cb25 : callable Tryz.prog 25 = true := by kernel_rfl
theorem cb27 : callable Tryz.prog 27 = true := by kernel_rfl
theorem cb26 : callable Tryz.prog 26 = true := by kernel_rfl
theorem fo82_0 : FO Tryz.prog 82 0 9 0 := by unfold FO; kernel_rfl
theorem bc23 : byCount Tryz.prog 23 = false := by kernel_rfl
theorem cb53 : callable Tryz.prog 53 = true := by kernel_rfl
theorem cb28 : callable Tryz.prog 28 = true := by kernel_rfl
theorem cb8 : callable Tryz.prog 8 = true := by kernel_rfl
theorem bc24 : byCount Tryz.prog 24 = false := by kernel_rfl
theorem cb9 : callable Tryz.prog 9 = true := by kernel_rfl
theorem bc27 : byCount Tryz.prog 27 = false := by kernel_rfl
theorem bd105_0_1 (a0 : List UInt8) (a1 : Bool) : abuild Tryz.prog 105 [(0, .d (eS a0)), (1, .d (eB a1))] = some (.d (eGranaryref19Built (Granaryref19Built.mk a0 a1))) := by rfl
theorem un49 : Tryz.prog.underlying 49 = some (.slice 105) := by kernel_rfl
theorem ei105 : EI Tryz.prog 105 2 24 (eGranaryref19Built (Granaryref19Built.mk ([] : List UInt8) false)) := ⟨by kernel_rfl, by kernel_rfl, rfl, by decide, rfl, by decide⟩
theorem bc49 : byCount Tryz.prog 49 = false := by kernel_rfl
theorem cb12 : callable Tryz.prog 12 = true := by kernel_rfl
theorem zo46 : zeroOf Tryz.prog 46 = some (.agg [.nils, .nils, .nils]) := by kernel_rfl
theorem bd46_ : abuild Tryz.prog 46 [] = some (.d (.agg [.nils, .nils, .nils])) := by rfl
theorem ts46 : tsize Tryz.prog 46 = some 3 := by kernel_rfl
theorem cb72 : callable Tryz.prog 72 = true := by kernel_rfl
theorem cb36 : callable Tryz.prog 36 = true := by kernel_rfl
theorem bd127_ : abuild Tryz.prog 127 [] = some (.d (.agg [.nils])) := by rfl
theorem fo127_0 : FO Tryz.prog 127 0 125 0 := by unfold FO; kernel_rfl
theorem cb57 : callable Tryz.prog 57 = true := by kernel_rfl
theorem cb123 : callable Tryz.prog 123 = true := by kernel_rfl
theorem cb105 : callable Tryz.prog 105 = true := by kernel_rfl
theorem cb73 : callable Tryz.prog 73 = true := by kernel_rfl
theorem cb37 : callable Tryz.prog 37 = true := by kernel_rfl
theorem fo46_1 : FO Tryz.prog 46 1 37 1 := by unfold FO; kernel_rfl
theorem cb38 : callable Tryz.prog 38 = true := by kernel_rfl
theorem cb21 : callable Tryz.prog 21 = true := by kernel_rfl
theorem cb39 : callable Tryz.prog 39 = true := by kernel_rfl
theorem ta46 : tagg Tryz.prog 46 = some true := by kernel_rfl
theorem fo46_0 : FO Tryz.prog 46 0 43 0 := by unfold FO; kernel_rfl
theorem ts43 : tsize Tryz.prog 43 = some 1 := by kernel_rfl
theorem ta43 : tagg Tryz.prog 43 = some false := by kernel_rfl
theorem bd108_0_1_2 (a0 : Int) (a1 : Int) (a2 : ApiMsg) : abuild Tryz.prog 108 [(0, .d (eI a0)), (1, .d (eI a1)), (2, .d (eApiMsg a2))] = some (.d (eGranaryref14Op (Granaryref14Op.mk a0 a1 a2))) := by rfl
theorem un43 : Tryz.prog.underlying 43 = some (.slice 108) := by kernel_rfl
theorem ei108 : EI Tryz.prog 108 9 88 (eGranaryref14Op (Granaryref14Op.mk (0 : Int) (0 : Int) (ApiMsg.mk (0 : UInt64) (0 : Int) ([] : List UInt8) (0 : UInt64) ([] : List UInt8) (0 : Int) (0 : UInt64)))) := ⟨by kernel_rfl, by kernel_rfl, rfl, by decide, rfl, by decide⟩
theorem bc43 : byCount Tryz.prog 43 = false := by kernel_rfl
theorem cb40 : callable Tryz.prog 40 = true := by kernel_rfl
theorem cb86 : callable Tryz.prog 86 = true := by kernel_rfl
theorem cb87 : callable Tryz.prog 87 = true := by kernel_rfl
theorem cb58 : callable Tryz.prog 58 = true := by kernel_rfl
theorem cb18 : callable Tryz.prog 18 = true := by kernel_rfl
theorem ts105 : tsize Tryz.prog 105 = some 2 := by kernel_rfl
theorem ta105 : tagg Tryz.prog 105 = some true := by kernel_rfl
theorem fo105_1 : FO Tryz.prog 105 1 4 1 := by unfold FO; kernel_rfl
theorem fo105_0 : FO Tryz.prog 105 0 9 0 := by unfold FO; kernel_rfl
theorem cb41 : callable Tryz.prog 41 = true := by kernel_rfl
theorem cb75 : callable Tryz.prog 75 = true := by kernel_rfl
theorem cb74 : callable Tryz.prog 74 = true := by kernel_rfl
theorem cb106 : callable Tryz.prog 106 = true := by kernel_rfl
theorem cb76 : callable Tryz.prog 76 = true := by kernel_rfl
theorem fo46_2 : FO Tryz.prog 46 2 44 2 := by unfold FO; kernel_rfl
theorem ts44 : tsize Tryz.prog 44 = some 1 := by kernel_rfl
theorem ta44 : tagg Tryz.prog 44 = some false := by kernel_rfl
theorem bd111_0_1 (a0 : Int) (a1 : ApiSpan) : abuild Tryz.prog 111 [(0, .d (eI a0)), (1, .d (eApiSpan a1))] = some (.d (eGranaryref19Probe (Granaryref19Probe.mk a0 a1))) := by rfl
theorem un44 : Tryz.prog.underlying 44 = some (.slice 111) := by kernel_rfl
theorem ei111 : EI Tryz.prog 111 4 48 (eGranaryref19Probe (Granaryref19Probe.mk (0 : Int) (ApiSpan.mk ([] : List UInt8) ([] : List UInt8) false))) := ⟨by kernel_rfl, by kernel_rfl, rfl, by decide, rfl, by decide⟩
theorem bc44 : byCount Tryz.prog 44 = false := by kernel_rfl
theorem cb42 : callable Tryz.prog 42 = true := by kernel_rfl
theorem cb11 : callable Tryz.prog 11 = true := by kernel_rfl
theorem ts137 : tsize Tryz.prog 137 = some 5 := by kernel_rfl
theorem ta137 : tagg Tryz.prog 137 = some true := by kernel_rfl
theorem ut137 : Tryz.prog.underlying 137 = some (.struct (Tryz.prog.fieldsOf 137)) := by kernel_rfl
theorem fl137 : (Tryz.prog.fieldsOf 137).toList.map fsig = [(false, 3, 0), (false, 31, 1), (false, 4, 4)] := by kernel_rfl
theorem sh137 : Tryz.prog.stoodInHeld 137 = false := by kernel_rfl
theorem eg137 : Tryz.prog.eqGuardType Tryz.prog.depth 137 = false := by kernel_rfl
theorem eqApiLock_val137 (x y : ApiLock) (d : Nat) : pr Tryz.prog (Op.equalIn (d + 3) 137 (.agg #[.int .i64 x.Space, .string ⟨x.Span.Lo.toArray⟩, .string ⟨x.Span.Hi.toArray⟩, .bool x.Span.Open, .bool x.Own]) (.agg #[.int .i64 y.Space, .string ⟨y.Span.Lo.toArray⟩, .string ⟨y.Span.Hi.toArray⟩, .bool y.Span.Open, .bool y.Own])) = some (eqApiLock x y) := eq_struct (d := d + 2) ut137 fl137 sh137 (.cons (part1 ta3 rfl) (part1 ta3 rfl) (eq_i64 (d := d + 1) un3 _ _) (.cons (partA ta31 ts31 rfl) (partA ta31 ts31 rfl) (eqApiSpan_val31 x.Span y.Span (d + 0)) (.cons (part1 ta4 rfl) (part1 ta4 rfl) (eq_bool (d := d + 1) un4 _ _) .nil)))
theorem eqApiLock_neq_137 (X Y : Operand) (x y : ApiLock) : abinOp Tryz.prog .neq 137 X Y (.d (eApiLock x)) (.d (eApiLock y)) = some (.d (eB (!eqApiLock x y))) := b_struct_neq (L := 3) rfl rfl eg137 (by decide) (eqApiLock_val137 x y)
theorem cb43 : callable Tryz.prog 43 = true := by kernel_rfl
theorem fo65_0 : FO Tryz.prog 65 0 3 0 := by unfold FO; kernel_rfl
theorem ts108 : tsize Tryz.prog 108 = some 9 := by kernel_rfl
theorem fo108_0 : FO Tryz.prog 108 0 3 0 := by unfold FO; kernel_rfl
theorem fo108_1 : FO Tryz.prog 108 1 3 1 := by unfold FO; kernel_rfl
theorem fo65_2 : FO Tryz.prog 65 2 63 2 := by unfold FO; kernel_rfl
theorem fo108_2 : FO Tryz.prog 108 2 63 2 := by unfold FO; kernel_rfl
theorem ut63 : Tryz.prog.underlying 63 = some (.struct (Tryz.prog.fieldsOf 63)) := by kernel_rfl
theorem fl63 : (Tryz.prog.fieldsOf 63).toList.map fsig = [(false, 54, 0), (false, 3, 1), (false, 9, 2), (false, 54, 3), (false, 9, 4), (false, 3, 5), (false, 54, 6)] := by kernel_rfl
theorem sh63 : Tryz.prog.stoodInHeld 63 = false := by kernel_rfl
theorem eg63 : Tryz.prog.eqGuardType Tryz.prog.depth 63 = false := by kernel_rfl
theorem eqApiMsg_val63 (x y : ApiMsg) (d : Nat) : pr Tryz.prog (Op.equalIn (d + 2) 63 (.agg #[.int .u64 (x.Seq.toNat : Int), .int .i64 x.Kind, .string ⟨x.Key.toArray⟩, .int .u64 (x.Txn.toNat : Int), .string ⟨x.Val.toArray⟩, .int .i64 x.Off, .int .u64 (x.Num.toNat : Int)]) (.agg #[.int .u64 (y.Seq.toNat : Int), .int .i64 y.Kind, .string ⟨y.Key.toArray⟩, .int .u64 (y.Txn.toNat : Int), .string ⟨y.Val.toArray⟩, .int .i64 y.Off, .int .u64 (y.Num.toNat : Int)])) = some (eqApiMsg x y) := eq_struct (d := d + 1) ut63 fl63 sh63 (.cons (part1 ta54 rfl) (part1 ta54 rfl) (eq_u64 (d := d + 0) un54 _ _) (.cons (part1 ta3 rfl) (part1 ta3 rfl) (eq_i64 (d := d + 0) un3 _ _) (.cons (part1 ta9 rfl) (part1 ta9 rfl) (eq_str (d := d + 0) un9 _ _) (.cons (part1 ta54 rfl) (part1 ta54 rfl) (eq_u64 (d := d + 0) un54 _ _) (.cons (part1 ta9 rfl) (part1 ta9 rfl) (eq_str (d := d + 0) un9 _ _) (.cons (part1 ta3 rfl) (part1 ta3 rfl) (eq_i64 (d := d + 0) un3 _ _) (.cons (part1 ta54 rfl) (part1 ta54 rfl) (eq_u64 (d := d + 0) un54 _ _) .nil)))))))
theorem eqApiMsg_neq_63 (X Y : Operand) (x y : ApiMsg) : abinOp Tryz.prog .neq 63 X Y (.d (eApiMsg x)) (.d (eApiMsg y)) = some (.d (eB (!eqApiMsg x y))) := b_struct_neq (L := 2) rfl rfl eg63 (by decide) (eqApiMsg_val63 x y)
theorem ts110 : tsize Tryz.prog 110 = some 4 := by kernel_rfl
theorem fo110_0 : FO Tryz.prog 110 0 3 0 := by unfold FO; kernel_rfl
theorem ts111 : tsize Tryz.prog 111 = some 4 := by kernel_rfl
theorem fo111_0 : FO Tryz.prog 111 0 3 0 := by unfold FO; kernel_rfl
theorem fo110_1 : FO Tryz.prog 110 1 31 1 := by unfold FO; kernel_rfl
theorem fo111_1 : FO Tryz.prog 111 1 31 1 := by unfold FO; kernel_rfl
theorem cb13 : callable Tryz.prog 13 = true := by kernel_rfl
theorem cb44 : callable Tryz.prog 44 = true := by kernel_rfl
theorem ut77 : Tryz.prog.underlying 77 = some (.struct (Tryz.prog.fieldsOf 77)) := by kernel_rfl
theorem fl77 : (Tryz.prog.fieldsOf 77).toList.map fsig = [(false, 9, 0), (false, 3, 1), (false, 3, 2), (false, 4, 3), (false, 68, 4)] := by kernel_rfl
theorem sh77 : Tryz.prog.stoodInHeld 77 = false := by kernel_rfl
theorem eg77 : Tryz.prog.eqGuardType Tryz.prog.depth 77 = false := by kernel_rfl
theorem eqApiColumn_val77 (x y : ApiColumn) (d : Nat) : pr Tryz.prog (Op.equalIn (d + 3) 77 (.agg #[.string ⟨x.Name.toArray⟩, .int .i64 x.Kind, .int .i64 x.Max, .bool x.Nulls, .int .i64 x.Default.Kind, .int .u64 (x.Default.N.toNat : Int), .string ⟨x.Default.S.toArray⟩]) (.agg #[.string ⟨y.Name.toArray⟩, .int .i64 y.Kind, .int .i64 y.Max, .bool y.Nulls, .int .i64 y.Default.Kind, .int .u64 (y.Default.N.toNat : Int), .string ⟨y.Default.S.toArray⟩])) = some (eqApiColumn x y) := eq_struct (d := d + 2) ut77 fl77 sh77 (.cons (part1 ta9 rfl) (part1 ta9 rfl) (eq_str (d := d + 1) un9 _ _) (.cons (part1 ta3 rfl) (part1 ta3 rfl) (eq_i64 (d := d + 1) un3 _ _) (.cons (part1 ta3 rfl) (part1 ta3 rfl) (eq_i64 (d := d + 1) un3 _ _) (.cons (part1 ta4 rfl) (part1 ta4 rfl) (eq_bool (d := d + 1) un4 _ _) (.cons (partA ta68 ts68 rfl) (partA ta68 ts68 rfl) (eqApiValue_val68 x.Default y.Default (d + 0)) .nil)))))
theorem eqApiColumn_neq_77 (X Y : Operand) (x y : ApiColumn) : abinOp Tryz.prog .neq 77 X Y (.d (eApiColumn x)) (.d (eApiColumn y)) = some (.d (eB (!eqApiColumn x y))) := b_struct_neq (L := 3) rfl rfl eg77 (by decide) (eqApiColumn_val77 x y)
theorem ut79 : Tryz.prog.underlying 79 = some (.struct (Tryz.prog.fieldsOf 79)) := by kernel_rfl
theorem fl79 : (Tryz.prog.fieldsOf 79).toList.map fsig = [(false, 3, 0), (false, 4, 1)] := by kernel_rfl
theorem sh79 : Tryz.prog.stoodInHeld 79 = false := by kernel_rfl
theorem eg79 : Tryz.prog.eqGuardType Tryz.prog.depth 79 = false := by kernel_rfl
theorem eqApiPart_val79 (x y : ApiPart) (d : Nat) : pr Tryz.prog (Op.equalIn (d + 2) 79 (.agg #[.int .i64 x.Col, .bool x.Down]) (.agg #[.int .i64 y.Col, .bool y.Down])) = some (eqApiPart x y) := eq_struct (d := d + 1) ut79 fl79 sh79 (.cons (part1 ta3 rfl) (part1 ta3 rfl) (eq_i64 (d := d + 0) un3 _ _) (.cons (part1 ta4 rfl) (part1 ta4 rfl) (eq_bool (d := d + 0) un4 _ _) .nil))
theorem eqApiPart_neq_79 (X Y : Operand) (x y : ApiPart) : abinOp Tryz.prog .neq 79 X Y (.d (eApiPart x)) (.d (eApiPart y)) = some (.d (eB (!eqApiPart x y))) := b_struct_neq (L := 2) rfl rfl eg79 (by decide) (eqApiPart_val79 x y)
theorem cb14 : callable Tryz.prog 14 = true := by kernel_rfl
end Lv
