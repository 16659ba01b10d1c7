/- Part of the proof of a law: facts of the program. -/
import Derived.Test.YtddopjhkmkoicaaGreatDoorXTypes
import Derived.Test.YtddopjhkmkoicaaGreatDoorProg
import Derived.KernelRfl
/- Part of the proof of a law: facts of the program. -/
namespace Lv
open Go Go.Proofs
set_option linter.unusedVariables false
set_option linter.unusedSimpArgs false
set_option linter.unusedSectionVars false
set_option maxRecDepth 100000
variable [BaseTab]
theorem PI (a0 : Int) : eX Tryz.prog 68 [(0, .d (eI a0))] = some (.d (eApiValue (ApiValue.mk a0 (0 : UInt64) ([] : List UInt8)))) := by rfl
theorem HZ (a0 : List UInt8) (a1 : Int) (a4 : ApiValue) : eX Tryz.prog 77 [(0, .d (eS a0)), (1, .d (eI a1)), (4, .d (eApiValue a4))] = some (.d (eApiColumn (ApiColumn.mk a0 a1 (0 : Int) false a4))) := by rfl
theorem iF : Tryz.prog.underlying 22 = some (.slice 77) := by kernel_rfl
theorem acG : EI Tryz.prog 77 7 72 (eApiColumn (ApiColumn.mk ([] : List UInt8) (0 : Int) (0 : Int) false (ApiValue.mk (0 : Int) (0 : UInt64) ([] : List UInt8)))) := ⟨by kernel_rfl, by kernel_rfl, rfl, by decide, rfl, by decide⟩
theorem mO : Tryz.prog.underlying 23 = some (.slice 3) := by kernel_rfl
theorem ei3 : EI Tryz.prog 3 1 8 (eI (0 : Int)) := ⟨by kernel_rfl, by kernel_rfl, rfl, by decide, rfl, by decide⟩
theorem KZ (a0 : List UInt8) (a4 : Int) : eX Tryz.prog 26 [(0, .d (eS a0)), (1, .slc 0 7 0 ([(ApiColumn.mk ([105, 100] : List UInt8) (1 : Int) (0 : Int) false (ApiValue.mk (1 : Int) (0 : UInt64) ([] : List UInt8))), (ApiColumn.mk ([110] : List UInt8) (1 : Int) (0 : Int) false (ApiValue.mk (1 : Int) (0 : UInt64) ([] : List UInt8)))].length) none), (2, .slc 1 1 0 ([(0 : Int)].length) none), (4, .d (eI a4))] = some (.agg [.d (eS a0), .slc 0 7 0 ([(ApiColumn.mk ([105, 100] : List UInt8) (1 : Int) (0 : Int) false (ApiValue.mk (1 : Int) (0 : UInt64) ([] : List UInt8))), (ApiColumn.mk ([110] : List UInt8) (1 : Int) (0 : Int) false (ApiValue.mk (1 : Int) (0 : UInt64) ([] : List UInt8)))].length) none, .slc 1 1 0 ([(0 : Int)].length) none, .d .aA, .d (eI a4)]) := by rfl
theorem ai9 : zeroOf Tryz.prog 26 = some (.agg [(eS ([] : List UInt8)), .aA, .aA, .aA, (eI (0 : Int))]) := by kernel_rfl
theorem uE : bU Tryz.prog 26 = some 5 := by kernel_rfl
theorem PD (a0 : Int) : eX Tryz.prog 79 [(0, .d (eI a0))] = some (.d (eApiPart (ApiPart.mk a0 false))) := by rfl
theorem xP : Tryz.prog.underlying 80 = some (.slice 79) := by kernel_rfl
theorem VH : EI Tryz.prog 79 2 16 (eApiPart (ApiPart.mk (0 : Int) false)) := ⟨by kernel_rfl, by kernel_rfl, rfl, by decide, rfl, by decide⟩
theorem HY (a0 : List UInt8) (a3 : Bool) (a4 : Bool) (a5 : Int) : eX Tryz.prog 82 [(0, .d (eS a0)), (1, .slc 3 2 0 ([(ApiPart.mk (1 : Int) false)].length) none), (3, .d (eB a3)), (4, .d (eB a4)), (5, .d (eI a5))] = some (.agg [.d (eS a0), .slc 3 2 0 ([(ApiPart.mk (1 : Int) false)].length) none, .d .aA, .d (eB a3), .d (eB a4), .d (eI a5)]) := by rfl
theorem CP : Tryz.prog.underlying 24 = some (.slice 82) := by kernel_rfl
theorem amW : EI Tryz.prog 82 6 80 (.agg [(eS ([] : List UInt8)), .aA, .aA, (eB false), (eB false), (eI (0 : Int))]) := ⟨by kernel_rfl, by kernel_rfl, rfl, by decide, rfl, by decide⟩
theorem sH : FO Tryz.prog 26 3 24 3 := by unfold FO; kernel_rfl
theorem sZ : bU Tryz.prog 24 = some 1 := by kernel_rfl
theorem vk : iH Tryz.prog 26 = some true := by kernel_rfl
theorem Xc : Tryz.prog.underlying 27 = some (.slice 99) := by kernel_rfl
theorem amV : EI Tryz.prog 99 2 24 (eFanBuilt (FanBuilt.mk ([] : List UInt8) false)) := ⟨by kernel_rfl, by kernel_rfl, rfl, by decide, rfl, by decide⟩
theorem Nq (a0 : Int) (a1 : UInt64) : eX Tryz.prog 68 [(0, .d (eI a0)), (1, .d (eU64 a1))] = some (.d (eApiValue (ApiValue.mk a0 a1 ([] : List UInt8)))) := by rfl
theorem fu : Tryz.prog.underlying 28 = some (.slice 68) := by kernel_rfl
theorem wT : EI Tryz.prog 68 3 32 (eApiValue (ApiValue.mk (0 : Int) (0 : UInt64) ([] : List UInt8))) := ⟨by kernel_rfl, by kernel_rfl, rfl, by decide, rfl, by decide⟩
theorem QJ : zeroOf Tryz.prog 40 = some (.agg [.aA, .aA, .aA]) := by kernel_rfl
theorem Iw : iH Tryz.prog 24 = some false := by kernel_rfl
theorem Aa : eX Tryz.prog 40 [] = some (.d (.agg [.aA, .aA, .aA])) := by rfl
theorem mh : bU Tryz.prog 40 = some 3 := by kernel_rfl
theorem aal : zeroOf Tryz.prog 91 = some (.agg [.aA, (eS ([] : List UInt8))]) := by kernel_rfl
theorem ais : eX Tryz.prog 91 [] = some (.d (.agg [.aA, (eS ([] : List UInt8))])) := by rfl
theorem zA : bU Tryz.prog 91 = some 2 := by kernel_rfl
theorem sI : FO Tryz.prog 26 2 23 2 := by unfold FO; kernel_rfl
theorem jA : bU Tryz.prog 23 = some 1 := by kernel_rfl
theorem vo : iH Tryz.prog 23 = some false := by kernel_rfl
theorem bO : bU Tryz.prog 3 = some 1 := by kernel_rfl
theorem dW : iH Tryz.prog 3 = some false := by kernel_rfl
theorem aiu : iW Tryz.prog 80 = false := by kernel_rfl
theorem ana : callable Tryz.prog 78 = true := by kernel_rfl
theorem jr : FO Tryz.prog 26 1 22 1 := by unfold FO; kernel_rfl
theorem jB : bU Tryz.prog 22 = some 1 := by kernel_rfl
theorem vw : iH Tryz.prog 22 = some false := by kernel_rfl
theorem jl : bU Tryz.prog 77 = some 7 := by kernel_rfl
theorem yg : iH Tryz.prog 77 = some true := by kernel_rfl
theorem KP : FO Tryz.prog 77 0 9 0 := by unfold FO; kernel_rfl
theorem eT : bU Tryz.prog 9 = some 1 := by kernel_rfl
theorem jy : iH Tryz.prog 9 = some false := by kernel_rfl
theorem l9 : Tryz.prog.underlying 9 = some (.string) := by kernel_rfl
theorem aic : callable Tryz.prog 113 = true := by kernel_rfl
theorem ko : FO Tryz.prog 77 1 3 1 := by unfold FO; kernel_rfl
theorem QC : callable Tryz.prog 114 = true := by kernel_rfl
theorem oZ : FO Tryz.prog 77 2 3 2 := by unfold FO; kernel_rfl
theorem KO : FO Tryz.prog 77 4 68 4 := by unfold FO; kernel_rfl
theorem d9 : bU Tryz.prog 68 = some 3 := by kernel_rfl
theorem kD : iH Tryz.prog 68 = some true := by kernel_rfl
theorem fH : FO Tryz.prog 68 0 3 0 := by unfold FO; kernel_rfl
theorem VU : eX Tryz.prog 68 [] = some (.d (eApiValue (ApiValue.mk (0 : Int) (0 : UInt64) ([] : List UInt8)))) := by rfl
theorem ajO : Tryz.prog.underlying 68 = some (.struct (Tryz.prog.fieldsOf 68)) := by kernel_rfl
theorem amR : (Tryz.prog.fieldsOf 68).toList.map Na = [(false, 3, 0), (false, 54, 1), (false, 9, 2)] := by kernel_rfl
theorem alD : Tryz.prog.stoodInHeld 68 = false := by kernel_rfl
theorem ahz : Tryz.prog.eqGuardType Tryz.prog.depth 68 = false := by kernel_rfl
theorem lY : iH Tryz.prog 54 = some false := by kernel_rfl
theorem uD : Tryz.prog.underlying 54 = some (.int .u64) := by kernel_rfl
theorem Im : Tryz.prog.underlying 3 = some (.int .i64) := by kernel_rfl
theorem vU (x y : ApiValue) (d : Nat) : pr Tryz.prog (Op.equalIn (d + 2) 68 (.agg #[.int .i64 x.Kind, .int .u64 (x.N.toNat : Int), .string ⟨x.S.toArray⟩]) (.agg #[.int .i64 y.Kind, .int .u64 (y.N.toNat : Int), .string ⟨y.S.toArray⟩])) = some (eG x y) := vT (d := d + 1) ajO amR alD (.cons (gV dW rfl) (gV dW rfl) (KU (d := d + 0) Im _ _) (.cons (gV lY rfl) (gV lY rfl) (KT (d := d + 0) uD _ _) (.cons (gV jy rfl) (gV jy rfl) (AJ (d := d + 0) l9 _ _) .nil)))
theorem Cj (X Y : Operand) (x y : ApiValue) : bC Tryz.prog .eql 68 X Y (.d (eApiValue x)) (.d (eApiValue y)) = some (.d (eB (eG x y))) := Ct (L := 2) rfl rfl ahz (by decide) (vU x y)
theorem uy (X Y : Operand) (x y : ApiValue) : bC Tryz.prog .neq 68 X Y (.d (eApiValue x)) (.d (eApiValue y)) = some (.d (eB (!eG x y))) := q9 (L := 2) rfl rfl ahz (by decide) (vU x y)
theorem iO : FO Tryz.prog 68 2 9 2 := by unfold FO; kernel_rfl
theorem iK : FO Tryz.prog 68 1 54 1 := by unfold FO; kernel_rfl
theorem fU : bU Tryz.prog 54 = some 1 := by kernel_rfl
theorem ah3 : callable Tryz.prog 130 = true := by kernel_rfl
theorem aah : callable Tryz.prog 119 = true := by kernel_rfl
theorem O8 : FO Tryz.prog 77 3 4 3 := by unfold FO; kernel_rfl
theorem jV : bU Tryz.prog 4 = some 1 := by kernel_rfl
theorem zD : iH Tryz.prog 4 = some false := by kernel_rfl
theorem Ya : callable Tryz.prog 96 = true := by kernel_rfl
theorem am0 : callable Tryz.prog 90 = true := by kernel_rfl
theorem am1 : callable Tryz.prog 89 = true := by kernel_rfl
theorem aie : callable Tryz.prog 112 = true := by kernel_rfl
theorem am2 : callable Tryz.prog 88 = true := by kernel_rfl
theorem ahR : callable Tryz.prog 59 = true := by kernel_rfl
theorem JH : zeroOf Tryz.prog 68 = some (eApiValue (ApiValue.mk (0 : Int) (0 : UInt64) ([] : List UInt8))) := by kernel_rfl
theorem ahO : callable Tryz.prog 64 = true := by kernel_rfl
theorem JY : bU Tryz.prog 79 = some 2 := by kernel_rfl
theorem aeF : iH Tryz.prog 79 = some true := by kernel_rfl
theorem ai7 : zeroOf Tryz.prog 79 = some (eApiPart (ApiPart.mk (0 : Int) false)) := by kernel_rfl
theorem Dy : FO Tryz.prog 79 0 3 0 := by unfold FO; kernel_rfl
theorem bc28 : iW Tryz.prog 28 = false := by kernel_rfl
theorem Vz : FO Tryz.prog 79 1 4 1 := by unfold FO; kernel_rfl
theorem F3 : Tryz.prog.underlying 177 = some (.slice 4) := by kernel_rfl
theorem ei4 : EI Tryz.prog 4 1 1 (eB false) := ⟨by kernel_rfl, by kernel_rfl, rfl, by decide, rfl, by decide⟩
theorem aaj : iW Tryz.prog 177 = false := by kernel_rfl
theorem ah5 : callable Tryz.prog 125 = true := by kernel_rfl
theorem ah2 : callable Tryz.prog 131 = true := by kernel_rfl
theorem ah6 : callable Tryz.prog 124 = true := by kernel_rfl
theorem Yx : zeroOf Tryz.prog 139 = some (.agg [.aA]) := by kernel_rfl
theorem bW : Tryz.prog.underlying 125 = some (.slice 5) := by kernel_rfl
theorem DT : EI Tryz.prog 5 1 1 (bR (0 : UInt8)) := ⟨by kernel_rfl, by kernel_rfl, rfl, by decide, rfl, by decide⟩
theorem Qg : Tryz.prog.underlying 142 = some (.pointer 139) := by kernel_rfl
theorem wP : FO Tryz.prog 139 0 125 0 := by unfold FO; kernel_rfl
theorem bS : bU Tryz.prog 125 = some 1 := by kernel_rfl
theorem gL : iH Tryz.prog 125 = some false := by kernel_rfl
theorem yX : iW Tryz.prog 125 = false := by kernel_rfl
theorem Py : callable Tryz.prog 99 = true := by kernel_rfl
theorem aai : callable Tryz.prog 100 = true := by kernel_rfl
theorem Qf : Tryz.prog.underlying 191 = some (.int .u32) := by kernel_rfl
theorem LZ : Tryz.prog.underlying 194 = some (.int .u16) := by kernel_rfl
theorem uX : Tryz.prog.underlying 5 = some (.int .u8) := by kernel_rfl
theorem VK : callable Tryz.prog 122 = true := by kernel_rfl
theorem aag : callable Tryz.prog 121 = true := by kernel_rfl
theorem VN : callable Tryz.prog 101 = true := by kernel_rfl
theorem acO : callable Tryz.prog 65 = true := by kernel_rfl
theorem ahN : callable Tryz.prog 67 = true := by kernel_rfl
theorem ah1 : callable Tryz.prog 132 = true := by kernel_rfl
theorem bc9 : iW Tryz.prog 9 = false := by kernel_rfl
theorem qQ : bU Tryz.prog 5 = some 1 := by kernel_rfl
theorem Ov : iH Tryz.prog 5 = some false := by kernel_rfl
theorem ah0 : callable Tryz.prog 133 = true := by kernel_rfl
theorem ah4 : callable Tryz.prog 126 = true := by kernel_rfl
theorem aik : callable Tryz.prog 107 = true := by kernel_rfl
theorem ahJ : callable Tryz.prog 77 = true := by kernel_rfl
theorem acT : callable Tryz.prog 45 = true := by kernel_rfl
theorem VT (a0 : List ApiValue) (a1 : List UInt8) : eX Tryz.prog 91 [(0, .d ((eL 3 eApiValue) a0)), (1, .d (eS a1))] = some (.d (aC (iY.mk a0 a1))) := by rfl
theorem EU : iH Tryz.prog 91 = some true := by kernel_rfl
theorem ahT : callable Tryz.prog 29 = true := by kernel_rfl
theorem O5 : FO Tryz.prog 91 1 9 1 := by unfold FO; kernel_rfl
theorem Hf : FO Tryz.prog 91 0 28 0 := by unfold FO; kernel_rfl
theorem zC : bU Tryz.prog 28 = some 1 := by kernel_rfl
theorem J3 : iH Tryz.prog 28 = some false := by kernel_rfl
theorem Nl : callable Tryz.prog 30 = true := by kernel_rfl
theorem AA : FO Tryz.prog 26 4 3 4 := by unfold FO; kernel_rfl
theorem yR : FO Tryz.prog 40 1 37 1 := by unfold FO; kernel_rfl
theorem sW : bU Tryz.prog 37 = some 1 := by kernel_rfl
theorem Ox : iH Tryz.prog 37 = some false := by kernel_rfl
theorem WG : zeroOf Tryz.prog 31 = some (eZ (aU.mk ([] : List UInt8) ([] : List UInt8) false)) := by kernel_rfl
theorem Nt (a0 : List UInt8) (a1 : List UInt8) : eX Tryz.prog 31 [(0, .d (eS a0)), (1, .d (eS a1))] = some (.d (eZ (aU.mk a0 a1 false))) := by rfl
theorem Ah : bU Tryz.prog 31 = some 3 := by kernel_rfl
theorem J2 : iH Tryz.prog 31 = some true := by kernel_rfl
theorem cb6 : callable Tryz.prog 6 = true := by kernel_rfl
theorem yV (a0 : Int) (a1 : aU) (a2 : Bool) : eX Tryz.prog 137 [(0, .d (eI a0)), (1, .d (eZ a1)), (2, .d (eB a2))] = some (.d (aK (ay.mk a0 a1 a2))) := by rfl
theorem Bn : Tryz.prog.underlying 37 = some (.slice 137) := by kernel_rfl
theorem EC : EI Tryz.prog 137 5 56 (aK (ay.mk (0 : Int) (aU.mk ([] : List UInt8) ([] : List UInt8) false) false)) := ⟨by kernel_rfl, by kernel_rfl, rfl, by decide, rfl, by decide⟩
theorem Yf : iW Tryz.prog 37 = false := by kernel_rfl
theorem acV : callable Tryz.prog 31 = true := by kernel_rfl
theorem anu : callable Tryz.prog 32 = true := by kernel_rfl
theorem yh : iH Tryz.prog 40 = some true := by kernel_rfl
theorem aip : callable Tryz.prog 102 = true := by kernel_rfl
theorem ane : callable Tryz.prog 66 = true := by kernel_rfl
theorem acU : callable Tryz.prog 33 = true := by kernel_rfl
theorem AQ (a1 : Int) (a2 : List UInt8) (a4 : List UInt8) : eX Tryz.prog 63 [(1, .d (eI a1)), (2, .d (eS a2)), (4, .d (eS a4))] = some (.d (bX (bL.mk (0 : UInt64) a1 a2 (0 : UInt64) a4 (0 : Int) (0 : UInt64)))) := by rfl
theorem oh : FO Tryz.prog 40 0 36 0 := by unfold FO; kernel_rfl
theorem oz : bU Tryz.prog 36 = some 1 := by kernel_rfl
theorem EX : iH Tryz.prog 36 = some false := by kernel_rfl
theorem xQ : bU Tryz.prog 63 = some 7 := by kernel_rfl
theorem CS : iH Tryz.prog 63 = some true := by kernel_rfl
theorem H6 (a0 : Int) (a1 : Int) (a2 : bL) : eX Tryz.prog 65 [(0, .d (eI a0)), (1, .d (eI a1)), (2, .d (bX a2))] = some (.d (aJ (au.mk a0 a1 a2))) := by rfl
theorem Bo : Tryz.prog.underlying 36 = some (.slice 65) := by kernel_rfl
theorem X8 : EI Tryz.prog 65 9 88 (aJ (au.mk (0 : Int) (0 : Int) (bL.mk (0 : UInt64) (0 : Int) ([] : List UInt8) (0 : UInt64) ([] : List UInt8) (0 : Int) (0 : UInt64)))) := ⟨by kernel_rfl, by kernel_rfl, rfl, by decide, rfl, by decide⟩
theorem aiv : iW Tryz.prog 36 = false := by kernel_rfl
theorem Yc : callable Tryz.prog 34 = true := by kernel_rfl
theorem Nr (a1 : Int) (a2 : List UInt8) : eX Tryz.prog 63 [(1, .d (eI a1)), (2, .d (eS a2))] = some (.d (bX (bL.mk (0 : UInt64) a1 a2 (0 : UInt64) ([] : List UInt8) (0 : Int) (0 : UInt64)))) := by rfl
theorem wu : bU Tryz.prog 82 = some 6 := by kernel_rfl
theorem F8 : iH Tryz.prog 82 = some true := by kernel_rfl
theorem adb : zeroOf Tryz.prog 82 = some (.agg [(eS ([] : List UInt8)), .aA, .aA, (eB false), (eB false), (eI (0 : Int))]) := by kernel_rfl
theorem O6 : FO Tryz.prog 82 4 4 4 := by unfold FO; kernel_rfl
theorem aeE : bU Tryz.prog 99 = some 2 := by kernel_rfl
theorem acs : FO Tryz.prog 99 1 4 1 := by unfold FO; kernel_rfl
theorem acu : FO Tryz.prog 99 0 9 0 := by unfold FO; kernel_rfl
theorem P6 : zeroOf Tryz.prog 145 = some (bG (dN.mk ([] : List UInt8) ([] : List UInt8))) := by kernel_rfl
theorem yP : FO Tryz.prog 82 1 80 1 := by unfold FO; kernel_rfl
theorem zB : bU Tryz.prog 80 = some 1 := by kernel_rfl
theorem L8 : iH Tryz.prog 80 = some false := by kernel_rfl
theorem acN : callable Tryz.prog 69 = true := by kernel_rfl
theorem acZ : eX Tryz.prog 145 [] = some (.d (bG (dN.mk ([] : List UInt8) ([] : List UInt8)))) := by rfl
theorem zO : bU Tryz.prog 145 = some 2 := by kernel_rfl
theorem Ye (a0 : List UInt8) : eX Tryz.prog 145 [(0, .d (eS a0))] = some (.d (bG (dN.mk a0 ([] : List UInt8)))) := by rfl
theorem wN : FO Tryz.prog 82 2 23 2 := by unfold FO; kernel_rfl
theorem anE : iW Tryz.prog 22 = false := by kernel_rfl
theorem aio : callable Tryz.prog 103 = true := by kernel_rfl
theorem Qw : FO Tryz.prog 145 1 9 1 := by unfold FO; kernel_rfl
theorem L9 : iH Tryz.prog 145 = some true := by kernel_rfl
theorem ahM : callable Tryz.prog 68 = true := by kernel_rfl
theorem aeo : Tryz.prog.underlying 145 = some (.struct (Tryz.prog.fieldsOf 145)) := by kernel_rfl
theorem ahw : (Tryz.prog.fieldsOf 145).toList.map Na = [(false, 9, 0), (false, 9, 1)] := by kernel_rfl
theorem aeJ : Tryz.prog.stoodInHeld 145 = false := by kernel_rfl
theorem ahA : Tryz.prog.eqGuardType Tryz.prog.depth 145 = false := by kernel_rfl
theorem DI (x y : dN) (d : Nat) : pr Tryz.prog (Op.equalIn (d + 2) 145 (.agg #[.string ⟨x.Key.toArray⟩, .string ⟨x.Val.toArray⟩]) (.agg #[.string ⟨y.Key.toArray⟩, .string ⟨y.Val.toArray⟩])) = some (o8 x y) := vT (d := d + 1) aeo ahw aeJ (.cons (gV jy rfl) (gV jy rfl) (AJ (d := d + 0) l9 _ _) (.cons (gV jy rfl) (gV jy rfl) (AJ (d := d + 0) l9 _ _) .nil))
theorem Ck (X Y : Operand) (x y : dN) : bC Tryz.prog .eql 145 X Y (.d (bG x)) (.d (bG y)) = some (.d (eB (o8 x y))) := Ct (L := 2) rfl rfl ahA (by decide) (DI x y)
theorem FB : FO Tryz.prog 145 0 9 0 := by unfold FO; kernel_rfl
theorem Jg : bU Tryz.prog 135 = some 1 := by kernel_rfl
theorem Jh : iH Tryz.prog 135 = some false := by kernel_rfl
theorem KN : FO Tryz.prog 82 5 3 5 := by unfold FO; kernel_rfl
theorem yQ : FO Tryz.prog 63 2 9 2 := by unfold FO; kernel_rfl
theorem ahL : callable Tryz.prog 70 = true := by kernel_rfl
theorem acv : FO Tryz.prog 82 3 4 3 := by unfold FO; kernel_rfl
theorem ain : callable Tryz.prog 104 = true := by kernel_rfl
theorem PK (a0 : List UInt8) (a1 : List UInt8) (a2 : Bool) : eX Tryz.prog 31 [(0, .d (eS a0)), (1, .d (eS a1)), (2, .d (eB a2))] = some (.d (eZ (aU.mk a0 a1 a2))) := by rfl
theorem anc : callable Tryz.prog 71 = true := by kernel_rfl
theorem RN (a0 : Int) (a1 : aU) : eX Tryz.prog 137 [(0, .d (eI a0)), (1, .d (eZ a1))] = some (.d (aK (ay.mk a0 a1 false))) := by rfl
theorem Az : FO Tryz.prog 40 2 38 2 := by unfold FO; kernel_rfl
theorem Br : bU Tryz.prog 38 = some 1 := by kernel_rfl
theorem Rb : iH Tryz.prog 38 = some false := by kernel_rfl
theorem RO (a0 : Int) (a1 : aU) : eX Tryz.prog 110 [(0, .d (eI a0)), (1, .d (eZ a1))] = some (.d (bg (aX.mk a0 a1))) := by rfl
theorem Ot : Tryz.prog.underlying 38 = some (.slice 110) := by kernel_rfl
theorem aac : EI Tryz.prog 110 4 48 (bg (aX.mk (0 : Int) (aU.mk ([] : List UInt8) ([] : List UInt8) false))) := ⟨by kernel_rfl, by kernel_rfl, rfl, by decide, rfl, by decide⟩
theorem bc38 : iW Tryz.prog 38 = false := by kernel_rfl
theorem ant : callable Tryz.prog 35 = true := by kernel_rfl
theorem anD : callable Tryz.prog 10 = true := by kernel_rfl
theorem Ou : bU Tryz.prog 65 = some 9 := by kernel_rfl
theorem VF : FO Tryz.prog 65 1 3 1 := by unfold FO; kernel_rfl
theorem acz : FO Tryz.prog 31 1 9 1 := by unfold FO; kernel_rfl
theorem cb5 : callable Tryz.prog 5 = true := by kernel_rfl
theorem acA : FO Tryz.prog 26 0 9 0 := by unfold FO; kernel_rfl
theorem acX : callable Tryz.prog 22 = true := by kernel_rfl
theorem ah8 : callable Tryz.prog 120 = true := by kernel_rfl
theorem amZ : callable Tryz.prog 98 = true := by kernel_rfl
theorem acP : callable Tryz.prog 62 = true := by kernel_rfl
theorem ahW : callable Tryz.prog 23 = true := by kernel_rfl
theorem RH : callable Tryz.prog 52 = true := by kernel_rfl
theorem acW : callable Tryz.prog 24 = true := by kernel_rfl
theorem ahP : callable Tryz.prog 63 = true := by kernel_rfl
theorem anw : callable Tryz.prog 25 = true := by kernel_rfl
theorem ahU : callable Tryz.prog 27 = true := by kernel_rfl
theorem ahV : callable Tryz.prog 26 = true := by kernel_rfl
theorem O7 : FO Tryz.prog 82 0 9 0 := by unfold FO; kernel_rfl
theorem aiw : iW Tryz.prog 23 = false := by kernel_rfl
theorem acS : callable Tryz.prog 53 = true := by kernel_rfl
theorem anv : callable Tryz.prog 28 = true := by kernel_rfl
theorem cb8 : callable Tryz.prog 8 = true := by kernel_rfl
theorem am8 : callable Tryz.prog 80 = true := by kernel_rfl
theorem ahS : callable Tryz.prog 48 = true := by kernel_rfl
theorem anj : callable Tryz.prog 50 = true := by kernel_rfl
theorem am7 : callable Tryz.prog 81 = true := by kernel_rfl
theorem ank : callable Tryz.prog 49 = true := by kernel_rfl
theorem anl : callable Tryz.prog 47 = true := by kernel_rfl
theorem am9 : callable Tryz.prog 79 = true := by kernel_rfl
theorem anm : callable Tryz.prog 46 = true := by kernel_rfl
theorem ai8 : zeroOf Tryz.prog 28 = some .aA := by kernel_rfl
theorem ahH : callable Tryz.prog 91 = true := by kernel_rfl
theorem zN : Tryz.prog.underlying 167 = some (.pointer 188) := by kernel_rfl
theorem uj : FO Tryz.prog 188 1 4 1 := by unfold FO; kernel_rfl
theorem jO : FO Tryz.prog 188 0 125 0 := by unfold FO; kernel_rfl
theorem VJ : callable Tryz.prog 128 = true := by kernel_rfl
theorem QB : callable Tryz.prog 115 = true := by kernel_rfl
theorem acM : callable Tryz.prog 92 = true := by kernel_rfl
theorem aam : zeroOf Tryz.prog 77 = some (eApiColumn (ApiColumn.mk ([] : List UInt8) (0 : Int) (0 : Int) false (ApiValue.mk (0 : Int) (0 : UInt64) ([] : List UInt8)))) := by kernel_rfl
theorem acL : callable Tryz.prog 93 = true := by kernel_rfl
theorem aib : callable Tryz.prog 116 = true := by kernel_rfl
theorem aia : callable Tryz.prog 117 = true := by kernel_rfl
theorem aaf : callable Tryz.prog 129 = true := by kernel_rfl
theorem ah9 : callable Tryz.prog 118 = true := by kernel_rfl
theorem ahG : callable Tryz.prog 94 = true := by kernel_rfl
theorem acK : callable Tryz.prog 95 = true := by kernel_rfl
theorem anf : callable Tryz.prog 61 = true := by kernel_rfl
theorem ahF : callable Tryz.prog 97 = true := by kernel_rfl
theorem ahQ : callable Tryz.prog 60 = true := by kernel_rfl
theorem ahX : callable Tryz.prog 19 = true := by kernel_rfl
theorem zo3 : zeroOf Tryz.prog 3 = some (eI (0 : Int)) := by kernel_rfl
theorem am6 : callable Tryz.prog 82 = true := by kernel_rfl
theorem ani : callable Tryz.prog 51 = true := by kernel_rfl
theorem Cr (a1 : Int) (a2 : List UInt8) (a5 : Int) (a6 : UInt64) : eX Tryz.prog 63 [(1, .d (eI a1)), (2, .d (eS a2)), (5, .d (eI a5)), (6, .d (eU64 a6))] = some (.d (bX (bL.mk (0 : UInt64) a1 a2 (0 : UInt64) ([] : List UInt8) a5 a6))) := by rfl
theorem anB : callable Tryz.prog 15 = true := by kernel_rfl
theorem aan : zeroOf Tryz.prog 46 = some (.agg [.aA, .aA, .aA]) := by kernel_rfl
theorem ahK : callable Tryz.prog 72 = true := by kernel_rfl
theorem anr : callable Tryz.prog 36 = true := by kernel_rfl
theorem Ns : eX Tryz.prog 46 [] = some (.d (.agg [.aA, .aA, .aA])) := by rfl
theorem Bq : bU Tryz.prog 46 = some 3 := by kernel_rfl
theorem VW : eX Tryz.prog 127 [] = some (.d (.agg [.aA])) := by rfl
theorem jP : FO Tryz.prog 127 0 125 0 := by unfold FO; kernel_rfl
theorem Fv : callable Tryz.prog 57 = true := by kernel_rfl
theorem am4 : callable Tryz.prog 86 = true := by kernel_rfl
theorem am3 : callable Tryz.prog 87 = true := by kernel_rfl
theorem ang : callable Tryz.prog 58 = true := by kernel_rfl
theorem ahY : callable Tryz.prog 18 = true := by kernel_rfl
theorem qZ : FO Tryz.prog 182 2 4 2 := by unfold FO; kernel_rfl
theorem um : FO Tryz.prog 182 0 125 0 := by unfold FO; kernel_rfl
theorem ji : FO Tryz.prog 182 1 3 1 := by unfold FO; kernel_rfl
theorem QA : callable Tryz.prog 127 = true := by kernel_rfl
theorem VL : callable Tryz.prog 108 = true := by kernel_rfl
theorem aij : callable Tryz.prog 109 = true := by kernel_rfl
theorem aii : callable Tryz.prog 110 = true := by kernel_rfl
theorem aif : callable Tryz.prog 111 = true := by kernel_rfl
theorem ahI : callable Tryz.prog 84 = true := by kernel_rfl
theorem am5 : callable Tryz.prog 83 = true := by kernel_rfl
theorem anh : callable Tryz.prog 54 = true := by kernel_rfl
theorem ah7 : callable Tryz.prog 123 = true := by kernel_rfl
theorem ail : callable Tryz.prog 105 = true := by kernel_rfl
theorem anb : callable Tryz.prog 73 = true := by kernel_rfl
theorem anq : callable Tryz.prog 37 = true := by kernel_rfl
theorem Pg : FO Tryz.prog 46 1 37 1 := by unfold FO; kernel_rfl
theorem cb7 : callable Tryz.prog 7 = true := by kernel_rfl
theorem anp : callable Tryz.prog 38 = true := by kernel_rfl
theorem Dz : FO Tryz.prog 46 0 43 0 := by unfold FO; kernel_rfl
theorem ET : bU Tryz.prog 43 = some 1 := by kernel_rfl
theorem Ui : iH Tryz.prog 43 = some false := by kernel_rfl
theorem Nu (a0 : Int) (a1 : Int) (a2 : bL) : eX Tryz.prog 108 [(0, .d (eI a0)), (1, .d (eI a1)), (2, .d (bX a2))] = some (.d (bI (aM.mk a0 a1 a2))) := by rfl
theorem Q9 : Tryz.prog.underlying 43 = some (.slice 108) := by kernel_rfl
theorem aad : EI Tryz.prog 108 9 88 (bI (aM.mk (0 : Int) (0 : Int) (bL.mk (0 : UInt64) (0 : Int) ([] : List UInt8) (0 : UInt64) ([] : List UInt8) (0 : Int) (0 : UInt64)))) := ⟨by kernel_rfl, by kernel_rfl, rfl, by decide, rfl, by decide⟩
theorem bc43 : iW Tryz.prog 43 = false := by kernel_rfl
theorem Ow : iH Tryz.prog 46 = some true := by kernel_rfl
theorem anA : callable Tryz.prog 16 = true := by kernel_rfl
theorem Qj : bU Tryz.prog 137 = some 5 := by kernel_rfl
theorem YU : iH Tryz.prog 137 = some true := by kernel_rfl
theorem ajQ : Tryz.prog.underlying 31 = some (.struct (Tryz.prog.fieldsOf 31)) := by kernel_rfl
theorem amT : (Tryz.prog.fieldsOf 31).toList.map Na = [(false, 9, 0), (false, 9, 1), (false, 4, 2)] := by kernel_rfl
theorem alF : Tryz.prog.stoodInHeld 31 = false := by kernel_rfl
theorem amY : Tryz.prog.eqGuardType Tryz.prog.depth 31 = false := by kernel_rfl
theorem un4 : Tryz.prog.underlying 4 = some (.bool) := by kernel_rfl
theorem xK (x y : aU) (d : Nat) : pr Tryz.prog (Op.equalIn (d + 2) 31 (.agg #[.string ⟨x.Lo.toArray⟩, .string ⟨x.Hi.toArray⟩, .bool x.Open]) (.agg #[.string ⟨y.Lo.toArray⟩, .string ⟨y.Hi.toArray⟩, .bool y.Open])) = some (lS x y) := vT (d := d + 1) ajQ amT alF (.cons (gV jy rfl) (gV jy rfl) (AJ (d := d + 0) l9 _ _) (.cons (gV jy rfl) (gV jy rfl) (AJ (d := d + 0) l9 _ _) (.cons (gV zD rfl) (gV zD rfl) (Qx (d := d + 0) un4 _ _) .nil)))
theorem DF (X Y : Operand) (x y : aU) : bC Tryz.prog .neq 31 X Y (.d (eZ x)) (.d (eZ y)) = some (.d (eB (!lS x y))) := q9 (L := 2) rfl rfl amY (by decide) (xK x y)
theorem aep : Tryz.prog.underlying 137 = some (.struct (Tryz.prog.fieldsOf 137)) := by kernel_rfl
theorem ahx : (Tryz.prog.fieldsOf 137).toList.map Na = [(false, 3, 0), (false, 31, 1), (false, 4, 4)] := by kernel_rfl
theorem aeK : Tryz.prog.stoodInHeld 137 = false := by kernel_rfl
theorem ahB : Tryz.prog.eqGuardType Tryz.prog.depth 137 = false := by kernel_rfl
theorem DJ (x y : ay) (d : Nat) : pr Tryz.prog (Op.equalIn (d + 3) 137 (.agg #[.int .i64 x.Space, .string ⟨x.Span.Lo.toArray⟩, .string ⟨x.Span.Hi.toArray⟩, .bool x.Span.Open, .bool x.Own]) (.agg #[.int .i64 y.Space, .string ⟨y.Span.Lo.toArray⟩, .string ⟨y.Span.Hi.toArray⟩, .bool y.Span.Open, .bool y.Own])) = some (nE x y) := vT (d := d + 2) aep ahx aeK (.cons (gV dW rfl) (gV dW rfl) (KU (d := d + 1) Im _ _) (.cons (Zd J2 Ah rfl) (Zd J2 Ah rfl) (xK x.Span y.Span (d + 0)) (.cons (gV zD rfl) (gV zD rfl) (Qx (d := d + 1) un4 _ _) .nil)))
theorem Cm (X Y : Operand) (x y : ay) : bC Tryz.prog .neq 137 X Y (.d (aK x)) (.d (aK y)) = some (.d (eB (!nE x y))) := q9 (L := 3) rfl rfl ahB (by decide) (DJ x y)
theorem ano : callable Tryz.prog 43 = true := by kernel_rfl
theorem Pf : FO Tryz.prog 46 2 44 2 := by unfold FO; kernel_rfl
theorem Ra : bU Tryz.prog 44 = some 1 := by kernel_rfl
theorem aa1 : iH Tryz.prog 44 = some false := by kernel_rfl
theorem aaO : Tryz.prog.underlying 44 = some (.slice 111) := by kernel_rfl
theorem acw : FO Tryz.prog 65 0 3 0 := by unfold FO; kernel_rfl
theorem Ug : bU Tryz.prog 108 = some 9 := by kernel_rfl
theorem X6 : FO Tryz.prog 108 0 3 0 := by unfold FO; kernel_rfl
theorem X5 : FO Tryz.prog 108 1 3 1 := by unfold FO; kernel_rfl
theorem KQ : FO Tryz.prog 65 2 63 2 := by unfold FO; kernel_rfl
theorem X4 : FO Tryz.prog 108 2 63 2 := by unfold FO; kernel_rfl
theorem ajP : Tryz.prog.underlying 63 = some (.struct (Tryz.prog.fieldsOf 63)) := by kernel_rfl
theorem amS : (Tryz.prog.fieldsOf 63).toList.map Na = [(false, 54, 0), (false, 3, 1), (false, 9, 2), (false, 54, 3), (false, 9, 4), (false, 3, 5), (false, 54, 6)] := by kernel_rfl
theorem alE : Tryz.prog.stoodInHeld 63 = false := by kernel_rfl
theorem amX : Tryz.prog.eqGuardType Tryz.prog.depth 63 = false := by kernel_rfl
theorem Hr (x y : bL) (d : Nat) : pr Tryz.prog (Op.equalIn (d + 2) 63 (.agg #[.int .u64 (x.Seq.toNat : Int), .int .i64 x.Kind, .string ⟨x.Key.toArray⟩, .int .u64 (x.A9.toNat : Int), .string ⟨x.Val.toArray⟩, .int .i64 x.Off, .int .u64 (x.Num.toNat : Int)]) (.agg #[.int .u64 (y.Seq.toNat : Int), .int .i64 y.Kind, .string ⟨y.Key.toArray⟩, .int .u64 (y.A9.toNat : Int), .string ⟨y.Val.toArray⟩, .int .i64 y.Off, .int .u64 (y.Num.toNat : Int)])) = some (sN x y) := vT (d := d + 1) ajP amS alE (.cons (gV lY rfl) (gV lY rfl) (KT (d := d + 0) uD _ _) (.cons (gV dW rfl) (gV dW rfl) (KU (d := d + 0) Im _ _) (.cons (gV jy rfl) (gV jy rfl) (AJ (d := d + 0) l9 _ _) (.cons (gV lY rfl) (gV lY rfl) (KT (d := d + 0) uD _ _) (.cons (gV jy rfl) (gV jy rfl) (AJ (d := d + 0) l9 _ _) (.cons (gV dW rfl) (gV dW rfl) (KU (d := d + 0) Im _ _) (.cons (gV lY rfl) (gV lY rfl) (KT (d := d + 0) uD _ _) .nil)))))))
theorem Fu (X Y : Operand) (x y : bL) : bC Tryz.prog .neq 63 X Y (.d (bX x)) (.d (bX y)) = some (.d (eB (!sN x y))) := q9 (L := 2) rfl rfl amX (by decide) (Hr x y)
theorem YT : bU Tryz.prog 110 = some 4 := by kernel_rfl
theorem X3 : FO Tryz.prog 110 0 3 0 := by unfold FO; kernel_rfl
theorem YS : bU Tryz.prog 111 = some 4 := by kernel_rfl
theorem XZ : FO Tryz.prog 111 0 3 0 := by unfold FO; kernel_rfl
theorem X0 : FO Tryz.prog 110 1 31 1 := by unfold FO; kernel_rfl
theorem XY : FO Tryz.prog 111 1 31 1 := by unfold FO; kernel_rfl
theorem anC : callable Tryz.prog 13 = true := by kernel_rfl
theorem ait : eX Tryz.prog 60 [] = some (.d (.agg [.aA])) := by rfl
theorem Ay : FO Tryz.prog 63 1 3 1 := by unfold FO; kernel_rfl
theorem l7 : FO Tryz.prog 60 0 58 0 := by unfold FO; kernel_rfl
theorem mg : bU Tryz.prog 58 = some 1 := by kernel_rfl
theorem Bt : iH Tryz.prog 58 = some false := by kernel_rfl
theorem vg : Tryz.prog.underlying 58 = some (.slice 72) := by kernel_rfl
theorem PG (a0 : List UInt8) : eX Tryz.prog 72 [(0, .d (eS a0))] = some (.d (aO (aW.mk a0 false ([] : List UInt8) (0 : UInt64) false ([] : List UInt8)))) := by rfl
theorem QI : zeroOf Tryz.prog 72 = some (aO (aW.mk ([] : List UInt8) false ([] : List UInt8) (0 : UInt64) false ([] : List UInt8))) := by kernel_rfl
theorem VE : FO Tryz.prog 72 1 4 1 := by unfold FO; kernel_rfl
theorem O9 : FO Tryz.prog 72 2 9 2 := by unfold FO; kernel_rfl
theorem vZ (a0 : Bool) (a1 : List UInt8) : eX Tryz.prog 162 [(0, .d (eB a0)), (1, .d (eS a1))] = some (.d (aH (aB.mk a0 a1))) := by rfl
theorem Te : zeroOf Tryz.prog 162 = some (aH (aB.mk false ([] : List UInt8))) := by kernel_rfl
theorem iG : bU Tryz.prog 162 = some 2 := by kernel_rfl
theorem VB : FO Tryz.prog 72 4 4 4 := by unfold FO; kernel_rfl
theorem VA : FO Tryz.prog 72 5 9 5 := by unfold FO; kernel_rfl
theorem VD : FO Tryz.prog 72 3 54 3 := by unfold FO; kernel_rfl
theorem KR : FO Tryz.prog 63 3 54 3 := by unfold FO; kernel_rfl
theorem qR : iH Tryz.prog 162 = some true := by kernel_rfl
theorem Pb : FO Tryz.prog 63 4 9 4 := by unfold FO; kernel_rfl
theorem acY : eX Tryz.prog 162 [] = some (.d (aH (aB.mk false ([] : List UInt8)))) := by rfl
theorem Ce : FO Tryz.prog 162 0 4 0 := by unfold FO; kernel_rfl
theorem wO : FO Tryz.prog 63 5 3 5 := by unfold FO; kernel_rfl
theorem uq : FO Tryz.prog 162 1 9 1 := by unfold FO; kernel_rfl
theorem acy : FO Tryz.prog 63 6 54 6 := by unfold FO; kernel_rfl
theorem Yb : callable Tryz.prog 85 = true := by kernel_rfl
theorem Hg : FO Tryz.prog 72 0 9 0 := by unfold FO; kernel_rfl
theorem PE (a0 : List UInt8) (a1 : Bool) (a3 : UInt64) : eX Tryz.prog 72 [(0, .d (eS a0)), (1, .d (eB a1)), (3, .d (eU64 a3))] = some (.d (aO (aW.mk a0 a1 ([] : List UInt8) a3 false ([] : List UInt8)))) := by rfl
theorem p8 : bU Tryz.prog 72 = some 6 := by kernel_rfl
theorem CQ : iH Tryz.prog 72 = some true := by kernel_rfl
theorem acR : callable Tryz.prog 55 = true := by kernel_rfl
theorem acQ : callable Tryz.prog 56 = true := by kernel_rfl
theorem RF : EI Tryz.prog 72 6 72 (aO (aW.mk ([] : List UInt8) false ([] : List UInt8) (0 : UInt64) false ([] : List UInt8))) := ⟨by kernel_rfl, by kernel_rfl, rfl, by decide, rfl, by decide⟩
theorem ac0 : iW Tryz.prog 58 = false := by kernel_rfl
theorem ahZ : callable Tryz.prog 17 = true := by kernel_rfl
theorem anz : callable Tryz.prog 20 = true := by kernel_rfl
theorem anx : callable Tryz.prog 21 = true := by kernel_rfl
end Lv
