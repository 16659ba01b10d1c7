/- Part of the proof of a law: facts of the program. -/
import Derived.Test.YtjnpmmiacggffaaGreatDoorXTypes
import Derived.Test.YtjnpmmiacggffaaGreatDoorProg
import Derived.KernelRfl
/- Part of the proof of a law: facts of the program. -/
namespace Lv
open Go Go.Proofs
set_option linter.unusedVariables false
set_option linter.unusedSimpArgs false
set_option linter.unusedSectionVars false
set_option maxRecDepth 100000
variable [bJ]
theorem Yd (a0 : Int) : gY Tryz.prog 74 [(0, .d (eI a0))] = some (.d (bA (ak.mk a0 (0 : UInt64) ([] : List UInt8)))) := by rfl
theorem J2 (a0 : List UInt8) (a1 : Int) (a4 : ak) : gY Tryz.prog 76 [(0, .d (eS a0)), (1, .d (eI a1)), (4, .d (bA a4))] = some (.d (bI (aB.mk a0 a1 (0 : Int) false a4))) := by rfl
theorem qp : Tryz.prog.underlying 22 = some (.slice 76) := by kernel_rfl
theorem afr : EI Tryz.prog 76 7 72 (bI (aB.mk ([] : List UInt8) (0 : Int) (0 : Int) false (ak.mk (0 : Int) (0 : UInt64) ([] : List UInt8)))) := ⟨by kernel_rfl, by kernel_rfl, rfl, by decide, rfl, by decide⟩
theorem bZ : Tryz.prog.underlying 23 = some (.slice 3) := by kernel_rfl
theorem xH : EI Tryz.prog 3 1 8 (eI (0 : Int)) := ⟨by kernel_rfl, by kernel_rfl, rfl, by decide, rfl, by decide⟩
theorem NU (a0 : List UInt8) (a4 : Int) : gY Tryz.prog 26 [(0, .d (eS a0)), (1, .slc 0 7 0 ([(aB.mk ([105, 100] : List UInt8) (1 : Int) (0 : Int) false (ak.mk (1 : Int) (0 : UInt64) ([] : List UInt8))), (aB.mk ([110] : List UInt8) (1 : Int) (0 : Int) false (ak.mk (1 : Int) (0 : UInt64) ([] : List UInt8)))].length) none), (2, .slc 1 1 0 ([(0 : Int)].length) none), (4, .d (eI a4))] = some (.agg [.d (eS a0), .slc 0 7 0 ([(aB.mk ([105, 100] : List UInt8) (1 : Int) (0 : Int) false (ak.mk (1 : Int) (0 : UInt64) ([] : List UInt8))), (aB.mk ([110] : List UInt8) (1 : Int) (0 : Int) false (ak.mk (1 : Int) (0 : UInt64) ([] : List UInt8)))].length) none, .slc 1 1 0 ([(0 : Int)].length) none, .d .dn, .d (eI a4)]) := by rfl
theorem adj : zeroOf Tryz.prog 26 = some (.agg [(eS ([] : List UInt8)), .dn, .dn, .dn, (eI (0 : Int))]) := by kernel_rfl
theorem zS : dM Tryz.prog 26 = some 5 := by kernel_rfl
theorem Ry (a0 : Int) : gY Tryz.prog 78 [(0, .d (eI a0))] = some (.d (aR (aI.mk a0 false))) := by rfl
theorem jO : Tryz.prog.underlying 28 = some (.slice 78) := by kernel_rfl
theorem Rq : EI Tryz.prog 78 2 16 (aR (aI.mk (0 : Int) false)) := ⟨by kernel_rfl, by kernel_rfl, rfl, by decide, rfl, by decide⟩
theorem NT (a0 : List UInt8) (a4 : Bool) (a5 : Int) : gY Tryz.prog 60 [(0, .d (eS a0)), (1, .slc 3 2 0 ([(aI.mk (1 : Int) false)].length) none), (4, .d (eB a4)), (5, .d (eI a5))] = some (.agg [.d (eS a0), .slc 3 2 0 ([(aI.mk (1 : Int) false)].length) none, .d .dn, .d (eB false), .d (eB a4), .d (eI a5)]) := by rfl
theorem zx : Tryz.prog.underlying 24 = some (.slice 60) := by kernel_rfl
theorem afs : EI Tryz.prog 60 6 80 (.agg [(eS ([] : List UInt8)), .dn, .dn, (eB false), (eB false), (eI (0 : Int))]) := ⟨by kernel_rfl, by kernel_rfl, rfl, by decide, rfl, by decide⟩
theorem nH : FO Tryz.prog 26 3 24 3 := by unfold FO; kernel_rfl
theorem nL : dM Tryz.prog 24 = some 1 := by kernel_rfl
theorem Yc (a0 : Int) (a1 : UInt64) : gY Tryz.prog 74 [(0, .d (eI a0)), (1, .d (jM a1))] = some (.d (bA (ak.mk a0 a1 ([] : List UInt8)))) := by rfl
theorem NS (a0 : Int) (a1 : Int) (a2 : Int) (a3 : ak) : gY Tryz.prog 80 [(0, .d (eI a0)), (1, .d (eI a1)), (2, .d (eI a2)), (3, .d (bA a3))] = some (.d (aU (aA.mk a0 a1 a2 a3))) := by rfl
theorem vR : Tryz.prog.underlying 27 = some (.slice 80) := by kernel_rfl
theorem ZT : EI Tryz.prog 80 6 56 (aU (aA.mk (0 : Int) (0 : Int) (0 : Int) (ak.mk (0 : Int) (0 : UInt64) ([] : List UInt8)))) := ⟨by kernel_rfl, by kernel_rfl, rfl, by decide, rfl, by decide⟩
theorem RD (a3 : Int) : gY Tryz.prog 30 [(0, .slc 5 6 0 ([(aA.mk (2 : Int) (1 : Int) (3 : Int) (ak.mk (1 : Int) (5 : UInt64) ([] : List UInt8)))].length) none), (1, .slc 6 1 0 ([(0 : Int)].length) none), (3, .d (eI a3))] = some (.agg [.slc 5 6 0 ([(aA.mk (2 : Int) (1 : Int) (3 : Int) (ak.mk (1 : Int) (5 : UInt64) ([] : List UInt8)))].length) none, .slc 6 1 0 ([(0 : Int)].length) none, .d .dn, .d (eI a3)]) := by rfl
theorem al2 : zeroOf Tryz.prog 30 = some (.agg [.dn, .dn, .dn, (eI (0 : Int))]) := by kernel_rfl
theorem Iw : dM Tryz.prog 30 = some 4 := by kernel_rfl
theorem DW : ko Tryz.prog 26 = some true := by kernel_rfl
theorem KJ : ko Tryz.prog 30 = some true := by kernel_rfl
theorem Mk : zeroOf Tryz.prog 50 = some (bB (aW.mk ([] : List UInt8) ([] : List UInt8) false)) := by kernel_rfl
theorem uR : Tryz.prog.underlying 9 = some (.string) := by kernel_rfl
theorem iw : Tryz.prog.underlying 156 = some (.slice 5) := by kernel_rfl
theorem TI : Tryz.prog.underlying 5 = some (.int .u8) := by kernel_rfl
theorem Qu : dM Tryz.prog 5 = some 1 := by kernel_rfl
theorem ta5 : ko Tryz.prog 5 = some false := by kernel_rfl
theorem ajO : callable Tryz.prog 72 = true := by kernel_rfl
theorem J5 (a0 : List UInt8) (a1 : List UInt8) (a2 : Bool) : gY Tryz.prog 50 [(0, .d (eS a0)), (1, .d (eS a1)), (2, .d (eB a2))] = some (.d (bB (aW.mk a0 a1 a2))) := by rfl
theorem nE : dM Tryz.prog 50 = some 3 := by kernel_rfl
theorem CG : ko Tryz.prog 50 = some true := by kernel_rfl
theorem ajU : callable Tryz.prog 42 = true := by kernel_rfl
theorem RA (a0 : Int) (a1 : aW) (a5 : Int) : gY Tryz.prog 52 [(0, .d (eI a0)), (1, .d (bB a1)), (5, .d (eI a5))] = some (.d (aQ (aG.mk a0 a1 (0 : Int) false false a5))) := by rfl
theorem uS : Tryz.prog.underlying 41 = some (.slice 52) := by kernel_rfl
theorem XZ : EI Tryz.prog 52 8 72 (aQ (aG.mk (0 : Int) (aW.mk ([] : List UInt8) ([] : List UInt8) false) (0 : Int) false false (0 : Int))) := ⟨by kernel_rfl, by kernel_rfl, rfl, by decide, rfl, by decide⟩
theorem nI : FO Tryz.prog 26 2 23 2 := by unfold FO; kernel_rfl
theorem dQ : dM Tryz.prog 23 = some 1 := by kernel_rfl
theorem iZ : ko Tryz.prog 23 = some false := by kernel_rfl
theorem bD : dM Tryz.prog 3 = some 1 := by kernel_rfl
theorem dH : ko Tryz.prog 3 = some false := by kernel_rfl
theorem bc28 : kQ Tryz.prog 28 = false := by kernel_rfl
theorem afK (a0 : Int) : gY Tryz.prog 52 [(0, .d (eI a0))] = some (.d (aQ (aG.mk a0 (aW.mk ([] : List UInt8) ([] : List UInt8) false) (0 : Int) false false (0 : Int)))) := by rfl
theorem af0 : zeroOf Tryz.prog 52 = some (aQ (aG.mk (0 : Int) (aW.mk ([] : List UInt8) ([] : List UInt8) false) (0 : Int) false false (0 : Int))) := by kernel_rfl
theorem xL : dM Tryz.prog 52 = some 8 := by kernel_rfl
theorem yL : FO Tryz.prog 30 0 27 0 := by unfold FO; kernel_rfl
theorem zy : dM Tryz.prog 27 = some 1 := by kernel_rfl
theorem MK : ko Tryz.prog 27 = some false := by kernel_rfl
theorem q9 : dM Tryz.prog 80 = some 6 := by kernel_rfl
theorem GZ : ko Tryz.prog 80 = some true := by kernel_rfl
theorem YE : zeroOf Tryz.prog 80 = some (aU (aA.mk (0 : Int) (0 : Int) (0 : Int) (ak.mk (0 : Int) (0 : UInt64) ([] : List UInt8)))) := by kernel_rfl
theorem qH : FO Tryz.prog 80 0 3 0 := by unfold FO; kernel_rfl
theorem afy : callable Tryz.prog 57 = true := by kernel_rfl
theorem bc27 : kQ Tryz.prog 27 = false := by kernel_rfl
theorem ajN : callable Tryz.prog 73 = true := by kernel_rfl
theorem rz : dM Tryz.prog 78 = some 2 := by kernel_rfl
theorem OU : ko Tryz.prog 78 = some true := by kernel_rfl
theorem YF : zeroOf Tryz.prog 78 = some (aR (aI.mk (0 : Int) false)) := by kernel_rfl
theorem wC : FO Tryz.prog 78 0 3 0 := by unfold FO; kernel_rfl
theorem yI : FO Tryz.prog 80 1 3 1 := by unfold FO; kernel_rfl
theorem qG : FO Tryz.prog 80 2 3 2 := by unfold FO; kernel_rfl
theorem aqd : callable Tryz.prog 76 = true := by kernel_rfl
theorem aqe : callable Tryz.prog 75 = true := by kernel_rfl
theorem aqf : callable Tryz.prog 74 = true := by kernel_rfl
theorem Dl : FO Tryz.prog 80 3 74 3 := by unfold FO; kernel_rfl
theorem iC : dM Tryz.prog 74 = some 3 := by kernel_rfl
theorem o8 : ko Tryz.prog 74 = some true := by kernel_rfl
theorem yJ : FO Tryz.prog 78 1 4 1 := by unfold FO; kernel_rfl
theorem jZ : dM Tryz.prog 4 = some 1 := by kernel_rfl
theorem wS : ko Tryz.prog 4 = some false := by kernel_rfl
theorem ME : Tryz.prog.underlying 61 = some (.slice 74) := by kernel_rfl
theorem ajD : EI Tryz.prog 74 3 32 (bA (ak.mk (0 : Int) (0 : UInt64) ([] : List UInt8))) := ⟨by kernel_rfl, by kernel_rfl, rfl, by decide, rfl, by decide⟩
theorem GX : Tryz.prog.underlying 57 = some (.slice 4) := by kernel_rfl
theorem ei4 : EI Tryz.prog 4 1 1 (eB false) := ⟨by kernel_rfl, by kernel_rfl, rfl, by decide, rfl, by decide⟩
theorem kN : FO Tryz.prog 74 0 3 0 := by unfold FO; kernel_rfl
theorem Cx : gY Tryz.prog 74 [] = some (.d (bA (ak.mk (0 : Int) (0 : UInt64) ([] : List UInt8)))) := by rfl
theorem amQ : Tryz.prog.underlying 74 = some (.struct (Tryz.prog.fieldsOf 74)) := by kernel_rfl
theorem apU : (Tryz.prog.fieldsOf 74).toList.map Nw = [(false, 3, 0), (false, 72, 1), (false, 9, 2)] := by kernel_rfl
theorem aoM : Tryz.prog.stoodInHeld 74 = false := by kernel_rfl
theorem ajE : Tryz.prog.eqGuardType Tryz.prog.depth 74 = false := by kernel_rfl
theorem xG : ko Tryz.prog 9 = some false := by kernel_rfl
theorem CF : ko Tryz.prog 72 = some false := by kernel_rfl
theorem QI : Tryz.prog.underlying 72 = some (.int .u64) := by kernel_rfl
theorem QJ : Tryz.prog.underlying 3 = some (.int .i64) := by kernel_rfl
theorem nA (x y : ak) (d : Nat) : pr Tryz.prog (Op.equalIn (d + 2) 74 (.agg #[.int .i64 x.Kind, .int .u64 (x.N.toNat : Int), .string ⟨x.S.toArray⟩]) (.agg #[.int .i64 y.Kind, .int .u64 (y.N.toNat : Int), .string ⟨y.S.toArray⟩])) = some (dw x y) := tF (d := d + 1) amQ apU aoM (.cons (gT dH rfl) (gT dH rfl) (wG (d := d + 0) QJ _ _) (.cons (gT CF rfl) (gT CF rfl) (afn (d := d + 0) QI _ _) (.cons (gT xG rfl) (gT xG rfl) (NM (d := d + 0) uR _ _) .nil)))
theorem vL (X Y : Operand) (x y : ak) : cK Tryz.prog .eql 74 X Y (.d (bA x)) (.d (bA y)) = some (.d (eB (dw x y))) := EY (L := 2) rfl rfl ajE (by decide) (nA x y)
theorem fZ (X Y : Operand) (x y : ak) : cK Tryz.prog .neq 74 X Y (.d (bA x)) (.d (bA y)) = some (.d (eB (!dw x y))) := sV (L := 2) rfl rfl ajE (by decide) (nA x y)
theorem mO : FO Tryz.prog 74 2 9 2 := by unfold FO; kernel_rfl
theorem lY : dM Tryz.prog 9 = some 1 := by kernel_rfl
theorem qI : FO Tryz.prog 74 1 72 1 := by unfold FO; kernel_rfl
theorem rA : dM Tryz.prog 72 = some 1 := by kernel_rfl
theorem aki : callable Tryz.prog 104 = true := by kernel_rfl
theorem ajQ : callable Tryz.prog 66 = true := by kernel_rfl
theorem akb : callable Tryz.prog 126 = true := by kernel_rfl
theorem aj5 : callable Tryz.prog 141 = true := by kernel_rfl
theorem akc : callable Tryz.prog 125 = true := by kernel_rfl
theorem al1 : zeroOf Tryz.prog 74 = some (bA (ak.mk (0 : Int) (0 : UInt64) ([] : List UInt8))) := by kernel_rfl
theorem af2 : zeroOf Tryz.prog 158 = some (.agg [.dn]) := by kernel_rfl
theorem PW : EI Tryz.prog 5 1 1 (gH (0 : UInt8)) := ⟨by kernel_rfl, by kernel_rfl, rfl, by decide, rfl, by decide⟩
theorem VN : Tryz.prog.underlying 161 = some (.pointer 158) := by kernel_rfl
theorem EH : FO Tryz.prog 158 0 156 0 := by unfold FO; kernel_rfl
theorem j4 : dM Tryz.prog 156 = some 1 := by kernel_rfl
theorem DY : ko Tryz.prog 156 = some false := by kernel_rfl
theorem bc156 : kQ Tryz.prog 156 = false := by kernel_rfl
theorem Tf : callable Tryz.prog 128 = true := by kernel_rfl
theorem aj8 : callable Tryz.prog 129 = true := by kernel_rfl
theorem Sv : Tryz.prog.underlying 173 = some (.int .u32) := by kernel_rfl
theorem Sr : Tryz.prog.underlying 201 = some (.int .u16) := by kernel_rfl
theorem ada : callable Tryz.prog 145 = true := by kernel_rfl
theorem adb : callable Tryz.prog 144 = true := by kernel_rfl
theorem ade : callable Tryz.prog 130 = true := by kernel_rfl
theorem akk : callable Tryz.prog 101 = true := by kernel_rfl
theorem akj : callable Tryz.prog 103 = true := by kernel_rfl
theorem aj4 : callable Tryz.prog 142 = true := by kernel_rfl
theorem bc9 : kQ Tryz.prog 9 = false := by kernel_rfl
theorem aj3 : callable Tryz.prog 143 = true := by kernel_rfl
theorem aj9 : callable Tryz.prog 127 = true := by kernel_rfl
theorem akl : callable Tryz.prog 100 = true := by kernel_rfl
theorem ajM : callable Tryz.prog 77 = true := by kernel_rfl
theorem Tg : callable Tryz.prog 117 = true := by kernel_rfl
theorem J6 (a0 : List UInt8) (a1 : List UInt8) : gY Tryz.prog 50 [(0, .d (eS a0)), (1, .d (eS a1))] = some (.d (bB (aW.mk a0 a1 false))) := by rfl
theorem Yz : Tryz.prog.underlying 4 = some (.bool) := by kernel_rfl
theorem NG : FO Tryz.prog 50 1 9 1 := by unfold FO; kernel_rfl
theorem NH : FO Tryz.prog 50 0 9 0 := by unfold FO; kernel_rfl
theorem aqc : callable Tryz.prog 78 = true := by kernel_rfl
theorem ajT : callable Tryz.prog 43 = true := by kernel_rfl
theorem Rm : FO Tryz.prog 52 1 50 1 := by unfold FO; kernel_rfl
theorem Dm : FO Tryz.prog 52 2 3 4 := by unfold FO; kernel_rfl
theorem JJ : FO Tryz.prog 52 3 4 5 := by unfold FO; kernel_rfl
theorem Zf : ko Tryz.prog 52 = some true := by kernel_rfl
theorem afB : callable Tryz.prog 44 = true := by kernel_rfl
theorem yK : FO Tryz.prog 52 5 3 7 := by unfold FO; kernel_rfl
theorem akn : kQ Tryz.prog 41 = false := by kernel_rfl
theorem yR : kQ Tryz.prog 23 = false := by kernel_rfl
theorem afD : callable Tryz.prog 37 = true := by kernel_rfl
theorem afC : callable Tryz.prog 38 = true := by kernel_rfl
theorem aql : callable Tryz.prog 49 = true := by kernel_rfl
theorem NJ : FO Tryz.prog 30 1 23 1 := by unfold FO; kernel_rfl
theorem NI : FO Tryz.prog 30 2 28 2 := by unfold FO; kernel_rfl
theorem iG : dM Tryz.prog 28 = some 1 := by kernel_rfl
theorem rC : ko Tryz.prog 28 = some false := by kernel_rfl
theorem ajV : callable Tryz.prog 35 = true := by kernel_rfl
theorem OM : Tryz.prog.underlying 143 = some (.slice 23) := by kernel_rfl
theorem apX : EI Tryz.prog 23 1 24 .dn := ⟨by kernel_rfl, by kernel_rfl, rfl, by decide, rfl, by decide⟩
theorem ni9 : Q7 Tryz.prog 9 = true := by kernel_rfl
theorem ap7 : callable Tryz.prog 87 = true := by kernel_rfl
theorem aqm : callable Tryz.prog 48 = true := by kernel_rfl
theorem afH : callable Tryz.prog 16 = true := by kernel_rfl
theorem DX : ko Tryz.prog 24 = some false := by kernel_rfl
theorem uT : dM Tryz.prog 60 = some 6 := by kernel_rfl
theorem MJ : ko Tryz.prog 60 = some true := by kernel_rfl
theorem Tn : zeroOf Tryz.prog 60 = some (.agg [(eS ([] : List UInt8)), .dn, .dn, (eB false), (eB false), (eI (0 : Int))]) := by kernel_rfl
theorem NA : FO Tryz.prog 60 4 4 4 := by unfold FO; kernel_rfl
theorem lI : FO Tryz.prog 60 1 28 1 := by unfold FO; kernel_rfl
theorem ap9 : callable Tryz.prog 81 = true := by kernel_rfl
theorem akf : callable Tryz.prog 118 = true := by kernel_rfl
theorem aqa : callable Tryz.prog 80 = true := by kernel_rfl
theorem wE : FO Tryz.prog 60 2 23 2 := by unfold FO; kernel_rfl
theorem ake : callable Tryz.prog 119 = true := by kernel_rfl
theorem ajL : callable Tryz.prog 82 = true := by kernel_rfl
theorem aqb : callable Tryz.prog 79 = true := by kernel_rfl
theorem afx : callable Tryz.prog 67 = true := by kernel_rfl
theorem afE : callable Tryz.prog 36 = true := by kernel_rfl
theorem aqn : callable Tryz.prog 45 = true := by kernel_rfl
theorem Ye (a0 : Int) (a4 : Bool) : gY Tryz.prog 52 [(0, .d (eI a0)), (4, .d (eB a4))] = some (.d (aQ (aG.mk a0 (aW.mk ([] : List UInt8) ([] : List UInt8) false) (0 : Int) false a4 (0 : Int)))) := by rfl
theorem NC : FO Tryz.prog 60 3 4 3 := by unfold FO; kernel_rfl
theorem Rl : FO Tryz.prog 52 4 4 6 := by unfold FO; kernel_rfl
theorem aj7 : callable Tryz.prog 13 = true := by kernel_rfl
theorem iT : FO Tryz.prog 26 1 22 1 := by unfold FO; kernel_rfl
theorem iY : dM Tryz.prog 22 = some 1 := by kernel_rfl
theorem tN : ko Tryz.prog 22 = some false := by kernel_rfl
theorem afJ (a0 : Int) : gY Tryz.prog 80 [(0, .d (eI a0))] = some (.d (aU (aA.mk a0 (0 : Int) (0 : Int) (ak.mk (0 : Int) (0 : UInt64) ([] : List UInt8))))) := by rfl
theorem amN : Tryz.prog.underlying 80 = some (.struct (Tryz.prog.fieldsOf 80)) := by kernel_rfl
theorem apR : (Tryz.prog.fieldsOf 80).toList.map Nw = [(false, 3, 0), (false, 3, 1), (false, 3, 2), (false, 74, 3)] := by kernel_rfl
theorem aoJ : Tryz.prog.stoodInHeld 80 = false := by kernel_rfl
theorem apY : Tryz.prog.eqGuardType Tryz.prog.depth 80 = false := by kernel_rfl
theorem FU (x y : aA) (d : Nat) : pr Tryz.prog (Op.equalIn (d + 3) 80 (.agg #[.int .i64 x.Kind, .int .i64 x.Col, .int .i64 x.Op, .int .i64 x.Val.Kind, .int .u64 (x.Val.N.toNat : Int), .string ⟨x.Val.S.toArray⟩]) (.agg #[.int .i64 y.Kind, .int .i64 y.Col, .int .i64 y.Op, .int .i64 y.Val.Kind, .int .u64 (y.Val.N.toNat : Int), .string ⟨y.Val.S.toArray⟩])) = some (oD x y) := tF (d := d + 2) amN apR aoJ (.cons (gT dH rfl) (gT dH rfl) (wG (d := d + 1) QJ _ _) (.cons (gT dH rfl) (gT dH rfl) (wG (d := d + 1) QJ _ _) (.cons (gT dH rfl) (gT dH rfl) (wG (d := d + 1) QJ _ _) (.cons (LQ o8 iC rfl) (LQ o8 iC rfl) (nA x.Val y.Val (d + 0)) .nil))))
theorem EO (X Y : Operand) (x y : aA) : cK Tryz.prog .eql 80 X Y (.d (aU x)) (.d (aU y)) = some (.d (eB (oD x y))) := EY (L := 3) rfl rfl apY (by decide) (FU x y)
theorem aqg : callable Tryz.prog 65 = true := by kernel_rfl
theorem BJ : dM Tryz.prog 76 = some 7 := by kernel_rfl
theorem wD : FO Tryz.prog 76 1 3 1 := by unfold FO; kernel_rfl
theorem aqp : callable Tryz.prog 33 = true := by kernel_rfl
theorem XQ : FO Tryz.prog 30 3 3 3 := by unfold FO; kernel_rfl
theorem ajW : callable Tryz.prog 34 = true := by kernel_rfl
theorem akh : callable Tryz.prog 11 = true := by kernel_rfl
theorem XP : FO Tryz.prog 52 0 3 0 := by unfold FO; kernel_rfl
theorem Z5 (a0 : List aG) : gY Tryz.prog 110 [(0, .d ((eL 8 aQ) a0))] = some (.d (.agg [((eL 8 aQ) a0), .dn])) := by rfl
theorem abT : Q7 Tryz.prog 108 = true := by kernel_rfl
theorem ni3 : Q7 Tryz.prog 3 = true := by kernel_rfl
theorem Q8 : Er Tryz.prog 108 "Push" = some (196, true) := by kernel_rfl
theorem Cb : Tryz.prog.underlying 108 = some (.pointer 110) := by kernel_rfl
theorem kP : FO Tryz.prog 110 1 23 1 := by unfold FO; kernel_rfl
theorem ajZ : callable Tryz.prog 196 = true := by kernel_rfl
theorem LY : Er Tryz.prog 108 "Len" = some (52, false) := by kernel_rfl
theorem DV : dM Tryz.prog 110 = some 2 := by kernel_rfl
theorem DZ : ko Tryz.prog 110 = some true := by kernel_rfl
theorem afz : callable Tryz.prog 52 = true := by kernel_rfl
theorem Da : Er Tryz.prog 108 "Less" = some (194, false) := by kernel_rfl
theorem Ia : FO Tryz.prog 110 0 41 0 := by unfold FO; kernel_rfl
theorem OQ : dM Tryz.prog 41 = some 1 := by kernel_rfl
theorem Zg : ko Tryz.prog 41 = some false := by kernel_rfl
theorem X9 : callable Tryz.prog 194 = true := by kernel_rfl
theorem C9 : Er Tryz.prog 108 "Swap" = some (197, false) := by kernel_rfl
theorem X8 : callable Tryz.prog 197 = true := by kernel_rfl
theorem ap6 : callable Tryz.prog 88 = true := by kernel_rfl
theorem aqj : callable Tryz.prog 51 = true := by kernel_rfl
theorem ap5 : callable Tryz.prog 89 = true := by kernel_rfl
theorem Uk : Er Tryz.prog 108 "Pop" = some (195, true) := by kernel_rfl
theorem aj0 : callable Tryz.prog 195 = true := by kernel_rfl
theorem aqi : callable Tryz.prog 53 = true := by kernel_rfl
theorem aj1 : callable Tryz.prog 19 = true := by kernel_rfl
theorem Ux : callable Tryz.prog 15 = true := by kernel_rfl
theorem cb7 : callable Tryz.prog 7 = true := by kernel_rfl
theorem Rn : FO Tryz.prog 26 0 9 0 := by unfold FO; kernel_rfl
theorem afG : callable Tryz.prog 26 = true := by kernel_rfl
theorem TK : ko Tryz.prog 76 = some true := by kernel_rfl
theorem Rk : FO Tryz.prog 76 0 9 0 := by unfold FO; kernel_rfl
theorem AX : FO Tryz.prog 76 2 3 2 := by unfold FO; kernel_rfl
theorem afj : FO Tryz.prog 76 4 74 4 := by unfold FO; kernel_rfl
theorem akg : callable Tryz.prog 116 = true := by kernel_rfl
theorem ajP : callable Tryz.prog 71 = true := by kernel_rfl
theorem XM : FO Tryz.prog 76 3 4 3 := by unfold FO; kernel_rfl
theorem aqh : callable Tryz.prog 63 = true := by kernel_rfl
theorem aqt : callable Tryz.prog 27 = true := by kernel_rfl
theorem NQ : callable Tryz.prog 40 = true := by kernel_rfl
theorem afF : callable Tryz.prog 28 = true := by kernel_rfl
theorem ajR : callable Tryz.prog 64 = true := by kernel_rfl
theorem aqs : callable Tryz.prog 29 = true := by kernel_rfl
theorem ajX : callable Tryz.prog 31 = true := by kernel_rfl
theorem ajY : callable Tryz.prog 30 = true := by kernel_rfl
theorem JI : FO Tryz.prog 60 0 9 0 := by unfold FO; kernel_rfl
theorem X7 : callable Tryz.prog 41 = true := by kernel_rfl
theorem aqr : callable Tryz.prog 32 = true := by kernel_rfl
theorem cb8 : callable Tryz.prog 8 = true := by kernel_rfl
theorem aqH : kQ Tryz.prog 22 = false := by kernel_rfl
theorem bc24 : kQ Tryz.prog 24 = false := by kernel_rfl
theorem cb9 : callable Tryz.prog 9 = true := by kernel_rfl
theorem adi : zeroOf Tryz.prog 37 = some (.agg [.dn, .dn, .dn, (eI (0 : Int))]) := by kernel_rfl
theorem RB (a1 : List Int) (a2 : List aI) (a3 : Int) : gY Tryz.prog 37 [(1, .d ((eL 1 eI) a1)), (2, .d ((eL 2 aR) a2)), (3, .d (eI a3))] = some (.d (.agg [.dn, ((eL 1 eI) a1), ((eL 2 aR) a2), (eI a3)])) := by rfl
theorem MH : dM Tryz.prog 37 = some 4 := by kernel_rfl
theorem FT : FO Tryz.prog 37 0 35 0 := by unfold FO; kernel_rfl
theorem GY : dM Tryz.prog 35 = some 1 := by kernel_rfl
theorem VP : ko Tryz.prog 35 = some false := by kernel_rfl
theorem NR (a0 : Int) (a1 : Int) (a2 : Int) (a3 : ak) : gY Tryz.prog 88 [(0, .d (eI a0)), (1, .d (eI a1)), (2, .d (eI a2)), (3, .d (bA a3))] = some (.d (au (bq.mk a0 a1 a2 a3))) := by rfl
theorem vQ : Tryz.prog.underlying 35 = some (.slice 88) := by kernel_rfl
theorem ajC : EI Tryz.prog 88 6 56 (au (bq.mk (0 : Int) (0 : Int) (0 : Int) (ak.mk (0 : Int) (0 : UInt64) ([] : List UInt8)))) := ⟨by kernel_rfl, by kernel_rfl, rfl, by decide, rfl, by decide⟩
theorem bc35 : kQ Tryz.prog 35 = false := by kernel_rfl
theorem TL : ko Tryz.prog 37 = some true := by kernel_rfl
theorem aqy : callable Tryz.prog 10 = true := by kernel_rfl
theorem zR : dM Tryz.prog 88 = some 6 := by kernel_rfl
theorem adD : ko Tryz.prog 88 = some true := by kernel_rfl
theorem adh : zeroOf Tryz.prog 88 = some (au (bq.mk (0 : Int) (0 : Int) (0 : Int) (ak.mk (0 : Int) (0 : UInt64) ([] : List UInt8)))) := by kernel_rfl
theorem eF : FO Tryz.prog 88 0 3 0 := by unfold FO; kernel_rfl
theorem yH : FO Tryz.prog 88 1 3 1 := by unfold FO; kernel_rfl
theorem jv : FO Tryz.prog 88 2 3 2 := by unfold FO; kernel_rfl
theorem qF : FO Tryz.prog 88 3 74 3 := by unfold FO; kernel_rfl
theorem yO : callable Tryz.prog 70 = true := by kernel_rfl
theorem aqo : callable Tryz.prog 39 = true := by kernel_rfl
theorem JL : FO Tryz.prog 37 1 23 1 := by unfold FO; kernel_rfl
theorem JK : FO Tryz.prog 37 2 28 2 := by unfold FO; kernel_rfl
theorem afk : FO Tryz.prog 37 3 3 3 := by unfold FO; kernel_rfl
theorem aqx : callable Tryz.prog 12 = true := by kernel_rfl
theorem afL (a2 : Bool) : gY Tryz.prog 50 [(2, .d (eB a2))] = some (.d (bB (aW.mk ([] : List UInt8) ([] : List UInt8) a2))) := by rfl
theorem Rz (a0 : Int) (a1 : aW) (a5 : Int) : gY Tryz.prog 53 [(0, .d (eI a0)), (1, .d (bB a1)), (5, .d (eI a5))] = some (.d (aL (aD.mk a0 a1 (0 : Int) false false a5))) := by rfl
theorem Iu : Tryz.prog.underlying 43 = some (.slice 53) := by kernel_rfl
theorem XY : EI Tryz.prog 53 8 72 (aL (aD.mk (0 : Int) (aW.mk ([] : List UInt8) ([] : List UInt8) false) (0 : Int) false false (0 : Int))) := ⟨by kernel_rfl, by kernel_rfl, rfl, by decide, rfl, by decide⟩
theorem ap8 : callable Tryz.prog 83 = true := by kernel_rfl
theorem afM : gY Tryz.prog 207 [] = some (.d (.agg [.dn])) := by rfl
theorem vK : FO Tryz.prog 207 0 156 0 := by unfold FO; kernel_rfl
theorem GI : callable Tryz.prog 147 = true := by kernel_rfl
theorem aj6 : callable Tryz.prog 139 = true := by kernel_rfl
theorem akd : callable Tryz.prog 120 = true := by kernel_rfl
theorem ajK : callable Tryz.prog 84 = true := by kernel_rfl
theorem adf : callable Tryz.prog 121 = true := by kernel_rfl
theorem ajJ : callable Tryz.prog 85 = true := by kernel_rfl
theorem Z0 : callable Tryz.prog 86 = true := by kernel_rfl
theorem ajS : callable Tryz.prog 46 = true := by kernel_rfl
theorem afA : callable Tryz.prog 47 = true := by kernel_rfl
theorem J3 (a0 : Int) (a1 : aW) (a2 : Int) (a3 : Bool) (a5 : Int) : gY Tryz.prog 53 [(0, .d (eI a0)), (1, .d (bB a1)), (2, .d (eI a2)), (3, .d (eB a3)), (5, .d (eI a5))] = some (.d (aL (aD.mk a0 a1 a2 a3 false a5))) := by rfl
theorem bc43 : kQ Tryz.prog 43 = false := by kernel_rfl
theorem aqk : callable Tryz.prog 50 = true := by kernel_rfl
theorem aj2 : callable Tryz.prog 17 = true := by kernel_rfl
theorem J4 (a0 : Int) (a1 : aW) (a2 : Int) (a3 : Bool) (a4 : Bool) : gY Tryz.prog 53 [(0, .d (eI a0)), (1, .d (bB a1)), (2, .d (eI a2)), (3, .d (eB a3)), (4, .d (eB a4))] = some (.d (aL (aD.mk a0 a1 a2 a3 a4 (0 : Int)))) := by rfl
theorem afZ : zeroOf Tryz.prog 53 = some (aL (aD.mk (0 : Int) (aW.mk ([] : List UInt8) ([] : List UInt8) false) (0 : Int) false false (0 : Int))) := by kernel_rfl
theorem OP : dM Tryz.prog 53 = some 8 := by kernel_rfl
theorem FR : FO Tryz.prog 53 4 4 6 := by unfold FO; kernel_rfl
theorem ND : FO Tryz.prog 53 5 3 7 := by unfold FO; kernel_rfl
theorem adE : ko Tryz.prog 53 = some true := by kernel_rfl
theorem aqw : callable Tryz.prog 14 = true := by kernel_rfl
theorem XR : FO Tryz.prog 26 4 3 4 := by unfold FO; kernel_rfl
theorem amP : Tryz.prog.underlying 76 = some (.struct (Tryz.prog.fieldsOf 76)) := by kernel_rfl
theorem apT : (Tryz.prog.fieldsOf 76).toList.map Nw = [(false, 9, 0), (false, 3, 1), (false, 3, 2), (false, 4, 3), (false, 74, 4)] := by kernel_rfl
theorem aoL : Tryz.prog.stoodInHeld 76 = false := by kernel_rfl
theorem ap0 : Tryz.prog.eqGuardType Tryz.prog.depth 76 = false := by kernel_rfl
theorem EP (x y : aB) (d : Nat) : pr Tryz.prog (Op.equalIn (d + 3) 76 (.agg #[.string ⟨x.Name.toArray⟩, .int .i64 x.Kind, .int .i64 x.Max, .bool x.vN, .int .i64 x.Default.Kind, .int .u64 (x.Default.N.toNat : Int), .string ⟨x.Default.S.toArray⟩]) (.agg #[.string ⟨y.Name.toArray⟩, .int .i64 y.Kind, .int .i64 y.Max, .bool y.vN, .int .i64 y.Default.Kind, .int .u64 (y.Default.N.toNat : Int), .string ⟨y.Default.S.toArray⟩])) = some (kg x y) := tF (d := d + 2) amP apT aoL (.cons (gT xG rfl) (gT xG rfl) (NM (d := d + 1) uR _ _) (.cons (gT dH rfl) (gT dH rfl) (wG (d := d + 1) QJ _ _) (.cons (gT dH rfl) (gT dH rfl) (wG (d := d + 1) QJ _ _) (.cons (gT wS rfl) (gT wS rfl) (EN (d := d + 1) Yz _ _) (.cons (LQ o8 iC rfl) (LQ o8 iC rfl) (nA x.Default y.Default (d + 0)) .nil)))))
theorem Dp (X Y : Operand) (x y : aB) : cK Tryz.prog .neq 76 X Y (.d (bI x)) (.d (bI y)) = some (.d (eB (!kg x y))) := sV (L := 3) rfl rfl ap0 (by decide) (EP x y)
theorem XO : FO Tryz.prog 60 5 3 5 := by unfold FO; kernel_rfl
theorem amO : Tryz.prog.underlying 78 = some (.struct (Tryz.prog.fieldsOf 78)) := by kernel_rfl
theorem apS : (Tryz.prog.fieldsOf 78).toList.map Nw = [(false, 3, 0), (false, 4, 1)] := by kernel_rfl
theorem aoK : Tryz.prog.stoodInHeld 78 = false := by kernel_rfl
theorem apZ : Tryz.prog.eqGuardType Tryz.prog.depth 78 = false := by kernel_rfl
theorem Hu (x y : aI) (d : Nat) : pr Tryz.prog (Op.equalIn (d + 2) 78 (.agg #[.int .i64 x.Col, .bool x.Down]) (.agg #[.int .i64 y.Col, .bool y.Down])) = some (oU x y) := tF (d := d + 1) amO apS aoK (.cons (gT dH rfl) (gT dH rfl) (wG (d := d + 0) QJ _ _) (.cons (gT wS rfl) (gT wS rfl) (EN (d := d + 0) Yz _ _) .nil))
theorem FW (X Y : Operand) (x y : aI) : cK Tryz.prog .neq 78 X Y (.d (aR x)) (.d (aR y)) = some (.d (eB (!oU x y))) := sV (L := 2) rfl rfl apZ (by decide) (Hu x y)
theorem aqv : callable Tryz.prog 18 = true := by kernel_rfl
theorem F7 (a0 : Int) (a1 : aW) (a2 : Int) (a3 : Bool) (a4 : Bool) (a5 : Int) : gY Tryz.prog 53 [(0, .d (eI a0)), (1, .d (bB a1)), (2, .d (eI a2)), (3, .d (eB a3)), (4, .d (eB a4)), (5, .d (eI a5))] = some (.d (aL (aD.mk a0 a1 a2 a3 a4 a5))) := by rfl
theorem amS : Tryz.prog.underlying 50 = some (.struct (Tryz.prog.fieldsOf 50)) := by kernel_rfl
theorem apW : (Tryz.prog.fieldsOf 50).toList.map Nw = [(false, 9, 0), (false, 9, 1), (false, 4, 2)] := by kernel_rfl
theorem aoO : Tryz.prog.stoodInHeld 50 = false := by kernel_rfl
theorem Ht (x y : aW) (d : Nat) : pr Tryz.prog (Op.equalIn (d + 2) 50 (.agg #[.string ⟨x.Lo.toArray⟩, .string ⟨x.Hi.toArray⟩, .bool x.Open]) (.agg #[.string ⟨y.Lo.toArray⟩, .string ⟨y.Hi.toArray⟩, .bool y.Open])) = some (FV x y) := tF (d := d + 1) amS apW aoO (.cons (gT xG rfl) (gT xG rfl) (NM (d := d + 0) uR _ _) (.cons (gT xG rfl) (gT xG rfl) (NM (d := d + 0) uR _ _) (.cons (gT wS rfl) (gT wS rfl) (EN (d := d + 0) Yz _ _) .nil)))
theorem amR : Tryz.prog.underlying 53 = some (.struct (Tryz.prog.fieldsOf 53)) := by kernel_rfl
theorem apV : (Tryz.prog.fieldsOf 53).toList.map Nw = [(false, 3, 0), (false, 50, 1), (false, 3, 4), (false, 4, 5), (false, 4, 6), (false, 3, 7)] := by kernel_rfl
theorem aoN : Tryz.prog.stoodInHeld 53 = false := by kernel_rfl
theorem ap1 : Tryz.prog.eqGuardType Tryz.prog.depth 53 = false := by kernel_rfl
theorem wH (x y : aD) (d : Nat) : pr Tryz.prog (Op.equalIn (d + 3) 53 (.agg #[.int .i64 x.Index, .string ⟨x.Span.Lo.toArray⟩, .string ⟨x.Span.Hi.toArray⟩, .bool x.Span.Open, .int .i64 x.Fixed, .bool x.Bounded, .bool x.Covers, .int .i64 x.jL]) (.agg #[.int .i64 y.Index, .string ⟨y.Span.Lo.toArray⟩, .string ⟨y.Span.Hi.toArray⟩, .bool y.Span.Open, .int .i64 y.Fixed, .bool y.Bounded, .bool y.Covers, .int .i64 y.jL])) = some (gJ x y) := tF (d := d + 2) amR apV aoN (.cons (gT dH rfl) (gT dH rfl) (wG (d := d + 1) QJ _ _) (.cons (LQ CG nE rfl) (LQ CG nE rfl) (Ht x.Span y.Span (d + 0)) (.cons (gT dH rfl) (gT dH rfl) (wG (d := d + 1) QJ _ _) (.cons (gT wS rfl) (gT wS rfl) (EN (d := d + 1) Yz _ _) (.cons (gT wS rfl) (gT wS rfl) (EN (d := d + 1) Yz _ _) (.cons (gT dH rfl) (gT dH rfl) (wG (d := d + 1) QJ _ _) .nil))))))
theorem uV (X Y : Operand) (x y : aD) : cK Tryz.prog .neq 53 X Y (.d (aL x)) (.d (aL y)) = some (.d (eB (!gJ x y))) := sV (L := 3) rfl rfl ap1 (by decide) (wH x y)
theorem aqu : callable Tryz.prog 20 = true := by kernel_rfl
end Lv
