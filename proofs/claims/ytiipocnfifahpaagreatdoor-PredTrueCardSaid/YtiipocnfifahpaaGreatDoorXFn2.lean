/- Part of the proof of a law: functions and their walks. -/
import Derived.Test.YtiipocnfifahpaaGreatDoorXFn1
namespace Lv
open Go Go.Proofs
set_option linter.unusedVariables false
set_option linter.unusedSimpArgs false
set_option linter.unusedSectionVars false
set_option maxRecDepth 100000
variable [BaseTab] [TabOk]
noncomputable def law20_PredTrue (p0 : List ApiColumn) (p1 : List PredNode) (p2 : List ApiValue) (p3 : List ApiPart) : Option Bool :=
 Option.bind law20_awake fun r119 =>
 bif (!r119) then
 some false
 else
 bif decide ((([] : List PredNode).length + p1.length) * 56 ≤ room) then
 bif decide (((([] : List PredNode) ++ p1).length + [(PredNode.mk (1 : Int) (0 : Int) (0 : Int) (ApiValue.mk (0 : Int) (0 : UInt64) ([] : List UInt8))), (PredNode.mk (4 : Int) (0 : Int) (0 : Int) (ApiValue.mk (0 : Int) (0 : UInt64) ([] : List UInt8)))].length) * 56 ≤ room) then
 bif decide ((([] : List PredNode).length + p1.length) * 56 ≤ room) then
 bif decide (((([] : List PredNode) ++ p1).length + [(PredNode.mk (6 : Int) (0 : Int) (0 : Int) (ApiValue.mk (0 : Int) (0 : UInt64) ([] : List UInt8))), (PredNode.mk (6 : Int) (0 : Int) (0 : Int) (ApiValue.mk (0 : Int) (0 : UInt64) ([] : List UInt8)))].length) * 56 ≤ room) then
 Option.bind (α := Bool)
 (bif (decide ((p0.length : Int) > (24 : Int))) then
 some true
 else
 Option.bind (pred_Check p0 p1) fun r133 =>
 bif (r133 != (0 : Int)) then
 some true
 else
 Option.bind (pred_Check p0 ((([] : List PredNode) ++ p1) ++ [(PredNode.mk (1 : Int) (0 : Int) (0 : Int) (ApiValue.mk (0 : Int) (0 : UInt64) ([] : List UInt8))), (PredNode.mk (4 : Int) (0 : Int) (0 : Int) (ApiValue.mk (0 : Int) (0 : UInt64) ([] : List UInt8)))])) fun r135 =>
 bif (r135 != (0 : Int)) then
 some true
 else
 Option.bind (pred_Check p0 ((([] : List PredNode) ++ p1) ++ [(PredNode.mk (6 : Int) (0 : Int) (0 : Int) (ApiValue.mk (0 : Int) (0 : UInt64) ([] : List UInt8))), (PredNode.mk (6 : Int) (0 : Int) (0 : Int) (ApiValue.mk (0 : Int) (0 : UInt64) ([] : List UInt8)))])) fun r137 =>
 some (r137 != (0 : Int)))
 fun y130 =>
 bif y130 then
 some true
 else
 Option.bind (α := Bool)
 (Option.bind (ref08_Fits p0 p2) fun r151 =>
 bif (r151 == (0 : Int)) then
 Option.bind (pred_Eval p1 p2) fun r153 =>
 Option.bind (pred_Eval ((([] : List PredNode) ++ p1) ++ [(PredNode.mk (1 : Int) (0 : Int) (0 : Int) (ApiValue.mk (0 : Int) (0 : UInt64) ([] : List UInt8))), (PredNode.mk (4 : Int) (0 : Int) (0 : Int) (ApiValue.mk (0 : Int) (0 : UInt64) ([] : List UInt8)))]) p2) fun r155 =>
 bif (r153 != r155) then
 some true
 else
 Option.bind (pred_Eval p1 p2) fun r157 =>
 Option.bind (pred_Eval ((([] : List PredNode) ++ p1) ++ [(PredNode.mk (6 : Int) (0 : Int) (0 : Int) (ApiValue.mk (0 : Int) (0 : UInt64) ([] : List UInt8))), (PredNode.mk (6 : Int) (0 : Int) (0 : Int) (ApiValue.mk (0 : Int) (0 : UInt64) ([] : List UInt8)))]) p2) fun r159 =>
 some (r157 != r159)
 else
 some false)
 fun y148 =>
 bif y148 then
 some false
 else
 Option.bind (law20_parts p0 p3) fun r161 =>
 bif (!r161) then
 some true
 else
 Option.bind (pred_Bounds p3 p1) fun (r163, r164, r165) =>
 Option.bind (pred_Bounds p3 ((([] : List PredNode) ++ p1) ++ [(PredNode.mk (1 : Int) (0 : Int) (0 : Int) (ApiValue.mk (0 : Int) (0 : UInt64) ([] : List UInt8))), (PredNode.mk (4 : Int) (0 : Int) (0 : Int) (ApiValue.mk (0 : Int) (0 : UInt64) ([] : List UInt8)))])) fun (r167, r168, r169) =>
 Option.bind (pred_Bounds p3 ((([] : List PredNode) ++ p1) ++ [(PredNode.mk (6 : Int) (0 : Int) (0 : Int) (ApiValue.mk (0 : Int) (0 : UInt64) ([] : List UInt8))), (PredNode.mk (6 : Int) (0 : Int) (0 : Int) (ApiValue.mk (0 : Int) (0 : UInt64) ([] : List UInt8)))])) fun (r171, r172, r173) =>
 Option.bind (α := Bool)
 (bif (eqApiSpan r165 r169) then
 bif (r163 == r167) then
 bif (r164 == r168) then
 bif (eqApiSpan r173 (ApiSpan.mk ([] : List UInt8) ([] : List UInt8) true)) then
 bif (r171 == (0 : Int)) then
 some (!r172)
 else
 some false
 else
 some false
 else
 some false
 else
 some false
 else
 some false)
 fun y174 =>
 some y174
 else none
 else none
 else none
 else none
theorem law20_PredTrue_ok (p0 : List ApiColumn) (p1 : List PredNode) (p2 : List ApiValue) (p3 : List ApiPart) (r : Bool) (h0 : law20_PredTrue p0 p1 p2 p3 = some r) : CallAt Tryz.prog 6 [.d ((eL 7 eApiColumn) p0), .d ((eL 6 ePredNode) p1), .d ((eL 3 eApiValue) p2), .d ((eL 2 eApiPart) p3)] [] (.d (eB r)) [] := by
 unfold law20_PredTrue at h0
 refine fn0 [0, 1, 2, 3] Tryz.func6 rfl rfl rfl rfl rfl ?_
 obtain ⟨r119, hq118, h0⟩ := ob h0
 refine sr (sa rfl (sn (sq (sr (c0 (law20_awake_ok _ hq118) wf rfl rfl rfl cb7 rfl (fun _ => rfl) (fun _ => rfl) (s1 (nt rfl) (sn (cB h0 rfl (fun h0 => ?_) (fun h0 => ?_)))))))))
 ·have q := si h0; subst q
  exact sr (sa rfl (sn (SC.ret (finR (Wk.refl _) (lresT rfl lresN) rfl))))
 ·obtain ⟨hg120, h0⟩ := gd h0; obtain ⟨hg121, h0⟩ := gd h0; obtain ⟨hg122, h0⟩ := gd h0; obtain ⟨hg123, h0⟩ := gd h0
  refine sk (sr (s1 (bsn (k := 0) (ds := List.map ePredNode ([] : List PredNode)) (off := 0) (l' := ([] : List PredNode).length) rfl un23 ei43 rfl rfl rfl rfl rfl rfl) (sm rfl (s1 (app rfl rfl rfl rfl bc23 (aF (f := ePredNode) (xs := ([] : List PredNode)) (k := 1) rfl un23 ei43 rfl el_lst hg120 rfl)) (s1 (bld rfl (bd43_0 (1 : Int))) (s1 (bld rfl (bd43_0 (4 : Int))) (s1 (bsn (k := 2) (ds := List.map ePredNode [(PredNode.mk (1 : Int) (0 : Int) (0 : Int) (ApiValue.mk (0 : Int) (0 : UInt64) ([] : List UInt8))), (PredNode.mk (4 : Int) (0 : Int) (0 : Int) (ApiValue.mk (0 : Int) (0 : UInt64) ([] : List UInt8)))]) (off := 0) (l' := [(PredNode.mk (1 : Int) (0 : Int) (0 : Int) (ApiValue.mk (0 : Int) (0 : UInt64) ([] : List UInt8))), (PredNode.mk (4 : Int) (0 : Int) (0 : Int) (ApiValue.mk (0 : Int) (0 : UInt64) ([] : List UInt8)))].length) rfl un23 ei43 rfl rfl (by rfl) rfl rfl rfl) (s1 (app rfl rfl rfl rfl bc23 (aF (f := ePredNode) (xs := (([] : List PredNode) ++ p1)) (k := 3) rfl un23 ei43 rfl (el_full (xs := [(PredNode.mk (1 : Int) (0 : Int) (0 : Int) (ApiValue.mk (0 : Int) (0 : UInt64) ([] : List UInt8))), (PredNode.mk (4 : Int) (0 : Int) (0 : Int) (ApiValue.mk (0 : Int) (0 : UInt64) ([] : List UInt8)))]) rfl) hg121 rfl)) (sa rfl ?_)))))))))
  refine sn (sr (s1 (bsn (k := 4) (ds := List.map ePredNode ([] : List PredNode)) (off := 0) (l' := ([] : List PredNode).length) rfl un23 ei43 rfl rfl rfl rfl rfl rfl) (sm rfl (s1 (app rfl rfl rfl rfl bc23 (aF (f := ePredNode) (xs := ([] : List PredNode)) (k := 5) rfl un23 ei43 rfl el_lst hg122 rfl)) (s1 (bld rfl (bd43_0 (6 : Int))) (s1 (bld rfl (bd43_0 (6 : Int))) (s1 (bsn (k := 6) (ds := List.map ePredNode [(PredNode.mk (6 : Int) (0 : Int) (0 : Int) (ApiValue.mk (0 : Int) (0 : UInt64) ([] : List UInt8))), (PredNode.mk (6 : Int) (0 : Int) (0 : Int) (ApiValue.mk (0 : Int) (0 : UInt64) ([] : List UInt8)))]) (off := 0) (l' := [(PredNode.mk (6 : Int) (0 : Int) (0 : Int) (ApiValue.mk (0 : Int) (0 : UInt64) ([] : List UInt8))), (PredNode.mk (6 : Int) (0 : Int) (0 : Int) (ApiValue.mk (0 : Int) (0 : UInt64) ([] : List UInt8)))].length) rfl un23 ei43 rfl rfl (by rfl) rfl rfl rfl) (s1 (app rfl rfl rfl rfl bc23 (aF (f := ePredNode) (xs := (([] : List PredNode) ++ p1)) (k := 7) rfl un23 ei43 rfl (el_full (xs := [(PredNode.mk (6 : Int) (0 : Int) (0 : Int) (ApiValue.mk (0 : Int) (0 : UInt64) ([] : List UInt8))), (PredNode.mk (6 : Int) (0 : Int) (0 : Int) (ApiValue.mk (0 : Int) (0 : UInt64) ([] : List UInt8)))]) rfl) hg123 rfl)) (sa rfl ?_)))))))))
  refine sn (sq (SC.seqP h0 (fun y => ⟨mk 130 [(0, .d ((eL 7 eApiColumn) p0)), (1, .d ((eL 6 ePredNode) p1)), (2, .d ((eL 3 eApiValue) p2)), (3, .d ((eL 2 eApiPart) p3)), (9, .slc 0 6 0 (((([] : List PredNode) ++ p1) ++ [(PredNode.mk (1 : Int) (0 : Int) (0 : Int) (ApiValue.mk (0 : Int) (0 : UInt64) ([] : List UInt8))), (PredNode.mk (4 : Int) (0 : Int) (0 : Int) (ApiValue.mk (0 : Int) (0 : UInt64) ([] : List UInt8)))]).length) none), (10, .slc 1 6 0 (((([] : List PredNode) ++ p1) ++ [(PredNode.mk (6 : Int) (0 : Int) (0 : Int) (ApiValue.mk (0 : Int) (0 : UInt64) ([] : List UInt8))), (PredNode.mk (6 : Int) (0 : Int) (0 : Int) (ApiValue.mk (0 : Int) (0 : UInt64) ([] : List UInt8)))]).length) none), (56, .d (eB y))], [.row 6 (List.map ePredNode ((([] : List PredNode) ++ p1) ++ [(PredNode.mk (1 : Int) (0 : Int) (0 : Int) (ApiValue.mk (0 : Int) (0 : UInt64) ([] : List UInt8))), (PredNode.mk (4 : Int) (0 : Int) (0 : Int) (ApiValue.mk (0 : Int) (0 : UInt64) ([] : List UInt8)))])) false, .row 6 (List.map ePredNode ((([] : List PredNode) ++ p1) ++ [(PredNode.mk (6 : Int) (0 : Int) (0 : Int) (ApiValue.mk (0 : Int) (0 : UInt64) ([] : List UInt8))), (PredNode.mk (6 : Int) (0 : Int) (0 : Int) (ApiValue.mk (0 : Int) (0 : UInt64) ([] : List UInt8)))])) false]⟩) ?_ ?_))
  ·intro u1_131 h1
   refine SC.region (sm rfl (s1 (len rfl rfl rfl (len_lst un22)) (s1 (bi rfl rfl q_i64_gtr) (sm rfl (sp h1 (fun h1 => ?_) (fun h1 => ?_))))))
   ·have q := si h1; subst q
    refine kw rfl (kw rfl (kw rfl (kw rfl (s1 (pkt rfl rfl) (sm rfl (kw rfl (kw rfl (kw rfl (kw rfl ?_)))))))))
    exact s1 (pkt rfl rfl) (sm rfl (kw rfl (kw rfl (kw rfl (kw rfl (s1 (pkt rfl rfl) (SO.nil ((Wk.trans (wq (e' := [(0, .d ((eL 7 eApiColumn) p0)), (1, .d ((eL 6 ePredNode) p1)), (2, .d ((eL 3 eApiValue) p2)), (3, .d ((eL 2 eApiPart) p3)), (9, .slc 3 6 0 (((([] : List PredNode) ++ p1) ++ [(PredNode.mk (1 : Int) (0 : Int) (0 : Int) (ApiValue.mk (0 : Int) (0 : UInt64) ([] : List UInt8))), (PredNode.mk (4 : Int) (0 : Int) (0 : Int) (ApiValue.mk (0 : Int) (0 : UInt64) ([] : List UInt8)))]).length) none), (10, .slc 7 6 0 (((([] : List PredNode) ++ p1) ++ [(PredNode.mk (6 : Int) (0 : Int) (0 : Int) (ApiValue.mk (0 : Int) (0 : UInt64) ([] : List UInt8))), (PredNode.mk (6 : Int) (0 : Int) (0 : Int) (ApiValue.mk (0 : Int) (0 : UInt64) ([] : List UInt8)))]).length) none), (56, .d (eB true))]) rfl) (Wk.trans (fro 3 rfl rfl) (Wk.trans (fro 7 rfl rfl) (wc [3, 7] [3, 7] (by kernel_rfl) rfl (by kernel_rfl)))))))))))))
   ·obtain ⟨r133, hq132, h1⟩ := ob h1
    refine gw rfl (mv rfl) (gw rfl (mv rfl) (c0 (pred_Check_ok p0 p1 _ hq132) (ww rfl) rfl rfl rfl cb8 rfl (fun _ => rfl) (fun _ => rfl) (gw rfl (bi rfl rfl q_i64_neq) (s1 (pkf rfl rfl) (sm rfl (sp h1 (fun h1 => ?_) (fun h1 => ?_)))))))
    ·have q := si h1; subst q
     refine kw rfl (kw rfl (kw rfl (kw rfl (s1 (pkt rfl rfl) (sm rfl (kw rfl (kw rfl (kw rfl (kw rfl ?_)))))))))
     exact s1 (pkt rfl rfl) (SO.nil ((Wk.trans (wq (e' := [(0, .d ((eL 7 eApiColumn) p0)), (1, .d ((eL 6 ePredNode) p1)), (2, .d ((eL 3 eApiValue) p2)), (3, .d ((eL 2 eApiPart) p3)), (9, .slc 3 6 0 (((([] : List PredNode) ++ p1) ++ [(PredNode.mk (1 : Int) (0 : Int) (0 : Int) (ApiValue.mk (0 : Int) (0 : UInt64) ([] : List UInt8))), (PredNode.mk (4 : Int) (0 : Int) (0 : Int) (ApiValue.mk (0 : Int) (0 : UInt64) ([] : List UInt8)))]).length) none), (10, .slc 7 6 0 (((([] : List PredNode) ++ p1) ++ [(PredNode.mk (6 : Int) (0 : Int) (0 : Int) (ApiValue.mk (0 : Int) (0 : UInt64) ([] : List UInt8))), (PredNode.mk (6 : Int) (0 : Int) (0 : Int) (ApiValue.mk (0 : Int) (0 : UInt64) ([] : List UInt8)))]).length) none), (56, .d (eB true))]) rfl) (Wk.trans (fro 3 rfl rfl) (Wk.trans (fro 7 rfl rfl) (wc [3, 7] [3, 7] (by kernel_rfl) rfl (by kernel_rfl)))))))
    ·obtain ⟨r135, hq134, h1⟩ := ob h1
     refine gw rfl (mv rfl) (gw rfl (mv rfl) (cq (args' := [.d ((eL 7 eApiColumn) p0), .slc 0 6 0 (((([] : List PredNode) ++ p1) ++ [(PredNode.mk (1 : Int) (0 : Int) (0 : Int) (ApiValue.mk (0 : Int) (0 : UInt64) ([] : List UInt8))), (PredNode.mk (4 : Int) (0 : Int) (0 : Int) (ApiValue.mk (0 : Int) (0 : UInt64) ([] : List UInt8)))]).length) none]) (σc := [.row 6 (List.map ePredNode ((([] : List PredNode) ++ p1) ++ [(PredNode.mk (1 : Int) (0 : Int) (0 : Int) (ApiValue.mk (0 : Int) (0 : UInt64) ([] : List UInt8))), (PredNode.mk (4 : Int) (0 : Int) (0 : Int) (ApiValue.mk (0 : Int) (0 : UInt64) ([] : List UInt8)))])) true]) [3] [] (CallAt.frz (ArgF.keep (ArgF.frz (fF rfl rfl rfl) (ArgF.nil _))) (fq [] [] (pred_Check_ok p0 ((([] : List PredNode) ++ p1) ++ [(PredNode.mk (1 : Int) (0 : Int) (0 : Int) (ApiValue.mk (0 : Int) (0 : UInt64) ([] : List UInt8))), (PredNode.mk (4 : Int) (0 : Int) (0 : Int) (ApiValue.mk (0 : Int) (0 : UInt64) ([] : List UInt8)))]) _ hq134) rfl rfl rfl rfl rfl rfl rfl rfl)) (ww rfl) rfl rfl rfl cb8 rfl rfl rfl rfl rfl rfl rfl rfl (gw rfl (bi rfl rfl q_i64_neq) (s1 (pkf rfl rfl) (sm rfl (sp h1 (fun h1 => ?_) (fun h1 => ?_)))))))
     ·have q := si h1; subst q
      exact kw rfl (kw rfl (kw rfl (kw rfl (s1 (pkt rfl rfl) (SO.nil ((Wk.trans (wq (e' := [(0, .d ((eL 7 eApiColumn) p0)), (1, .d ((eL 6 ePredNode) p1)), (2, .d ((eL 3 eApiValue) p2)), (3, .d ((eL 2 eApiPart) p3)), (9, .slc 3 6 0 (((([] : List PredNode) ++ p1) ++ [(PredNode.mk (1 : Int) (0 : Int) (0 : Int) (ApiValue.mk (0 : Int) (0 : UInt64) ([] : List UInt8))), (PredNode.mk (4 : Int) (0 : Int) (0 : Int) (ApiValue.mk (0 : Int) (0 : UInt64) ([] : List UInt8)))]).length) none), (10, .slc 7 6 0 (((([] : List PredNode) ++ p1) ++ [(PredNode.mk (6 : Int) (0 : Int) (0 : Int) (ApiValue.mk (0 : Int) (0 : UInt64) ([] : List UInt8))), (PredNode.mk (6 : Int) (0 : Int) (0 : Int) (ApiValue.mk (0 : Int) (0 : UInt64) ([] : List UInt8)))]).length) none), (56, .d (eB true))]) rfl) (Wk.trans (fro 7 rfl rfl) (wc [3, 7] [3, 7] (by kernel_rfl) rfl (by kernel_rfl))))))))))
     ·obtain ⟨r137, hq136, h1⟩ := ob h1; have q := si h1; subst q
      exact gw rfl (mv rfl) (gw rfl (mv rfl) (cq (args' := [.d ((eL 7 eApiColumn) p0), .slc 0 6 0 (((([] : List PredNode) ++ p1) ++ [(PredNode.mk (6 : Int) (0 : Int) (0 : Int) (ApiValue.mk (0 : Int) (0 : UInt64) ([] : List UInt8))), (PredNode.mk (6 : Int) (0 : Int) (0 : Int) (ApiValue.mk (0 : Int) (0 : UInt64) ([] : List UInt8)))]).length) none]) (σc := [.row 6 (List.map ePredNode ((([] : List PredNode) ++ p1) ++ [(PredNode.mk (6 : Int) (0 : Int) (0 : Int) (ApiValue.mk (0 : Int) (0 : UInt64) ([] : List UInt8))), (PredNode.mk (6 : Int) (0 : Int) (0 : Int) (ApiValue.mk (0 : Int) (0 : UInt64) ([] : List UInt8)))])) true]) [7] [] (CallAt.frz (ArgF.keep (ArgF.frz (fF rfl rfl rfl) (ArgF.nil _))) (fq [] [] (pred_Check_ok p0 ((([] : List PredNode) ++ p1) ++ [(PredNode.mk (6 : Int) (0 : Int) (0 : Int) (ApiValue.mk (0 : Int) (0 : UInt64) ([] : List UInt8))), (PredNode.mk (6 : Int) (0 : Int) (0 : Int) (ApiValue.mk (0 : Int) (0 : UInt64) ([] : List UInt8)))]) _ hq136) rfl rfl rfl rfl rfl rfl rfl rfl)) (ww rfl) rfl rfl rfl cb8 rfl rfl rfl rfl rfl rfl rfl rfl (gw rfl (bi rfl rfl q_i64_neq) (s1 (pkf rfl rfl) (SO.nil ((wc [3, 7] [3, 7] (by kernel_rfl) rfl (by kernel_rfl))))))))
  ·rintro y130 h0
   refine cB h0 rfl (fun h0 => ?_) (fun h0 => ?_)
   ·have q := si h0; subst q
    exact sr (sa rfl (sn (SC.ret (finR (wc (e' := [(8, .d (eB true))]) [] [] (by kernel_rfl) rfl (by kernel_rfl)) (lresT rfl lresN) rfl))))
   ·refine sk (sq (SC.seqP h0 (fun y => ⟨mk 130 [(0, .d ((eL 7 eApiColumn) p0)), (1, .d ((eL 6 ePredNode) p1)), (3, .d ((eL 2 eApiPart) p3)), (9, .slc 0 6 0 (((([] : List PredNode) ++ p1) ++ [(PredNode.mk (1 : Int) (0 : Int) (0 : Int) (ApiValue.mk (0 : Int) (0 : UInt64) ([] : List UInt8))), (PredNode.mk (4 : Int) (0 : Int) (0 : Int) (ApiValue.mk (0 : Int) (0 : UInt64) ([] : List UInt8)))]).length) none), (10, .slc 1 6 0 (((([] : List PredNode) ++ p1) ++ [(PredNode.mk (6 : Int) (0 : Int) (0 : Int) (ApiValue.mk (0 : Int) (0 : UInt64) ([] : List UInt8))), (PredNode.mk (6 : Int) (0 : Int) (0 : Int) (ApiValue.mk (0 : Int) (0 : UInt64) ([] : List UInt8)))]).length) none), (78, .d (eB y))], [.row 6 (List.map ePredNode ((([] : List PredNode) ++ p1) ++ [(PredNode.mk (1 : Int) (0 : Int) (0 : Int) (ApiValue.mk (0 : Int) (0 : UInt64) ([] : List UInt8))), (PredNode.mk (4 : Int) (0 : Int) (0 : Int) (ApiValue.mk (0 : Int) (0 : UInt64) ([] : List UInt8)))])) false, .row 6 (List.map ePredNode ((([] : List PredNode) ++ p1) ++ [(PredNode.mk (6 : Int) (0 : Int) (0 : Int) (ApiValue.mk (0 : Int) (0 : UInt64) ([] : List UInt8))), (PredNode.mk (6 : Int) (0 : Int) (0 : Int) (ApiValue.mk (0 : Int) (0 : UInt64) ([] : List UInt8)))])) false]⟩) ?_ ?_))
    ·intro u1_149 h1
     obtain ⟨r151, hq150, h1⟩ := ob h1
     refine SC.region (sm rfl (sm rfl (c0 (ref08_Fits_ok p0 p2 _ hq150) wf rfl rfl rfl cb10 rfl (fun _ => rfl) (fun _ => rfl) (s1 (bi rfl rfl q_i64_eql) (sm rfl (sp h1 (fun h1 => ?_) (fun h1 => ?_)))))))
     ·obtain ⟨r153, hq152, h1⟩ := ob h1; obtain ⟨r155, hq154, h1⟩ := ob h1
      refine gw rfl (mv rfl) (gw rfl (mv rfl) (c0 (pred_Eval_ok p1 p2 _ hq152) (ww rfl) rfl rfl rfl cb11 rfl (fun _ => rfl) (fun _ => rfl) (gw rfl (mv rfl) (gw rfl (mv rfl) (cq (args' := [.slc 0 6 0 (((([] : List PredNode) ++ p1) ++ [(PredNode.mk (1 : Int) (0 : Int) (0 : Int) (ApiValue.mk (0 : Int) (0 : UInt64) ([] : List UInt8))), (PredNode.mk (4 : Int) (0 : Int) (0 : Int) (ApiValue.mk (0 : Int) (0 : UInt64) ([] : List UInt8)))]).length) none, .d ((eL 3 eApiValue) p2)]) (σc := [.row 6 (List.map ePredNode ((([] : List PredNode) ++ p1) ++ [(PredNode.mk (1 : Int) (0 : Int) (0 : Int) (ApiValue.mk (0 : Int) (0 : UInt64) ([] : List UInt8))), (PredNode.mk (4 : Int) (0 : Int) (0 : Int) (ApiValue.mk (0 : Int) (0 : UInt64) ([] : List UInt8)))])) false]) [0] [] (CallAt.frz (ArgF.frz (fF rfl rfl rfl) (ArgF.keep (ArgF.nil _))) (fq [] [] (pred_Eval_ok ((([] : List PredNode) ++ p1) ++ [(PredNode.mk (1 : Int) (0 : Int) (0 : Int) (ApiValue.mk (0 : Int) (0 : UInt64) ([] : List UInt8))), (PredNode.mk (4 : Int) (0 : Int) (0 : Int) (ApiValue.mk (0 : Int) (0 : UInt64) ([] : List UInt8)))]) p2 _ hq154) rfl rfl rfl rfl rfl rfl rfl rfl)) (ww rfl) rfl rfl rfl cb11 rfl rfl rfl rfl rfl rfl rfl rfl (gw rfl (bi (v := .d (eB (r153 != r155))) rfl rfl (fun X Y => b_bool_neq un4 X Y r153 r155)) (gw rfl (mv rfl) (sp h1 (fun h1 => ?_) (fun h1 => ?_)))))))))
      ·have q := si h1; subst q
       refine kw rfl (kw rfl (kw rfl (kw rfl (kw rfl (kw rfl (kw rfl (gw rfl (pkt rfl rfl) (s1 (pkt rfl rfl) (SO.nil ?_)))))))))
       exact (wq rfl)
      ·obtain ⟨r157, hq156, h1⟩ := ob h1; obtain ⟨r159, hq158, h1⟩ := ob h1; have q := si h1; subst q
       refine gw rfl (mv rfl) (gw rfl (mv rfl) (c0 (pred_Eval_ok p1 p2 _ hq156) (ww rfl) rfl rfl rfl cb11 rfl (fun _ => rfl) (fun _ => rfl) (gw rfl (mv rfl) (gw rfl (mv rfl) (cq (args' := [.slc 0 6 0 (((([] : List PredNode) ++ p1) ++ [(PredNode.mk (6 : Int) (0 : Int) (0 : Int) (ApiValue.mk (0 : Int) (0 : UInt64) ([] : List UInt8))), (PredNode.mk (6 : Int) (0 : Int) (0 : Int) (ApiValue.mk (0 : Int) (0 : UInt64) ([] : List UInt8)))]).length) none, .d ((eL 3 eApiValue) p2)]) (σc := [.row 6 (List.map ePredNode ((([] : List PredNode) ++ p1) ++ [(PredNode.mk (6 : Int) (0 : Int) (0 : Int) (ApiValue.mk (0 : Int) (0 : UInt64) ([] : List UInt8))), (PredNode.mk (6 : Int) (0 : Int) (0 : Int) (ApiValue.mk (0 : Int) (0 : UInt64) ([] : List UInt8)))])) false]) [1] [] (CallAt.frz (ArgF.frz (fF rfl rfl rfl) (ArgF.keep (ArgF.nil _))) (fq [] [] (pred_Eval_ok ((([] : List PredNode) ++ p1) ++ [(PredNode.mk (6 : Int) (0 : Int) (0 : Int) (ApiValue.mk (0 : Int) (0 : UInt64) ([] : List UInt8))), (PredNode.mk (6 : Int) (0 : Int) (0 : Int) (ApiValue.mk (0 : Int) (0 : UInt64) ([] : List UInt8)))]) p2 _ hq158) rfl rfl rfl rfl rfl rfl rfl rfl)) (ww rfl) rfl rfl rfl cb11 rfl rfl rfl rfl rfl rfl rfl rfl (gw rfl (bi (v := .d (eB (r157 != r159))) rfl rfl (fun X Y => b_bool_neq un4 X Y r157 r159)) (gw rfl (pkf rfl rfl) (s1 (pkt rfl rfl) (SO.nil ?_)))))))))
       exact (wq rfl)
     ·have q := si h1; subst q
      refine kw rfl (kw rfl (kw rfl (kw rfl (kw rfl (kw rfl (kw rfl (kw rfl (kw rfl (kw rfl ?_)))))))))
      exact kw rfl (kw rfl (kw rfl (kw rfl (kw rfl (kw rfl (s1 (pkf rfl rfl) (SO.nil ((wq rfl)))))))))
    ·rintro y148 h0
     refine cB h0 rfl (fun h0 => ?_) (fun h0 => ?_)
     ·have q := si h0; subst q
      exact sr (sa rfl (sn (SC.ret (finR (wc (e' := [(8, .d (eB false))]) [] [] (by kernel_rfl) rfl (by kernel_rfl)) (lresT rfl lresN) rfl))))
     ·obtain ⟨r161, hq160, h0⟩ := ob h0
      refine sk (sq (sr (sm rfl (sm rfl (c0 (law20_parts_ok p0 p3 _ hq160) wf rfl rfl rfl cb9 rfl (fun _ => rfl) (fun _ => rfl) (s1 (nt rfl) (sn (cB h0 rfl (fun h0 => ?_) (fun h0 => ?_)))))))))
      ·have q := si h0; subst q
       exact sr (sa rfl (sn (SC.ret (finR (wc (e' := [(8, .d (eB true))]) [] [] (by kernel_rfl) rfl (by kernel_rfl)) (lresT rfl lresN) rfl))))
      ·obtain ⟨⟨r163, r164, r165⟩, hq162, h0⟩ := ob h0; obtain ⟨⟨r167, r168, r169⟩, hq166, h0⟩ := ob h0; obtain ⟨⟨r171, r172, r173⟩, hq170, h0⟩ := ob h0
       refine sk (sr (sm rfl (sm rfl (cq [] [2] (pred_Bounds_ok p3 p1 _ hq162) wf rfl rfl rfl cb12 rfl rfl rfl rfl rfl rfl rfl rfl (sm rfl (s1 (ext rfl rfl) (s1 (ext rfl rfl) (s1 (ext rfl rfl) (s1 (alo (k := 3) zo33 rfl) ?_)))))))))
       refine s0 (sto rfl rfl (sB (d' := .d (eApiSpan r165)) ts33 rfl rfl rfl rfl rfl rfl rfl)) (sa rfl (sa rfl (sn (sr (sm rfl (sm rfl (cq (args' := [.d ((eL 2 eApiPart) p3), .slc 0 6 0 (((([] : List PredNode) ++ p1) ++ [(PredNode.mk (1 : Int) (0 : Int) (0 : Int) (ApiValue.mk (0 : Int) (0 : UInt64) ([] : List UInt8))), (PredNode.mk (4 : Int) (0 : Int) (0 : Int) (ApiValue.mk (0 : Int) (0 : UInt64) ([] : List UInt8)))]).length) none]) (σc := [.row 6 (List.map ePredNode ((([] : List PredNode) ++ p1) ++ [(PredNode.mk (1 : Int) (0 : Int) (0 : Int) (ApiValue.mk (0 : Int) (0 : UInt64) ([] : List UInt8))), (PredNode.mk (4 : Int) (0 : Int) (0 : Int) (ApiValue.mk (0 : Int) (0 : UInt64) ([] : List UInt8)))])) false]) [0] [4] (CallAt.frz (ArgF.keep (ArgF.frz (fF rfl rfl rfl) (ArgF.nil _))) (fq [] [1] (pred_Bounds_ok p3 ((([] : List PredNode) ++ p1) ++ [(PredNode.mk (1 : Int) (0 : Int) (0 : Int) (ApiValue.mk (0 : Int) (0 : UInt64) ([] : List UInt8))), (PredNode.mk (4 : Int) (0 : Int) (0 : Int) (ApiValue.mk (0 : Int) (0 : UInt64) ([] : List UInt8)))]) _ hq166) rfl rfl rfl rfl rfl rfl rfl rfl)) wf rfl rfl rfl cb12 rfl rfl rfl rfl rfl rfl rfl rfl (sm rfl (s1 (ext rfl rfl) ?_)))))))))
       refine s1 (ext rfl rfl) (s1 (ext rfl rfl) (s1 (alo (k := 5) zo33 rfl) (s0 (sto rfl rfl (sB (d' := .d (eApiSpan r169)) ts33 rfl rfl rfl rfl rfl rfl rfl)) (sa rfl (sa rfl (sn (sr (sm rfl (sm rfl ?_)))))))))
       refine cq (args' := [.d ((eL 2 eApiPart) p3), .slc 0 6 0 (((([] : List PredNode) ++ p1) ++ [(PredNode.mk (6 : Int) (0 : Int) (0 : Int) (ApiValue.mk (0 : Int) (0 : UInt64) ([] : List UInt8))), (PredNode.mk (6 : Int) (0 : Int) (0 : Int) (ApiValue.mk (0 : Int) (0 : UInt64) ([] : List UInt8)))]).length) none]) (σc := [.row 6 (List.map ePredNode ((([] : List PredNode) ++ p1) ++ [(PredNode.mk (6 : Int) (0 : Int) (0 : Int) (ApiValue.mk (0 : Int) (0 : UInt64) ([] : List UInt8))), (PredNode.mk (6 : Int) (0 : Int) (0 : Int) (ApiValue.mk (0 : Int) (0 : UInt64) ([] : List UInt8)))])) false]) [1] [6] (CallAt.frz (ArgF.keep (ArgF.frz (fF rfl rfl rfl) (ArgF.nil _))) (fq [] [1] (pred_Bounds_ok p3 ((([] : List PredNode) ++ p1) ++ [(PredNode.mk (6 : Int) (0 : Int) (0 : Int) (ApiValue.mk (0 : Int) (0 : UInt64) ([] : List UInt8))), (PredNode.mk (6 : Int) (0 : Int) (0 : Int) (ApiValue.mk (0 : Int) (0 : UInt64) ([] : List UInt8)))]) _ hq170) rfl rfl rfl rfl rfl rfl rfl rfl)) wf rfl rfl rfl cb12 rfl rfl rfl rfl rfl rfl rfl rfl (sm rfl (s1 (ext rfl rfl) (s1 (ext rfl rfl) (s1 (ext rfl rfl) (s1 (alo (k := 7) zo33 rfl) (s0 (sto rfl rfl (sB (d' := .d (eApiSpan r173)) ts33 rfl rfl rfl rfl rfl rfl rfl)) (sa rfl (sa rfl (sn ?_)))))))))
       refine SC.seqP h0 (fun y => ⟨mk 130 [(8, .d (eB y))], []⟩) ?_ ?_
       ·intro u1_175 h1
        refine SC.region (s1 (lod (v := .d (eApiSpan r165)) rfl (ld_box ts33 ta33 rfl rfl)) (s1 (lod (v := .d (eApiSpan r169)) rfl (ld_box ts33 ta33 rfl rfl)) (s1 (bi (v := .d (eB (eqApiSpan r165 r169))) rfl rfl (fun X Y => eqApiSpan_eql_33 X Y r165 r169)) (sm rfl (sp h1 (fun h1 => ?_) (fun h1 => ?_))))))
        ·refine gw rfl (mv rfl) (gw rfl (mv rfl) (gw rfl (bi rfl rfl q_i64_eql) (s1 (pkt rfl rfl) (sm rfl (sp h1 (fun h1 => ?_) (fun h1 => ?_))))))
         ·refine gw rfl (mv rfl) (gw rfl (mv rfl) (gw rfl (bi (v := .d (eB (r164 == r168))) rfl rfl (fun X Y => b_bool_eql un4 X Y r164 r168)) (s1 (pkt rfl rfl) (sm rfl (sp h1 (fun h1 => ?_) (fun h1 => ?_))))))
          ·refine gw rfl (lod (v := .d (eApiSpan r173)) rfl (ld_box ts33 ta33 rfl rfl)) (gw rfl (bld rfl (bd33_2 true)) (gw rfl (bi (v := .d (eB (eqApiSpan r173 (ApiSpan.mk ([] : List UInt8) ([] : List UInt8) true)))) rfl rfl (fun X Y => eqApiSpan_eql_33 X Y r173 (ApiSpan.mk ([] : List UInt8) ([] : List UInt8) true))) (s1 (pkt rfl rfl) (sm rfl (sp h1 (fun h1 => ?_) (fun h1 => ?_))))))
           ·refine gw rfl (mv rfl) (gw rfl (bi rfl rfl q_i64_eql) (s1 (pkt rfl rfl) (sm rfl (sp h1 (fun h1 => ?_) (fun h1 => ?_)))))
            ·have q := si h1; subst q
             exact gw rfl (mv rfl) (gw rfl (nt rfl) (s1 (pkt rfl rfl) (sa rfl (SO.nil ((wc [] [] (by kernel_rfl) rfl (by kernel_rfl)))))))
            ·have q := si h1; subst q
             exact kw rfl (kw rfl (s1 (pkf rfl rfl) (sa rfl (SO.nil ((wc [] [] (by kernel_rfl) rfl (by kernel_rfl)))))))
           ·have q := si h1; subst q
            exact kw rfl (kw rfl (s1 (pkf rfl rfl) (sm rfl (kw rfl (kw rfl (s1 (pkf rfl rfl) (sa rfl (SO.nil ((wc [] [] (by kernel_rfl) rfl (by kernel_rfl)))))))))))
          ·have q := si h1; subst q
           refine kw rfl (kw rfl (kw rfl (s1 (pkf rfl rfl) (sm rfl (kw rfl (kw rfl (s1 (pkf rfl rfl) (sm rfl (kw rfl ?_)))))))))
           exact kw rfl (s1 (pkf rfl rfl) (sa rfl (SO.nil ((wc [] [] (by kernel_rfl) rfl (by kernel_rfl))))))
         ·have q := si h1; subst q
          refine kw rfl (kw rfl (kw rfl (s1 (pkf rfl rfl) (sm rfl (kw rfl (kw rfl (kw rfl (s1 (pkf rfl rfl) (sm rfl ?_)))))))))
          exact kw rfl (kw rfl (s1 (pkf rfl rfl) (sm rfl (kw rfl (kw rfl (s1 (pkf rfl rfl) (sa rfl (SO.nil ((wc [] [] (by kernel_rfl) rfl (by kernel_rfl)))))))))))
        ·have q := si h1; subst q
         refine kw rfl (kw rfl (kw rfl (s1 (pkf rfl rfl) (sm rfl (kw rfl (kw rfl (kw rfl (s1 (pkf rfl rfl) (sm rfl ?_)))))))))
         refine kw rfl (kw rfl (kw rfl (s1 (pkf rfl rfl) (sm rfl (kw rfl (kw rfl (s1 (pkf rfl rfl) (sm rfl (kw rfl ?_)))))))))
         exact kw rfl (s1 (pkf rfl rfl) (sa rfl (SO.nil ((wc [] [] (by kernel_rfl) rfl (by kernel_rfl))))))
       ·rintro y174 h0
        have q := si h0; subst q
        exact SC.ret (finR (Wk.refl _) (lresT rfl lresN) rfl)
end Lv
