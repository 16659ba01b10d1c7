/- Part of the proof of a law: functions and their walks. -/
import Derived.Test.YtiipocnfifahpaaGreatDoorXFn1
namespace Lv
open Go Go.Proofs
set_option linter.unusedVariables false
set_option linter.unusedSimpArgs false
set_option linter.unusedSectionVars false
set_option maxRecDepth 100000
variable [BaseTab] [TabOk]
noncomputable def law20_PredLogic (p0 : List ApiColumn) (p1 : List PredNode) (p2 : List PredNode) (p3 : List ApiValue) : Option Bool :=
 Option.bind law20_awake fun r251 =>
 bif (!r251) then
 some false
 else
 Option.bind (α := Bool)
 (bif (decide ((p0.length : Int) > (24 : Int))) then
 some true
 else
 bif (decide ((p1.length : Int) > (40 : Int))) then
 some true
 else
 bif (decide ((p2.length : Int) > (40 : Int))) then
 some true
 else
 Option.bind (pred_Check p0 p1) fun r261 =>
 bif (r261 != (0 : Int)) then
 some true
 else
 Option.bind (pred_Check p0 p2) fun r263 =>
 bif (r263 != (0 : Int)) then
 some true
 else
 Option.bind (ref08_Fits p0 p3) fun r265 =>
 some (r265 != (0 : Int)))
 fun y258 =>
 bif y258 then
 some true
 else
 bif decide ((([] : List PredNode).length + p1.length) * 56 ≤ room) then
 bif decide (((([] : List PredNode) ++ p1).length + p2.length) * 56 ≤ room) then
 bif decide ((([] : List PredNode).length + p2.length) * 56 ≤ room) then
 bif decide (((([] : List PredNode) ++ p2).length + p1.length) * 56 ≤ room) then
 bif decide ((([] : List PredNode).length + p1.length) * 56 ≤ room) then
 bif decide (((([] : List PredNode) ++ p1).length + [(PredNode.mk (6 : Int) (0 : Int) (0 : Int) (ApiValue.mk (0 : Int) (0 : UInt64) ([] : List UInt8)))].length) * 56 ≤ room) then
 bif decide ((((([] : List PredNode) ++ p1) ++ [(PredNode.mk (6 : Int) (0 : Int) (0 : Int) (ApiValue.mk (0 : Int) (0 : UInt64) ([] : List UInt8)))]).length + p2.length) * 56 ≤ room) then
 bif decide (((((([] : List PredNode) ++ p1) ++ [(PredNode.mk (6 : Int) (0 : Int) (0 : Int) (ApiValue.mk (0 : Int) (0 : UInt64) ([] : List UInt8)))]) ++ p2).length + [(PredNode.mk (6 : Int) (0 : Int) (0 : Int) (ApiValue.mk (0 : Int) (0 : UInt64) ([] : List UInt8)))].length) * 56 ≤ room) then
 bif decide ((([] : List PredNode).length + p1.length) * 56 ≤ room) then
 bif decide (((([] : List PredNode) ++ p1).length + [(PredNode.mk (6 : Int) (0 : Int) (0 : Int) (ApiValue.mk (0 : Int) (0 : UInt64) ([] : List UInt8))), (PredNode.mk (6 : Int) (0 : Int) (0 : Int) (ApiValue.mk (0 : Int) (0 : UInt64) ([] : List UInt8)))].length) * 56 ≤ room) then
 bif decide ((([] : List PredNode).length + ((([] : List PredNode) ++ p1) ++ p2).length) * 56 ≤ room) then
 bif decide (((([] : List PredNode) ++ ((([] : List PredNode) ++ p1) ++ p2)).length + [(PredNode.mk (4 : Int) (0 : Int) (0 : Int) (ApiValue.mk (0 : Int) (0 : UInt64) ([] : List UInt8))), (PredNode.mk (6 : Int) (0 : Int) (0 : Int) (ApiValue.mk (0 : Int) (0 : UInt64) ([] : List UInt8)))].length) * 56 ≤ room) then
 Option.bind (α := Bool)
 (Option.bind (pred_Check p0 ((([] : List PredNode) ++ p1) ++ [(PredNode.mk (6 : Int) (0 : Int) (0 : Int) (ApiValue.mk (0 : Int) (0 : UInt64) ([] : List UInt8))), (PredNode.mk (6 : Int) (0 : Int) (0 : Int) (ApiValue.mk (0 : Int) (0 : UInt64) ([] : List UInt8)))])) fun r289 =>
 bif (r289 != (0 : Int)) then
 some true
 else
 Option.bind (pred_Check p0 ((([] : List PredNode) ++ ((([] : List PredNode) ++ p1) ++ p2)) ++ [(PredNode.mk (4 : Int) (0 : Int) (0 : Int) (ApiValue.mk (0 : Int) (0 : UInt64) ([] : List UInt8))), (PredNode.mk (6 : Int) (0 : Int) (0 : Int) (ApiValue.mk (0 : Int) (0 : UInt64) ([] : List UInt8)))])) fun r291 =>
 bif (r291 != (0 : Int)) then
 some true
 else
 bif decide ((([] : List PredNode).length + ((((([] : List PredNode) ++ p1) ++ [(PredNode.mk (6 : Int) (0 : Int) (0 : Int) (ApiValue.mk (0 : Int) (0 : UInt64) ([] : List UInt8)))]) ++ p2) ++ [(PredNode.mk (6 : Int) (0 : Int) (0 : Int) (ApiValue.mk (0 : Int) (0 : UInt64) ([] : List UInt8)))]).length) * 56 ≤ room) then
 bif decide (((([] : List PredNode) ++ ((((([] : List PredNode) ++ p1) ++ [(PredNode.mk (6 : Int) (0 : Int) (0 : Int) (ApiValue.mk (0 : Int) (0 : UInt64) ([] : List UInt8)))]) ++ p2) ++ [(PredNode.mk (6 : Int) (0 : Int) (0 : Int) (ApiValue.mk (0 : Int) (0 : UInt64) ([] : List UInt8)))])).length + [(PredNode.mk (5 : Int) (0 : Int) (0 : Int) (ApiValue.mk (0 : Int) (0 : UInt64) ([] : List UInt8)))].length) * 56 ≤ room) then
 Option.bind (pred_Check p0 ((([] : List PredNode) ++ ((((([] : List PredNode) ++ p1) ++ [(PredNode.mk (6 : Int) (0 : Int) (0 : Int) (ApiValue.mk (0 : Int) (0 : UInt64) ([] : List UInt8)))]) ++ p2) ++ [(PredNode.mk (6 : Int) (0 : Int) (0 : Int) (ApiValue.mk (0 : Int) (0 : UInt64) ([] : List UInt8)))])) ++ [(PredNode.mk (5 : Int) (0 : Int) (0 : Int) (ApiValue.mk (0 : Int) (0 : UInt64) ([] : List UInt8)))])) fun r295 =>
 some (r295 != (0 : Int))
 else none
 else none)
 fun y286 =>
 bif y286 then
 some true
 else
 Option.bind (pred_Eval p1 p3) fun r297 =>
 Option.bind (pred_Eval p2 p3) fun r299 =>
 Option.bind (α := Bool)
 (Option.bind (pred_Eval ((([] : List PredNode) ++ p1) ++ [(PredNode.mk (6 : Int) (0 : Int) (0 : Int) (ApiValue.mk (0 : Int) (0 : UInt64) ([] : List UInt8))), (PredNode.mk (6 : Int) (0 : Int) (0 : Int) (ApiValue.mk (0 : Int) (0 : UInt64) ([] : List UInt8)))]) p3) fun r317 =>
 bif (r317 != r297) then
 some true
 else
 bif decide ((([] : List PredNode).length + ((([] : List PredNode) ++ p1) ++ p2).length) * 56 ≤ room) then
 bif decide (((([] : List PredNode) ++ ((([] : List PredNode) ++ p1) ++ p2)).length + [(PredNode.mk (4 : Int) (0 : Int) (0 : Int) (ApiValue.mk (0 : Int) (0 : UInt64) ([] : List UInt8)))].length) * 56 ≤ room) then
 Option.bind (pred_Eval ((([] : List PredNode) ++ ((([] : List PredNode) ++ p1) ++ p2)) ++ [(PredNode.mk (4 : Int) (0 : Int) (0 : Int) (ApiValue.mk (0 : Int) (0 : UInt64) ([] : List UInt8)))]) p3) fun r321 =>
 bif r297 then
 bif (r321 != r299) then
 some true
 else
 bif decide ((([] : List PredNode).length + ((([] : List PredNode) ++ p1) ++ p2).length) * 56 ≤ room) then
 bif decide (((([] : List PredNode) ++ ((([] : List PredNode) ++ p1) ++ p2)).length + [(PredNode.mk (5 : Int) (0 : Int) (0 : Int) (ApiValue.mk (0 : Int) (0 : UInt64) ([] : List UInt8)))].length) * 56 ≤ room) then
 Option.bind (pred_Eval ((([] : List PredNode) ++ ((([] : List PredNode) ++ p1) ++ p2)) ++ [(PredNode.mk (5 : Int) (0 : Int) (0 : Int) (ApiValue.mk (0 : Int) (0 : UInt64) ([] : List UInt8)))]) p3) fun r325 =>
 bif r297 then
 some (r325 != true)
 else
 some (r325 != r299)
 else none
 else none
 else
 bif (r321 != false) then
 some true
 else
 bif decide ((([] : List PredNode).length + ((([] : List PredNode) ++ p1) ++ p2).length) * 56 ≤ room) then
 bif decide (((([] : List PredNode) ++ ((([] : List PredNode) ++ p1) ++ p2)).length + [(PredNode.mk (5 : Int) (0 : Int) (0 : Int) (ApiValue.mk (0 : Int) (0 : UInt64) ([] : List UInt8)))].length) * 56 ≤ room) then
 Option.bind (pred_Eval ((([] : List PredNode) ++ ((([] : List PredNode) ++ p1) ++ p2)) ++ [(PredNode.mk (5 : Int) (0 : Int) (0 : Int) (ApiValue.mk (0 : Int) (0 : UInt64) ([] : List UInt8)))]) p3) fun r329 =>
 bif r297 then
 some (r329 != true)
 else
 some (r329 != r299)
 else none
 else none
 else none
 else none)
 fun y314 =>
 bif y314 then
 some false
 else
 Option.bind (α := Bool)
 (bif decide ((([] : List PredNode).length + ((([] : List PredNode) ++ p2) ++ p1).length) * 56 ≤ room) then
 bif decide (((([] : List PredNode) ++ ((([] : List PredNode) ++ p2) ++ p1)).length + [(PredNode.mk (4 : Int) (0 : Int) (0 : Int) (ApiValue.mk (0 : Int) (0 : UInt64) ([] : List UInt8)))].length) * 56 ≤ room) then
 Option.bind (pred_Eval ((([] : List PredNode) ++ ((([] : List PredNode) ++ p2) ++ p1)) ++ [(PredNode.mk (4 : Int) (0 : Int) (0 : Int) (ApiValue.mk (0 : Int) (0 : UInt64) ([] : List UInt8)))]) p3) fun r347 =>
 bif r297 then
 bif (r347 != r299) then
 some true
 else
 bif decide ((([] : List PredNode).length + ((([] : List PredNode) ++ p2) ++ p1).length) * 56 ≤ room) then
 bif decide (((([] : List PredNode) ++ ((([] : List PredNode) ++ p2) ++ p1)).length + [(PredNode.mk (5 : Int) (0 : Int) (0 : Int) (ApiValue.mk (0 : Int) (0 : UInt64) ([] : List UInt8)))].length) * 56 ≤ room) then
 Option.bind (pred_Eval ((([] : List PredNode) ++ ((([] : List PredNode) ++ p2) ++ p1)) ++ [(PredNode.mk (5 : Int) (0 : Int) (0 : Int) (ApiValue.mk (0 : Int) (0 : UInt64) ([] : List UInt8)))]) p3) fun r351 =>
 bif r297 then
 some (r351 != true)
 else
 some (r351 != r299)
 else none
 else none
 else
 bif (r347 != false) then
 some true
 else
 bif decide ((([] : List PredNode).length + ((([] : List PredNode) ++ p2) ++ p1).length) * 56 ≤ room) then
 bif decide (((([] : List PredNode) ++ ((([] : List PredNode) ++ p2) ++ p1)).length + [(PredNode.mk (5 : Int) (0 : Int) (0 : Int) (ApiValue.mk (0 : Int) (0 : UInt64) ([] : List UInt8)))].length) * 56 ≤ room) then
 Option.bind (pred_Eval ((([] : List PredNode) ++ ((([] : List PredNode) ++ p2) ++ p1)) ++ [(PredNode.mk (5 : Int) (0 : Int) (0 : Int) (ApiValue.mk (0 : Int) (0 : UInt64) ([] : List UInt8)))]) p3) fun r355 =>
 bif r297 then
 some (r355 != true)
 else
 some (r355 != r299)
 else none
 else none
 else none
 else none)
 fun y342 =>
 bif y342 then
 some false
 else
 Option.bind (α := Bool)
 (bif decide ((([] : List PredNode).length + ((((([] : List PredNode) ++ p1) ++ [(PredNode.mk (6 : Int) (0 : Int) (0 : Int) (ApiValue.mk (0 : Int) (0 : UInt64) ([] : List UInt8)))]) ++ p2) ++ [(PredNode.mk (6 : Int) (0 : Int) (0 : Int) (ApiValue.mk (0 : Int) (0 : UInt64) ([] : List UInt8)))]).length) * 56 ≤ room) then
 bif decide (((([] : List PredNode) ++ ((((([] : List PredNode) ++ p1) ++ [(PredNode.mk (6 : Int) (0 : Int) (0 : Int) (ApiValue.mk (0 : Int) (0 : UInt64) ([] : List UInt8)))]) ++ p2) ++ [(PredNode.mk (6 : Int) (0 : Int) (0 : Int) (ApiValue.mk (0 : Int) (0 : UInt64) ([] : List UInt8)))])).length + [(PredNode.mk (5 : Int) (0 : Int) (0 : Int) (ApiValue.mk (0 : Int) (0 : UInt64) ([] : List UInt8)))].length) * 56 ≤ room) then
 Option.bind (pred_Eval ((([] : List PredNode) ++ ((((([] : List PredNode) ++ p1) ++ [(PredNode.mk (6 : Int) (0 : Int) (0 : Int) (ApiValue.mk (0 : Int) (0 : UInt64) ([] : List UInt8)))]) ++ p2) ++ [(PredNode.mk (6 : Int) (0 : Int) (0 : Int) (ApiValue.mk (0 : Int) (0 : UInt64) ([] : List UInt8)))])) ++ [(PredNode.mk (5 : Int) (0 : Int) (0 : Int) (ApiValue.mk (0 : Int) (0 : UInt64) ([] : List UInt8)))]) p3) fun r369 =>
 bif r297 then
 bif (r369 == (!r299)) then
 Option.bind (pred_Eval ((([] : List PredNode) ++ ((([] : List PredNode) ++ p1) ++ p2)) ++ [(PredNode.mk (4 : Int) (0 : Int) (0 : Int) (ApiValue.mk (0 : Int) (0 : UInt64) ([] : List UInt8))), (PredNode.mk (6 : Int) (0 : Int) (0 : Int) (ApiValue.mk (0 : Int) (0 : UInt64) ([] : List UInt8)))]) p3) fun r371 =>
 bif r297 then
 some (r371 == (!r299))
 else
 some (r371 == true)
 else
 some false
 else
 bif (r369 == true) then
 Option.bind (pred_Eval ((([] : List PredNode) ++ ((([] : List PredNode) ++ p1) ++ p2)) ++ [(PredNode.mk (4 : Int) (0 : Int) (0 : Int) (ApiValue.mk (0 : Int) (0 : UInt64) ([] : List UInt8))), (PredNode.mk (6 : Int) (0 : Int) (0 : Int) (ApiValue.mk (0 : Int) (0 : UInt64) ([] : List UInt8)))]) p3) fun r373 =>
 bif r297 then
 some (r373 == (!r299))
 else
 some (r373 == true)
 else
 some false
 else none
 else none)
 fun y364 =>
 some y364
 else none
 else none
 else none
 else none
 else none
 else none
 else none
 else none
 else none
 else none
 else none
 else none
theorem law20_PredLogic_ok (p0 : List ApiColumn) (p1 : List PredNode) (p2 : List PredNode) (p3 : List ApiValue) (r : Bool) (h0 : law20_PredLogic p0 p1 p2 p3 = some r) : CallAt Tryz.prog 4 [.d ((eL 7 eApiColumn) p0), .d ((eL 6 ePredNode) p1), .d ((eL 6 ePredNode) p2), .d ((eL 3 eApiValue) p3)] [] (.d (eB r)) [] := by
 unfold law20_PredLogic at h0
 refine fn0 [0, 1, 2, 3] Tryz.func4 rfl rfl rfl rfl rfl ?_
 obtain ⟨r251, hq250, h0⟩ := ob h0
 refine sr (sa rfl (sn (sq (sr (c0 (law20_awake_ok _ hq250) wf rfl rfl rfl cb7 rfl (fun _ => rfl) (fun _ => rfl) (s1 (nt rfl) (sn (cB h0 rfl (fun h0 => ?_) (fun h0 => ?_)))))))))
 ·have q := si h0; subst q
  exact sr (sa rfl (sn (SC.ret (finR (Wk.refl _) (lresT rfl lresN) rfl))))
 ·refine sk (sq (SC.seqP h0 (fun y => ⟨mk 206 [(0, .d ((eL 7 eApiColumn) p0)), (1, .d ((eL 6 ePredNode) p1)), (2, .d ((eL 6 ePredNode) p2)), (3, .d ((eL 3 eApiValue) p3)), (51, .d (eB y))], []⟩) ?_ ?_))
  ·intro u1_259 h1
   refine SC.region (sm rfl (s1 (len rfl rfl rfl (len_lst un22)) (s1 (bi rfl rfl q_i64_gtr) (sm rfl (sp h1 (fun h1 => ?_) (fun h1 => ?_))))))
   ·have q := si h1; subst q
    refine kw rfl (kw rfl (kw rfl (s1 (pkt rfl rfl) (sm rfl (kw rfl (kw rfl (kw rfl (s1 (pkt rfl rfl) (sm rfl ?_)))))))))
    refine kw rfl (kw rfl (kw rfl (kw rfl (s1 (pkt rfl rfl) (sm rfl (kw rfl (kw rfl (kw rfl (kw rfl ?_)))))))))
    exact s1 (pkt rfl rfl) (sm rfl (kw rfl (kw rfl (kw rfl (kw rfl (s1 (pkt rfl rfl) (SO.nil ((wq rfl)))))))))
   ·refine gw rfl (mv rfl) (gw rfl (len rfl rfl rfl (len_lst un23)) (gw rfl (bi rfl rfl q_i64_gtr) (s1 (pkf rfl rfl) (sm rfl (sp h1 (fun h1 => ?_) (fun h1 => ?_))))))
    ·have q := si h1; subst q
     refine kw rfl (kw rfl (kw rfl (s1 (pkt rfl rfl) (sm rfl (kw rfl (kw rfl (kw rfl (kw rfl (s1 (pkt rfl rfl) ?_)))))))))
     refine sm rfl (kw rfl (kw rfl (kw rfl (kw rfl (s1 (pkt rfl rfl) (sm rfl (kw rfl (kw rfl (kw rfl ?_)))))))))
     exact kw rfl (s1 (pkt rfl rfl) (SO.nil ((wq rfl))))
    ·refine gw rfl (mv rfl) (gw rfl (len rfl rfl rfl (len_lst un23)) (gw rfl (bi rfl rfl q_i64_gtr) (s1 (pkf rfl rfl) (sm rfl (sp h1 (fun h1 => ?_) (fun h1 => ?_))))))
     ·have q := si h1; subst q
      refine kw rfl (kw rfl (kw rfl (kw rfl (s1 (pkt rfl rfl) (sm rfl (kw rfl (kw rfl (kw rfl (kw rfl ?_)))))))))
      exact s1 (pkt rfl rfl) (sm rfl (kw rfl (kw rfl (kw rfl (kw rfl (s1 (pkt rfl rfl) (SO.nil ((wq rfl)))))))))
     ·obtain ⟨r261, hq260, h1⟩ := ob h1
      refine gw rfl (mv rfl) (gw rfl (mv rfl) (c0 (pred_Check_ok p0 p1 _ hq260) (ww rfl) rfl rfl rfl cb8 rfl (fun _ => rfl) (fun _ => rfl) (gw rfl (bi rfl rfl q_i64_neq) (s1 (pkf rfl rfl) (sm rfl (sp h1 (fun h1 => ?_) (fun h1 => ?_)))))))
      ·have q := si h1; subst q
       refine kw rfl (kw rfl (kw rfl (kw rfl (s1 (pkt rfl rfl) (sm rfl (kw rfl (kw rfl (kw rfl (kw rfl ?_)))))))))
       exact s1 (pkt rfl rfl) (SO.nil ((wq rfl)))
      ·obtain ⟨r263, hq262, h1⟩ := ob h1
       refine gw rfl (mv rfl) (gw rfl (mv rfl) (c0 (pred_Check_ok p0 p2 _ hq262) (ww rfl) rfl rfl rfl cb8 rfl (fun _ => rfl) (fun _ => rfl) (gw rfl (bi rfl rfl q_i64_neq) (s1 (pkf rfl rfl) (sm rfl (sp h1 (fun h1 => ?_) (fun h1 => ?_)))))))
       ·have q := si h1; subst q
        exact kw rfl (kw rfl (kw rfl (kw rfl (s1 (pkt rfl rfl) (SO.nil ((wq rfl)))))))
       ·obtain ⟨r265, hq264, h1⟩ := ob h1; have q := si h1; subst q
        exact gw rfl (mv rfl) (gw rfl (mv rfl) (c0 (ref08_Fits_ok p0 p3 _ hq264) (ww rfl) rfl rfl rfl cb10 rfl (fun _ => rfl) (fun _ => rfl) (gw rfl (bi rfl rfl q_i64_neq) (s1 (pkf rfl rfl) (SO.nil ((wq rfl)))))))
  ·rintro y258 h0
   refine cB h0 rfl (fun h0 => ?_) (fun h0 => ?_)
   ·have q := si h0; subst q
    exact sr (sa rfl (sn (SC.ret (finR (Wk.refl _) (lresT rfl lresN) rfl))))
   ·obtain ⟨hg266, h0⟩ := gd h0
    obtain ⟨hg267, h0⟩ := gd h0
    obtain ⟨hg268, h0⟩ := gd h0
    obtain ⟨hg269, h0⟩ := gd h0
    obtain ⟨hg270, h0⟩ := gd h0
    obtain ⟨hg271, h0⟩ := gd h0
    obtain ⟨hg272, h0⟩ := gd h0
    obtain ⟨hg273, h0⟩ := gd h0
    obtain ⟨hg274, h0⟩ := gd h0
    obtain ⟨hg275, h0⟩ := gd h0
    obtain ⟨hg276, h0⟩ := gd h0
    obtain ⟨hg277, h0⟩ := gd h0
    refine sk (sr (s1 (bld rfl (bd43_0 (6 : Int))) (s1 (alo (k := 0) zo43 rfl) (s0 (sto rfl rfl (sB (d' := .d (ePredNode (PredNode.mk (6 : Int) (0 : Int) (0 : Int) (ApiValue.mk (0 : Int) (0 : UInt64) ([] : List UInt8))))) ts43 rfl rfl rfl rfl rfl rfl rfl)) (sn (sr (s1 (bld rfl (bd43_0 (4 : Int))) (s1 (alo (k := 1) zo43 rfl) (s0 (sto rfl rfl (sB (d' := .d (ePredNode (PredNode.mk (4 : Int) (0 : Int) (0 : Int) (ApiValue.mk (0 : Int) (0 : UInt64) ([] : List UInt8))))) ts43 rfl rfl rfl rfl rfl rfl rfl)) ?_)))))))))
    refine sn (sr (s1 (bld rfl (bd43_0 (5 : Int))) (s1 (alo (k := 2) zo43 rfl) (s0 (sto rfl rfl (sB (d' := .d (ePredNode (PredNode.mk (5 : Int) (0 : Int) (0 : Int) (ApiValue.mk (0 : Int) (0 : UInt64) ([] : List UInt8))))) ts43 rfl rfl rfl rfl rfl rfl rfl)) (sn (sr (s1 (bsn (k := 3) (ds := List.map ePredNode ([] : List PredNode)) (off := 0) (l' := ([] : List PredNode).length) rfl un23 ei43 rfl rfl rfl rfl rfl rfl) (sm rfl (s1 (app rfl rfl rfl rfl bc23 (aF (f := ePredNode) (xs := ([] : List PredNode)) (k := 4) rfl un23 ei43 rfl el_lst hg266 rfl)) ?_)))))))))
    refine sm rfl (s1 (app rfl rfl rfl rfl bc23 (aF (f := ePredNode) (xs := (([] : List PredNode) ++ p1)) (k := 5) rfl un23 ei43 rfl el_lst hg267 rfl)) (sa rfl (sn (sr (s1 (bsn (k := 6) (ds := List.map ePredNode ([] : List PredNode)) (off := 0) (l' := ([] : List PredNode).length) rfl un23 ei43 rfl rfl rfl rfl rfl rfl) (sm rfl (s1 (app rfl rfl rfl rfl bc23 (aF (f := ePredNode) (xs := ([] : List PredNode)) (k := 7) rfl un23 ei43 rfl el_lst hg268 rfl)) (sm rfl (s1 (app rfl rfl rfl rfl bc23 (aF (f := ePredNode) (xs := (([] : List PredNode) ++ p2)) (k := 8) rfl un23 ei43 rfl el_lst hg269 rfl)) ?_)))))))))
    refine sa rfl (sn (sd (by kernel_rfl) (t1 ([9], true) (bsn (k := 9) (ds := List.map ePredNode ([] : List PredNode)) (off := 0) (l' := ([] : List PredNode).length) rfl un23 ei43 rfl rfl rfl rfl rfl rfl) rfl (t1 ([], false) (mv rfl) rfl (t1 ([9, 10], true) (app rfl rfl rfl rfl bc23 (aF (f := ePredNode) (xs := ([] : List PredNode)) (k := 10) rfl un23 ei43 rfl el_lst hg270 rfl)) rfl (t1 ([0], false) (lod (v := .d (ePredNode (PredNode.mk (6 : Int) (0 : Int) (0 : Int) (ApiValue.mk (0 : Int) (0 : UInt64) ([] : List UInt8))))) rfl (ld_box ts43 ta43 rfl rfl)) rfl (t1 ([11], true) (bsn (k := 11) (ds := List.map ePredNode [(PredNode.mk (6 : Int) (0 : Int) (0 : Int) (ApiValue.mk (0 : Int) (0 : UInt64) ([] : List UInt8)))]) (off := 0) (l' := [(PredNode.mk (6 : Int) (0 : Int) (0 : Int) (ApiValue.mk (0 : Int) (0 : UInt64) ([] : List UInt8)))].length) rfl un23 ei43 rfl rfl (by rfl) rfl rfl rfl) rfl (t1 ([10, 11, 12], true) (app rfl rfl rfl rfl bc23 (aF (f := ePredNode) (xs := (([] : List PredNode) ++ p1)) (k := 12) rfl un23 ei43 rfl (el_full (xs := [(PredNode.mk (6 : Int) (0 : Int) (0 : Int) (ApiValue.mk (0 : Int) (0 : UInt64) ([] : List UInt8)))]) rfl) hg271 rfl)) rfl (t1 ([], false) (asg rfl) rfl ?_)))))))))
    refine tn (by decide +kernel) (sd (by kernel_rfl) (t1 ([], false) (mv rfl) rfl (t1 ([], false) (mv rfl) rfl (t1 ([12, 13], true) (app rfl rfl rfl rfl bc23 (aF (f := ePredNode) (xs := ((([] : List PredNode) ++ p1) ++ [(PredNode.mk (6 : Int) (0 : Int) (0 : Int) (ApiValue.mk (0 : Int) (0 : UInt64) ([] : List UInt8)))])) (k := 13) rfl un23 ei43 rfl el_lst hg272 rfl)) rfl (t1 ([0], false) (lod (v := .d (ePredNode (PredNode.mk (6 : Int) (0 : Int) (0 : Int) (ApiValue.mk (0 : Int) (0 : UInt64) ([] : List UInt8))))) rfl (ld_box ts43 ta43 rfl rfl)) rfl (t1 ([14], true) (bsn (k := 14) (ds := List.map ePredNode [(PredNode.mk (6 : Int) (0 : Int) (0 : Int) (ApiValue.mk (0 : Int) (0 : UInt64) ([] : List UInt8)))]) (off := 0) (l' := [(PredNode.mk (6 : Int) (0 : Int) (0 : Int) (ApiValue.mk (0 : Int) (0 : UInt64) ([] : List UInt8)))].length) rfl un23 ei43 rfl rfl (by rfl) rfl rfl rfl) rfl (t1 ([13, 14, 15], true) (app rfl rfl rfl rfl bc23 (aF (f := ePredNode) (xs := (((([] : List PredNode) ++ p1) ++ [(PredNode.mk (6 : Int) (0 : Int) (0 : Int) (ApiValue.mk (0 : Int) (0 : UInt64) ([] : List UInt8)))]) ++ p2)) (k := 15) rfl un23 ei43 rfl (el_full (xs := [(PredNode.mk (6 : Int) (0 : Int) (0 : Int) (ApiValue.mk (0 : Int) (0 : UInt64) ([] : List UInt8)))]) rfl) hg273 rfl)) rfl (t1 ([], false) (asg rfl) rfl (tn (by decide +kernel) ?_)))))))))
    refine sd (by kernel_rfl) (t1 ([16], true) (bsn (k := 16) (ds := List.map ePredNode ([] : List PredNode)) (off := 0) (l' := ([] : List PredNode).length) rfl un23 ei43 rfl rfl rfl rfl rfl rfl) rfl (t1 ([], false) (mv rfl) rfl (t1 ([16, 17], true) (app rfl rfl rfl rfl bc23 (aF (f := ePredNode) (xs := ([] : List PredNode)) (k := 17) rfl un23 ei43 rfl el_lst hg274 rfl)) rfl (t1 ([0], false) (lod (v := .d (ePredNode (PredNode.mk (6 : Int) (0 : Int) (0 : Int) (ApiValue.mk (0 : Int) (0 : UInt64) ([] : List UInt8))))) rfl (ld_box ts43 ta43 rfl rfl)) rfl (t1 ([0], false) (lod (v := .d (ePredNode (PredNode.mk (6 : Int) (0 : Int) (0 : Int) (ApiValue.mk (0 : Int) (0 : UInt64) ([] : List UInt8))))) rfl (ld_box ts43 ta43 rfl rfl)) rfl (t1 ([18], true) (bsn (k := 18) (ds := List.map ePredNode [(PredNode.mk (6 : Int) (0 : Int) (0 : Int) (ApiValue.mk (0 : Int) (0 : UInt64) ([] : List UInt8))), (PredNode.mk (6 : Int) (0 : Int) (0 : Int) (ApiValue.mk (0 : Int) (0 : UInt64) ([] : List UInt8)))]) (off := 0) (l' := [(PredNode.mk (6 : Int) (0 : Int) (0 : Int) (ApiValue.mk (0 : Int) (0 : UInt64) ([] : List UInt8))), (PredNode.mk (6 : Int) (0 : Int) (0 : Int) (ApiValue.mk (0 : Int) (0 : UInt64) ([] : List UInt8)))].length) rfl un23 ei43 rfl rfl (by rfl) rfl rfl rfl) rfl (t1 ([17, 18, 19], true) (app rfl rfl rfl rfl bc23 (aF (f := ePredNode) (xs := (([] : List PredNode) ++ p1)) (k := 19) rfl un23 ei43 rfl (el_full (xs := [(PredNode.mk (6 : Int) (0 : Int) (0 : Int) (ApiValue.mk (0 : Int) (0 : UInt64) ([] : List UInt8))), (PredNode.mk (6 : Int) (0 : Int) (0 : Int) (ApiValue.mk (0 : Int) (0 : UInt64) ([] : List UInt8)))]) rfl) hg275 rfl)) rfl ?_)))))))
    refine t1 ([], false) (asg rfl) rfl (tn (by decide +kernel) (sd (by kernel_rfl) (t1 ([20], true) (bsn (k := 20) (ds := List.map ePredNode ([] : List PredNode)) (off := 0) (l' := ([] : List PredNode).length) rfl un23 ei43 rfl rfl rfl rfl rfl rfl) rfl (t1 ([], false) (mv rfl) rfl (t1 ([20, 5, 21], true) (app rfl rfl rfl rfl bc23 (aF (f := ePredNode) (xs := ([] : List PredNode)) (k := 21) rfl un23 ei43 rfl (el_full (xs := ((([] : List PredNode) ++ p1) ++ p2)) rfl) hg276 rfl)) rfl (t1 ([1], false) (lod (v := .d (ePredNode (PredNode.mk (4 : Int) (0 : Int) (0 : Int) (ApiValue.mk (0 : Int) (0 : UInt64) ([] : List UInt8))))) rfl (ld_box ts43 ta43 rfl rfl)) rfl (t1 ([0], false) (lod (v := .d (ePredNode (PredNode.mk (6 : Int) (0 : Int) (0 : Int) (ApiValue.mk (0 : Int) (0 : UInt64) ([] : List UInt8))))) rfl (ld_box ts43 ta43 rfl rfl)) rfl (t1 ([22], true) (bsn (k := 22) (ds := List.map ePredNode [(PredNode.mk (4 : Int) (0 : Int) (0 : Int) (ApiValue.mk (0 : Int) (0 : UInt64) ([] : List UInt8))), (PredNode.mk (6 : Int) (0 : Int) (0 : Int) (ApiValue.mk (0 : Int) (0 : UInt64) ([] : List UInt8)))]) (off := 0) (l' := [(PredNode.mk (4 : Int) (0 : Int) (0 : Int) (ApiValue.mk (0 : Int) (0 : UInt64) ([] : List UInt8))), (PredNode.mk (6 : Int) (0 : Int) (0 : Int) (ApiValue.mk (0 : Int) (0 : UInt64) ([] : List UInt8)))].length) rfl un23 ei43 rfl rfl (by rfl) rfl rfl rfl) rfl (t1 ([21, 22, 23], true) (app rfl rfl rfl rfl bc23 (aF (f := ePredNode) (xs := (([] : List PredNode) ++ ((([] : List PredNode) ++ p1) ++ p2))) (k := 23) rfl un23 ei43 rfl (el_full (xs := [(PredNode.mk (4 : Int) (0 : Int) (0 : Int) (ApiValue.mk (0 : Int) (0 : UInt64) ([] : List UInt8))), (PredNode.mk (6 : Int) (0 : Int) (0 : Int) (ApiValue.mk (0 : Int) (0 : UInt64) ([] : List UInt8)))]) rfl) hg277 rfl)) rfl ?_)))))))))
    refine t1 ([], false) (asg rfl) rfl (tn (by decide +kernel) (sq (SC.seqP h0 (fun y => ⟨mk 206 [(1, .d ((eL 6 ePredNode) p1)), (2, .d ((eL 6 ePredNode) p2)), (3, .d ((eL 3 eApiValue) p3)), (10, .ref 0 0 0), (11, .ref 1 0 0), (12, .slc 2 6 0 (((([] : List PredNode) ++ p1) ++ p2).length) none), (13, .slc 3 6 0 (((([] : List PredNode) ++ p2) ++ p1).length) none), (14, .slc 4 6 0 (((((([] : List PredNode) ++ p1) ++ [(PredNode.mk (6 : Int) (0 : Int) (0 : Int) (ApiValue.mk (0 : Int) (0 : UInt64) ([] : List UInt8)))]) ++ p2) ++ [(PredNode.mk (6 : Int) (0 : Int) (0 : Int) (ApiValue.mk (0 : Int) (0 : UInt64) ([] : List UInt8)))]).length) none), (15, .slc 5 6 0 (((([] : List PredNode) ++ p1) ++ [(PredNode.mk (6 : Int) (0 : Int) (0 : Int) (ApiValue.mk (0 : Int) (0 : UInt64) ([] : List UInt8))), (PredNode.mk (6 : Int) (0 : Int) (0 : Int) (ApiValue.mk (0 : Int) (0 : UInt64) ([] : List UInt8)))]).length) none), (16, .slc 6 6 0 (((([] : List PredNode) ++ ((([] : List PredNode) ++ p1) ++ p2)) ++ [(PredNode.mk (4 : Int) (0 : Int) (0 : Int) (ApiValue.mk (0 : Int) (0 : UInt64) ([] : List UInt8))), (PredNode.mk (6 : Int) (0 : Int) (0 : Int) (ApiValue.mk (0 : Int) (0 : UInt64) ([] : List UInt8)))]).length) none), (111, .d (eB y))], [.box (.d (ePredNode (PredNode.mk (4 : Int) (0 : Int) (0 : Int) (ApiValue.mk (0 : Int) (0 : UInt64) ([] : List UInt8))))), .box (.d (ePredNode (PredNode.mk (5 : Int) (0 : Int) (0 : Int) (ApiValue.mk (0 : Int) (0 : UInt64) ([] : List UInt8))))), .row 6 (List.map ePredNode ((([] : List PredNode) ++ p1) ++ p2)) true, .row 6 (List.map ePredNode ((([] : List PredNode) ++ p2) ++ p1)) true, .row 6 (List.map ePredNode ((((([] : List PredNode) ++ p1) ++ [(PredNode.mk (6 : Int) (0 : Int) (0 : Int) (ApiValue.mk (0 : Int) (0 : UInt64) ([] : List UInt8)))]) ++ p2) ++ [(PredNode.mk (6 : Int) (0 : Int) (0 : Int) (ApiValue.mk (0 : Int) (0 : UInt64) ([] : List UInt8)))])) true, .row 6 (List.map ePredNode ((([] : List PredNode) ++ p1) ++ [(PredNode.mk (6 : Int) (0 : Int) (0 : Int) (ApiValue.mk (0 : Int) (0 : UInt64) ([] : List UInt8))), (PredNode.mk (6 : Int) (0 : Int) (0 : Int) (ApiValue.mk (0 : Int) (0 : UInt64) ([] : List UInt8)))])) false, .row 6 (List.map ePredNode ((([] : List PredNode) ++ ((([] : List PredNode) ++ p1) ++ p2)) ++ [(PredNode.mk (4 : Int) (0 : Int) (0 : Int) (ApiValue.mk (0 : Int) (0 : UInt64) ([] : List UInt8))), (PredNode.mk (6 : Int) (0 : Int) (0 : Int) (ApiValue.mk (0 : Int) (0 : UInt64) ([] : List UInt8)))])) false]⟩) ?_ ?_)))
    ·intro u1_287 h1
     obtain ⟨r289, hq288, h1⟩ := ob h1
     refine SC.draws (by kernel_rfl) (t1 ([], false) (mv rfl) rfl (t1 ([], false) (mv rfl) rfl (tq (args' := [.d ((eL 7 eApiColumn) p0), .slc 0 6 0 (((([] : List PredNode) ++ p1) ++ [(PredNode.mk (6 : Int) (0 : Int) (0 : Int) (ApiValue.mk (0 : Int) (0 : UInt64) ([] : List UInt8))), (PredNode.mk (6 : Int) (0 : Int) (0 : Int) (ApiValue.mk (0 : Int) (0 : UInt64) ([] : List UInt8)))]).length) none]) (σc := [.row 6 (List.map ePredNode ((([] : List PredNode) ++ p1) ++ [(PredNode.mk (6 : Int) (0 : Int) (0 : Int) (ApiValue.mk (0 : Int) (0 : UInt64) ([] : List UInt8))), (PredNode.mk (6 : Int) (0 : Int) (0 : Int) (ApiValue.mk (0 : Int) (0 : UInt64) ([] : List UInt8)))])) true]) [19] [] ([19], true) (CallAt.frz (ArgF.keep (ArgF.frz (fF rfl rfl rfl) (ArgF.nil _))) (fq [] [] (pred_Check_ok p0 ((([] : List PredNode) ++ p1) ++ [(PredNode.mk (6 : Int) (0 : Int) (0 : Int) (ApiValue.mk (0 : Int) (0 : UInt64) ([] : List UInt8))), (PredNode.mk (6 : Int) (0 : Int) (0 : Int) (ApiValue.mk (0 : Int) (0 : UInt64) ([] : List UInt8)))]) _ hq288) rfl rfl rfl rfl rfl rfl rfl rfl)) wf rfl rfl rfl cb8 rfl rfl rfl rfl rfl rfl rfl rfl rfl (t1 ([], false) (bi rfl rfl q_i64_neq) rfl (t1 ([], false) (mv rfl) rfl (tp h1 (fun h1 => ?_) (fun h1 => ?_)))))))
     ·have q := si h1; subst q
      refine jw rfl (jw rfl (jw rfl (jw rfl (t1 ([], false) (pkt rfl rfl) rfl (t1 ([], false) (mv rfl) rfl (jw rfl (jw rfl (jw rfl (jw rfl ?_)))))))))
      refine jw rfl (jw rfl (jw rfl (jw rfl (jw rfl (t1 ([], false) (pkt rfl rfl) rfl (ST.nil (And.intro (by decide +kernel) ?_)))))))
      exact (Wk.trans (wq (e' := [(1, .d ((eL 6 ePredNode) p1)), (2, .d ((eL 6 ePredNode) p2)), (3, .d ((eL 3 eApiValue) p3)), (10, .ref 1 0 0), (11, .ref 2 0 0), (12, .slc 5 6 0 (((([] : List PredNode) ++ p1) ++ p2).length) none), (13, .slc 8 6 0 (((([] : List PredNode) ++ p2) ++ p1).length) none), (14, .slc 15 6 0 (((((([] : List PredNode) ++ p1) ++ [(PredNode.mk (6 : Int) (0 : Int) (0 : Int) (ApiValue.mk (0 : Int) (0 : UInt64) ([] : List UInt8)))]) ++ p2) ++ [(PredNode.mk (6 : Int) (0 : Int) (0 : Int) (ApiValue.mk (0 : Int) (0 : UInt64) ([] : List UInt8)))]).length) none), (15, .slc 19 6 0 (((([] : List PredNode) ++ p1) ++ [(PredNode.mk (6 : Int) (0 : Int) (0 : Int) (ApiValue.mk (0 : Int) (0 : UInt64) ([] : List UInt8))), (PredNode.mk (6 : Int) (0 : Int) (0 : Int) (ApiValue.mk (0 : Int) (0 : UInt64) ([] : List UInt8)))]).length) none), (16, .slc 23 6 0 (((([] : List PredNode) ++ ((([] : List PredNode) ++ p1) ++ p2)) ++ [(PredNode.mk (4 : Int) (0 : Int) (0 : Int) (ApiValue.mk (0 : Int) (0 : UInt64) ([] : List UInt8))), (PredNode.mk (6 : Int) (0 : Int) (0 : Int) (ApiValue.mk (0 : Int) (0 : UInt64) ([] : List UInt8)))]).length) none), (111, .d (eB true))]) rfl) (Wk.trans (fro 23 rfl rfl) (wc [1, 2, 5, 8, 15, 19, 23] [1, 2, 5, 8, 15, 19, 23] (by kernel_rfl) rfl (by kernel_rfl))))
     ·obtain ⟨r291, hq290, h1⟩ := ob h1
      refine u1 ([], false) (ww rfl) (mv rfl) rfl (u1 ([], false) (ww rfl) (mv rfl) rfl (tq (args' := [.d ((eL 7 eApiColumn) p0), .slc 0 6 0 (((([] : List PredNode) ++ ((([] : List PredNode) ++ p1) ++ p2)) ++ [(PredNode.mk (4 : Int) (0 : Int) (0 : Int) (ApiValue.mk (0 : Int) (0 : UInt64) ([] : List UInt8))), (PredNode.mk (6 : Int) (0 : Int) (0 : Int) (ApiValue.mk (0 : Int) (0 : UInt64) ([] : List UInt8)))]).length) none]) (σc := [.row 6 (List.map ePredNode ((([] : List PredNode) ++ ((([] : List PredNode) ++ p1) ++ p2)) ++ [(PredNode.mk (4 : Int) (0 : Int) (0 : Int) (ApiValue.mk (0 : Int) (0 : UInt64) ([] : List UInt8))), (PredNode.mk (6 : Int) (0 : Int) (0 : Int) (ApiValue.mk (0 : Int) (0 : UInt64) ([] : List UInt8)))])) true]) [23] [] ([23], true) (CallAt.frz (ArgF.keep (ArgF.frz (fF rfl rfl rfl) (ArgF.nil _))) (fq [] [] (pred_Check_ok p0 ((([] : List PredNode) ++ ((([] : List PredNode) ++ p1) ++ p2)) ++ [(PredNode.mk (4 : Int) (0 : Int) (0 : Int) (ApiValue.mk (0 : Int) (0 : UInt64) ([] : List UInt8))), (PredNode.mk (6 : Int) (0 : Int) (0 : Int) (ApiValue.mk (0 : Int) (0 : UInt64) ([] : List UInt8)))]) _ hq290) rfl rfl rfl rfl rfl rfl rfl rfl)) (ww rfl) rfl rfl rfl cb8 rfl rfl rfl rfl rfl rfl rfl rfl rfl (u1 ([], false) (ww rfl) (bi rfl rfl q_i64_neq) rfl (t1 ([], false) (pkf rfl rfl) rfl (t1 ([], false) (mv rfl) rfl (tp h1 (fun h1 => ?_) (fun h1 => ?_)))))))
      ·have q := si h1; subst q
       refine jw rfl (jw rfl (jw rfl (jw rfl (jw rfl (jw rfl (jw rfl (jw rfl (jw rfl (t1 ([], false) (pkt rfl rfl) rfl ?_)))))))))
       refine ST.nil (And.intro (by decide +kernel) ?_)
       exact (wc [1, 2, 5, 8, 15, 19, 23] [1, 2, 5, 8, 15, 19, 23] (by kernel_rfl) rfl (by kernel_rfl))
      ·obtain ⟨hg292, h1⟩ := gd h1; obtain ⟨hg293, h1⟩ := gd h1; obtain ⟨r295, hq294, h1⟩ := ob h1; have q := si h1; subst q
       refine u1 ([], false) (ww rfl) (mv rfl) rfl (u1 ([24], true) (ww rfl) (bsn (k := 24) (ds := List.map ePredNode ([] : List PredNode)) (off := 0) (l' := ([] : List PredNode).length) rfl un23 ei43 rfl rfl rfl rfl rfl rfl) rfl (u1 ([], false) (ww rfl) (mv rfl) rfl (u1 ([24, 15, 25], true) (ww rfl) (app rfl rfl rfl rfl bc23 (aF (f := ePredNode) (xs := ([] : List PredNode)) (k := 25) rfl un23 ei43 rfl (el_full (xs := ((((([] : List PredNode) ++ p1) ++ [(PredNode.mk (6 : Int) (0 : Int) (0 : Int) (ApiValue.mk (0 : Int) (0 : UInt64) ([] : List UInt8)))]) ++ p2) ++ [(PredNode.mk (6 : Int) (0 : Int) (0 : Int) (ApiValue.mk (0 : Int) (0 : UInt64) ([] : List UInt8)))])) rfl) hg292 rfl)) rfl (u1 ([2], false) (ww rfl) (lod (v := .d (ePredNode (PredNode.mk (5 : Int) (0 : Int) (0 : Int) (ApiValue.mk (0 : Int) (0 : UInt64) ([] : List UInt8))))) rfl (ld_box ts43 ta43 rfl rfl)) rfl (u1 ([26], true) (ww rfl) (bsn (k := 26) (ds := List.map ePredNode [(PredNode.mk (5 : Int) (0 : Int) (0 : Int) (ApiValue.mk (0 : Int) (0 : UInt64) ([] : List UInt8)))]) (off := 0) (l' := [(PredNode.mk (5 : Int) (0 : Int) (0 : Int) (ApiValue.mk (0 : Int) (0 : UInt64) ([] : List UInt8)))].length) rfl un23 ei43 rfl rfl (by rfl) rfl rfl rfl) rfl (u1 ([25, 26, 27], true) (ww rfl) (app rfl rfl rfl rfl bc23 (aF (f := ePredNode) (xs := (([] : List PredNode) ++ ((((([] : List PredNode) ++ p1) ++ [(PredNode.mk (6 : Int) (0 : Int) (0 : Int) (ApiValue.mk (0 : Int) (0 : UInt64) ([] : List UInt8)))]) ++ p2) ++ [(PredNode.mk (6 : Int) (0 : Int) (0 : Int) (ApiValue.mk (0 : Int) (0 : UInt64) ([] : List UInt8)))]))) (k := 27) rfl un23 ei43 rfl (el_full (xs := [(PredNode.mk (5 : Int) (0 : Int) (0 : Int) (ApiValue.mk (0 : Int) (0 : UInt64) ([] : List UInt8)))]) rfl) hg293 rfl)) rfl ?_))))))
       refine tq (args' := [.d ((eL 7 eApiColumn) p0), .slc 0 6 0 (((([] : List PredNode) ++ ((((([] : List PredNode) ++ p1) ++ [(PredNode.mk (6 : Int) (0 : Int) (0 : Int) (ApiValue.mk (0 : Int) (0 : UInt64) ([] : List UInt8)))]) ++ p2) ++ [(PredNode.mk (6 : Int) (0 : Int) (0 : Int) (ApiValue.mk (0 : Int) (0 : UInt64) ([] : List UInt8)))])) ++ [(PredNode.mk (5 : Int) (0 : Int) (0 : Int) (ApiValue.mk (0 : Int) (0 : UInt64) ([] : List UInt8)))]).length) none]) (σc := [.row 6 (List.map ePredNode ((([] : List PredNode) ++ ((((([] : List PredNode) ++ p1) ++ [(PredNode.mk (6 : Int) (0 : Int) (0 : Int) (ApiValue.mk (0 : Int) (0 : UInt64) ([] : List UInt8)))]) ++ p2) ++ [(PredNode.mk (6 : Int) (0 : Int) (0 : Int) (ApiValue.mk (0 : Int) (0 : UInt64) ([] : List UInt8)))])) ++ [(PredNode.mk (5 : Int) (0 : Int) (0 : Int) (ApiValue.mk (0 : Int) (0 : UInt64) ([] : List UInt8)))])) true]) [27] [] ([27], true) (CallAt.frz (ArgF.keep (ArgF.frz (fF rfl rfl rfl) (ArgF.nil _))) (fq [] [] (pred_Check_ok p0 ((([] : List PredNode) ++ ((((([] : List PredNode) ++ p1) ++ [(PredNode.mk (6 : Int) (0 : Int) (0 : Int) (ApiValue.mk (0 : Int) (0 : UInt64) ([] : List UInt8)))]) ++ p2) ++ [(PredNode.mk (6 : Int) (0 : Int) (0 : Int) (ApiValue.mk (0 : Int) (0 : UInt64) ([] : List UInt8)))])) ++ [(PredNode.mk (5 : Int) (0 : Int) (0 : Int) (ApiValue.mk (0 : Int) (0 : UInt64) ([] : List UInt8)))]) _ hq294) rfl rfl rfl rfl rfl rfl rfl rfl)) (ww rfl) rfl rfl rfl cb8 rfl rfl rfl rfl rfl rfl rfl rfl rfl (u1 ([], false) (ww rfl) (bi rfl rfl q_i64_neq) rfl ?_)
       refine t1 ([], false) (pkf rfl rfl) rfl (ST.nil (And.intro (by decide +kernel) ?_))
       exact (wc [1, 2, 5, 8, 15, 19, 23] [1, 2, 5, 8, 15, 19, 23] (by kernel_rfl) rfl (by kernel_rfl))
    ·rintro y286 h0
     refine cB h0 rfl (fun h0 => ?_) (fun h0 => ?_)
     ·have q := si h0; subst q
      exact sr (sa rfl (sn (SC.ret (finR (wc (e' := [(8, .d (eB true))]) [] [] (by kernel_rfl) rfl (by kernel_rfl)) (lresT rfl lresN) rfl))))
     ·obtain ⟨r297, hq296, h0⟩ := ob h0; obtain ⟨r299, hq298, h0⟩ := ob h0
      refine sk (sr (sm rfl (sm rfl (c0 (pred_Eval_ok p1 p3 _ hq296) wf rfl rfl rfl cb11 rfl (fun _ => rfl) (fun _ => rfl) (sa rfl (sn (sr (sm rfl (sm rfl ?_)))))))))
      refine c0 (pred_Eval_ok p2 p3 _ hq298) wf rfl rfl rfl cb11 rfl (fun _ => rfl) (fun _ => rfl) (sa rfl (sn (sq (SC.seqP h0 (fun y => ⟨mk 206 [(3, .d ((eL 3 eApiValue) p3)), (10, .ref 0 0 0), (11, .ref 1 0 0), (13, .slc 2 6 0 (((([] : List PredNode) ++ p2) ++ p1).length) none), (14, .slc 3 6 0 (((((([] : List PredNode) ++ p1) ++ [(PredNode.mk (6 : Int) (0 : Int) (0 : Int) (ApiValue.mk (0 : Int) (0 : UInt64) ([] : List UInt8)))]) ++ p2) ++ [(PredNode.mk (6 : Int) (0 : Int) (0 : Int) (ApiValue.mk (0 : Int) (0 : UInt64) ([] : List UInt8)))]).length) none), (16, .slc 4 6 0 (((([] : List PredNode) ++ ((([] : List PredNode) ++ p1) ++ p2)) ++ [(PredNode.mk (4 : Int) (0 : Int) (0 : Int) (ApiValue.mk (0 : Int) (0 : UInt64) ([] : List UInt8))), (PredNode.mk (6 : Int) (0 : Int) (0 : Int) (ApiValue.mk (0 : Int) (0 : UInt64) ([] : List UInt8)))]).length) none), (17, .d (eB r297)), (18, .d (eB r299)), (152, .d (eB y))], [.box (.d (ePredNode (PredNode.mk (4 : Int) (0 : Int) (0 : Int) (ApiValue.mk (0 : Int) (0 : UInt64) ([] : List UInt8))))), .box (.d (ePredNode (PredNode.mk (5 : Int) (0 : Int) (0 : Int) (ApiValue.mk (0 : Int) (0 : UInt64) ([] : List UInt8))))), .row 6 (List.map ePredNode ((([] : List PredNode) ++ p2) ++ p1)) true, .row 6 (List.map ePredNode ((((([] : List PredNode) ++ p1) ++ [(PredNode.mk (6 : Int) (0 : Int) (0 : Int) (ApiValue.mk (0 : Int) (0 : UInt64) ([] : List UInt8)))]) ++ p2) ++ [(PredNode.mk (6 : Int) (0 : Int) (0 : Int) (ApiValue.mk (0 : Int) (0 : UInt64) ([] : List UInt8)))])) true, .row 6 (List.map ePredNode ((([] : List PredNode) ++ ((([] : List PredNode) ++ p1) ++ p2)) ++ [(PredNode.mk (4 : Int) (0 : Int) (0 : Int) (ApiValue.mk (0 : Int) (0 : UInt64) ([] : List UInt8))), (PredNode.mk (6 : Int) (0 : Int) (0 : Int) (ApiValue.mk (0 : Int) (0 : UInt64) ([] : List UInt8)))])) false]⟩) ?_ ?_))))
      ·intro u1_315 h1
       obtain ⟨r317, hq316, h1⟩ := ob h1
       refine SC.draws (by kernel_rfl) (t1 ([], false) (mv rfl) rfl (t1 ([], false) (mv rfl) rfl (tqr (args' := [.slc 0 6 0 (((([] : List PredNode) ++ p1) ++ [(PredNode.mk (6 : Int) (0 : Int) (0 : Int) (ApiValue.mk (0 : Int) (0 : UInt64) ([] : List UInt8))), (PredNode.mk (6 : Int) (0 : Int) (0 : Int) (ApiValue.mk (0 : Int) (0 : UInt64) ([] : List UInt8)))]).length) none, .d ((eL 3 eApiValue) p3)]) (σc := [.row 6 (List.map ePredNode ((([] : List PredNode) ++ p1) ++ [(PredNode.mk (6 : Int) (0 : Int) (0 : Int) (ApiValue.mk (0 : Int) (0 : UInt64) ([] : List UInt8))), (PredNode.mk (6 : Int) (0 : Int) (0 : Int) (ApiValue.mk (0 : Int) (0 : UInt64) ([] : List UInt8)))])) false]) [5] [5] (CallAt.frz (ArgF.frz (fF rfl rfl rfl) (ArgF.keep (ArgF.nil _))) (fq [] [] (pred_Eval_ok ((([] : List PredNode) ++ p1) ++ [(PredNode.mk (6 : Int) (0 : Int) (0 : Int) (ApiValue.mk (0 : Int) (0 : UInt64) ([] : List UInt8))), (PredNode.mk (6 : Int) (0 : Int) (0 : Int) (ApiValue.mk (0 : Int) (0 : UInt64) ([] : List UInt8)))]) p3 _ hq316) rfl rfl rfl rfl rfl rfl rfl rfl)) wf rfl rfl rfl cb11 rfl rfl rfl rfl rfl rfl rfl rfl (t1 ([], false) (mv rfl) rfl (t1 ([], false) (bi (v := .d (eB (r317 != r297))) rfl rfl (fun X Y => b_bool_neq un4 X Y r317 r297)) rfl (t1 ([], false) (mv rfl) rfl (tp h1 (fun h1 => ?_) (fun h1 => ?_))))))))
       ·have q := si h1; subst q
        refine jw rfl (jw rfl (jw rfl (jw rfl (jw rfl (jw rfl (jw rfl (jw rfl (jw rfl (jw rfl ?_)))))))))
        refine jw rfl (jw rfl (jw rfl (t1 ([], false) (pkt rfl rfl) rfl (t1 ([], false) (mv rfl) rfl (jw rfl (jw rfl (jw rfl (jw rfl (jw rfl ?_)))))))))
        refine jw rfl (jw rfl (jw rfl (jw rfl (jw rfl (jw rfl (jw rfl (jw rfl (t1 ([], false) (pkt rfl rfl) rfl (ST.nil (And.intro (by decide +kernel) ?_))))))))))
        exact (wc [0, 1, 3, 4, 6] [0, 1, 3, 4, 6] (by kernel_rfl) rfl (by kernel_rfl))
       ·obtain ⟨hg318, h1⟩ := gd h1; obtain ⟨hg319, h1⟩ := gd h1; obtain ⟨r321, hq320, h1⟩ := ob h1
        refine u1 ([7], true) (ww rfl) (bsn (k := 7) (ds := List.map ePredNode ([] : List PredNode)) (off := 0) (l' := ([] : List PredNode).length) rfl un23 ei43 rfl rfl rfl rfl rfl rfl) rfl (u1 ([], false) (ww rfl) (mv rfl) rfl (u1 ([7, 2, 8], true) (ww rfl) (app rfl rfl rfl rfl bc23 (aF (f := ePredNode) (xs := ([] : List PredNode)) (k := 8) rfl un23 ei43 rfl (el_full (xs := ((([] : List PredNode) ++ p1) ++ p2)) rfl) hg318 rfl)) rfl (u1 ([0], false) (ww rfl) (lod (v := .d (ePredNode (PredNode.mk (4 : Int) (0 : Int) (0 : Int) (ApiValue.mk (0 : Int) (0 : UInt64) ([] : List UInt8))))) rfl (ld_box ts43 ta43 rfl rfl)) rfl (u1 ([9], true) (ww rfl) (bsn (k := 9) (ds := List.map ePredNode [(PredNode.mk (4 : Int) (0 : Int) (0 : Int) (ApiValue.mk (0 : Int) (0 : UInt64) ([] : List UInt8)))]) (off := 0) (l' := [(PredNode.mk (4 : Int) (0 : Int) (0 : Int) (ApiValue.mk (0 : Int) (0 : UInt64) ([] : List UInt8)))].length) rfl un23 ei43 rfl rfl (by rfl) rfl rfl rfl) rfl (u1 ([8, 9, 10], true) (ww rfl) (app rfl rfl rfl rfl bc23 (aF (f := ePredNode) (xs := (([] : List PredNode) ++ ((([] : List PredNode) ++ p1) ++ p2))) (k := 10) rfl un23 ei43 rfl (el_full (xs := [(PredNode.mk (4 : Int) (0 : Int) (0 : Int) (ApiValue.mk (0 : Int) (0 : UInt64) ([] : List UInt8)))]) rfl) hg319 rfl)) rfl (u1 ([], false) (ww rfl) (mv rfl) rfl (tq (args' := [.slc 0 6 0 (((([] : List PredNode) ++ ((([] : List PredNode) ++ p1) ++ p2)) ++ [(PredNode.mk (4 : Int) (0 : Int) (0 : Int) (ApiValue.mk (0 : Int) (0 : UInt64) ([] : List UInt8)))]).length) none, .d ((eL 3 eApiValue) p3)]) (σc := [.row 6 (List.map ePredNode ((([] : List PredNode) ++ ((([] : List PredNode) ++ p1) ++ p2)) ++ [(PredNode.mk (4 : Int) (0 : Int) (0 : Int) (ApiValue.mk (0 : Int) (0 : UInt64) ([] : List UInt8)))])) true]) [10] [] ([10], true) (CallAt.frz (ArgF.frz (fF rfl rfl rfl) (ArgF.keep (ArgF.nil _))) (fq [] [] (pred_Eval_ok ((([] : List PredNode) ++ ((([] : List PredNode) ++ p1) ++ p2)) ++ [(PredNode.mk (4 : Int) (0 : Int) (0 : Int) (ApiValue.mk (0 : Int) (0 : UInt64) ([] : List UInt8)))]) p3 _ hq320) rfl rfl rfl rfl rfl rfl rfl rfl)) (ww rfl) rfl rfl rfl cb11 rfl rfl rfl rfl rfl rfl rfl rfl rfl ?_)))))))
        refine u1 ([], false) (ww rfl) (mv rfl) rfl (u1 ([], false) (ww rfl) (mv rfl) rfl (tp h1 (fun h1 => ?_) (fun h1 => ?_)))
        ·refine u1 ([], false) (ww rfl) (mv rfl) rfl (u1 ([], false) (ww rfl) (pkt rfl rfl) rfl (u1 ([], false) (ww rfl) (bi (v := .d (eB (r321 != r299))) rfl rfl (fun X Y => b_bool_neq un4 X Y r321 r299)) rfl (t1 ([], false) (pkf rfl rfl) rfl (t1 ([], false) (mv rfl) rfl (tp h1 (fun h1 => ?_) (fun h1 => ?_))))))
         ·have q := si h1; subst q
          refine jw rfl (jw rfl (jw rfl (jw rfl (jw rfl (jw rfl (jw rfl (jw rfl (jw rfl (jw rfl ?_)))))))))
          refine jw rfl (jw rfl (jw rfl (t1 ([], false) (pkt rfl rfl) rfl (ST.nil (And.intro (by decide +kernel) ?_)))))
          exact (wc [0, 1, 3, 4, 6] [0, 1, 3, 4, 6] (by kernel_rfl) rfl (by kernel_rfl))
         ·obtain ⟨hg322, h1⟩ := gd h1; obtain ⟨hg323, h1⟩ := gd h1; obtain ⟨r325, hq324, h1⟩ := ob h1
          refine u1 ([11], true) (ww rfl) (bsn (k := 11) (ds := List.map ePredNode ([] : List PredNode)) (off := 0) (l' := ([] : List PredNode).length) rfl un23 ei43 rfl rfl rfl rfl rfl rfl) rfl (u1 ([], false) (ww rfl) (mv rfl) rfl (u1 ([11, 2, 12], true) (ww rfl) (app rfl rfl rfl rfl bc23 (aF (f := ePredNode) (xs := ([] : List PredNode)) (k := 12) rfl un23 ei43 rfl (el_full (xs := ((([] : List PredNode) ++ p1) ++ p2)) rfl) hg322 rfl)) rfl (u1 ([1], false) (ww rfl) (lod (v := .d (ePredNode (PredNode.mk (5 : Int) (0 : Int) (0 : Int) (ApiValue.mk (0 : Int) (0 : UInt64) ([] : List UInt8))))) rfl (ld_box ts43 ta43 rfl rfl)) rfl (u1 ([13], true) (ww rfl) (bsn (k := 13) (ds := List.map ePredNode [(PredNode.mk (5 : Int) (0 : Int) (0 : Int) (ApiValue.mk (0 : Int) (0 : UInt64) ([] : List UInt8)))]) (off := 0) (l' := [(PredNode.mk (5 : Int) (0 : Int) (0 : Int) (ApiValue.mk (0 : Int) (0 : UInt64) ([] : List UInt8)))].length) rfl un23 ei43 rfl rfl (by rfl) rfl rfl rfl) rfl (u1 ([12, 13, 14], true) (ww rfl) (app rfl rfl rfl rfl bc23 (aF (f := ePredNode) (xs := (([] : List PredNode) ++ ((([] : List PredNode) ++ p1) ++ p2))) (k := 14) rfl un23 ei43 rfl (el_full (xs := [(PredNode.mk (5 : Int) (0 : Int) (0 : Int) (ApiValue.mk (0 : Int) (0 : UInt64) ([] : List UInt8)))]) rfl) hg323 rfl)) rfl (u1 ([], false) (ww rfl) (mv rfl) rfl (tq (args' := [.slc 0 6 0 (((([] : List PredNode) ++ ((([] : List PredNode) ++ p1) ++ p2)) ++ [(PredNode.mk (5 : Int) (0 : Int) (0 : Int) (ApiValue.mk (0 : Int) (0 : UInt64) ([] : List UInt8)))]).length) none, .d ((eL 3 eApiValue) p3)]) (σc := [.row 6 (List.map ePredNode ((([] : List PredNode) ++ ((([] : List PredNode) ++ p1) ++ p2)) ++ [(PredNode.mk (5 : Int) (0 : Int) (0 : Int) (ApiValue.mk (0 : Int) (0 : UInt64) ([] : List UInt8)))])) true]) [14] [] ([14], true) (CallAt.frz (ArgF.frz (fF rfl rfl rfl) (ArgF.keep (ArgF.nil _))) (fq [] [] (pred_Eval_ok ((([] : List PredNode) ++ ((([] : List PredNode) ++ p1) ++ p2)) ++ [(PredNode.mk (5 : Int) (0 : Int) (0 : Int) (ApiValue.mk (0 : Int) (0 : UInt64) ([] : List UInt8)))]) p3 _ hq324) rfl rfl rfl rfl rfl rfl rfl rfl)) (ww rfl) rfl rfl rfl cb11 rfl rfl rfl rfl rfl rfl rfl rfl rfl ?_)))))))
          refine u1 ([], false) (ww rfl) (mv rfl) rfl (u1 ([], false) (ww rfl) (mv rfl) rfl (tp h1 (fun h1 => ?_) (fun h1 => ?_)))
          ·have q := si h1; subst q
           refine jw rfl (u1 ([], false) (ww rfl) (pkt rfl rfl) rfl (u1 ([], false) (ww rfl) (bi (v := .d (eB (r325 != true))) rfl rfl (fun X Y => b_bool_neq un4 X Y r325 true)) rfl (t1 ([], false) (pkf rfl rfl) rfl (ST.nil (And.intro (by decide +kernel) ?_)))))
           exact (wc [0, 1, 3, 4, 6] [0, 1, 3, 4, 6] (by kernel_rfl) rfl (by kernel_rfl))
          ·have q := si h1; subst q
           refine u1 ([], false) (ww rfl) (mv rfl) rfl (u1 ([], false) (ww rfl) (pkf rfl rfl) rfl (u1 ([], false) (ww rfl) (bi (v := .d (eB (r325 != r299))) rfl rfl (fun X Y => b_bool_neq un4 X Y r325 r299)) rfl (t1 ([], false) (pkf rfl rfl) rfl (ST.nil (And.intro (by decide +kernel) ?_)))))
           exact (wc [0, 1, 3, 4, 6] [0, 1, 3, 4, 6] (by kernel_rfl) rfl (by kernel_rfl))
        ·refine jw rfl (u1 ([], false) (ww rfl) (pkf rfl rfl) rfl (u1 ([], false) (ww rfl) (bi (v := .d (eB (r321 != false))) rfl rfl (fun X Y => b_bool_neq un4 X Y r321 false)) rfl (t1 ([], false) (pkf rfl rfl) rfl (t1 ([], false) (mv rfl) rfl (tp h1 (fun h1 => ?_) (fun h1 => ?_))))))
         ·have q := si h1; subst q
          refine jw rfl (jw rfl (jw rfl (jw rfl (jw rfl (jw rfl (jw rfl (jw rfl (jw rfl (jw rfl ?_)))))))))
          refine jw rfl (jw rfl (jw rfl (t1 ([], false) (pkt rfl rfl) rfl (ST.nil (And.intro (by decide +kernel) ?_)))))
          exact (wc [0, 1, 3, 4, 6] [0, 1, 3, 4, 6] (by kernel_rfl) rfl (by kernel_rfl))
         ·obtain ⟨hg326, h1⟩ := gd h1; obtain ⟨hg327, h1⟩ := gd h1; obtain ⟨r329, hq328, h1⟩ := ob h1
          refine u1 ([11], true) (ww rfl) (bsn (k := 11) (ds := List.map ePredNode ([] : List PredNode)) (off := 0) (l' := ([] : List PredNode).length) rfl un23 ei43 rfl rfl rfl rfl rfl rfl) rfl (u1 ([], false) (ww rfl) (mv rfl) rfl (u1 ([11, 2, 12], true) (ww rfl) (app rfl rfl rfl rfl bc23 (aF (f := ePredNode) (xs := ([] : List PredNode)) (k := 12) rfl un23 ei43 rfl (el_full (xs := ((([] : List PredNode) ++ p1) ++ p2)) rfl) hg326 rfl)) rfl (u1 ([1], false) (ww rfl) (lod (v := .d (ePredNode (PredNode.mk (5 : Int) (0 : Int) (0 : Int) (ApiValue.mk (0 : Int) (0 : UInt64) ([] : List UInt8))))) rfl (ld_box ts43 ta43 rfl rfl)) rfl (u1 ([13], true) (ww rfl) (bsn (k := 13) (ds := List.map ePredNode [(PredNode.mk (5 : Int) (0 : Int) (0 : Int) (ApiValue.mk (0 : Int) (0 : UInt64) ([] : List UInt8)))]) (off := 0) (l' := [(PredNode.mk (5 : Int) (0 : Int) (0 : Int) (ApiValue.mk (0 : Int) (0 : UInt64) ([] : List UInt8)))].length) rfl un23 ei43 rfl rfl (by rfl) rfl rfl rfl) rfl (u1 ([12, 13, 14], true) (ww rfl) (app rfl rfl rfl rfl bc23 (aF (f := ePredNode) (xs := (([] : List PredNode) ++ ((([] : List PredNode) ++ p1) ++ p2))) (k := 14) rfl un23 ei43 rfl (el_full (xs := [(PredNode.mk (5 : Int) (0 : Int) (0 : Int) (ApiValue.mk (0 : Int) (0 : UInt64) ([] : List UInt8)))]) rfl) hg327 rfl)) rfl (u1 ([], false) (ww rfl) (mv rfl) rfl (tq (args' := [.slc 0 6 0 (((([] : List PredNode) ++ ((([] : List PredNode) ++ p1) ++ p2)) ++ [(PredNode.mk (5 : Int) (0 : Int) (0 : Int) (ApiValue.mk (0 : Int) (0 : UInt64) ([] : List UInt8)))]).length) none, .d ((eL 3 eApiValue) p3)]) (σc := [.row 6 (List.map ePredNode ((([] : List PredNode) ++ ((([] : List PredNode) ++ p1) ++ p2)) ++ [(PredNode.mk (5 : Int) (0 : Int) (0 : Int) (ApiValue.mk (0 : Int) (0 : UInt64) ([] : List UInt8)))])) true]) [14] [] ([14], true) (CallAt.frz (ArgF.frz (fF rfl rfl rfl) (ArgF.keep (ArgF.nil _))) (fq [] [] (pred_Eval_ok ((([] : List PredNode) ++ ((([] : List PredNode) ++ p1) ++ p2)) ++ [(PredNode.mk (5 : Int) (0 : Int) (0 : Int) (ApiValue.mk (0 : Int) (0 : UInt64) ([] : List UInt8)))]) p3 _ hq328) rfl rfl rfl rfl rfl rfl rfl rfl)) (ww rfl) rfl rfl rfl cb11 rfl rfl rfl rfl rfl rfl rfl rfl rfl ?_)))))))
          refine u1 ([], false) (ww rfl) (mv rfl) rfl (u1 ([], false) (ww rfl) (mv rfl) rfl (tp h1 (fun h1 => ?_) (fun h1 => ?_)))
          ·have q := si h1; subst q
           refine jw rfl (u1 ([], false) (ww rfl) (pkt rfl rfl) rfl (u1 ([], false) (ww rfl) (bi (v := .d (eB (r329 != true))) rfl rfl (fun X Y => b_bool_neq un4 X Y r329 true)) rfl (t1 ([], false) (pkf rfl rfl) rfl (ST.nil (And.intro (by decide +kernel) ?_)))))
           exact (wc [0, 1, 3, 4, 6] [0, 1, 3, 4, 6] (by kernel_rfl) rfl (by kernel_rfl))
          ·have q := si h1; subst q
           refine u1 ([], false) (ww rfl) (mv rfl) rfl (u1 ([], false) (ww rfl) (pkf rfl rfl) rfl (u1 ([], false) (ww rfl) (bi (v := .d (eB (r329 != r299))) rfl rfl (fun X Y => b_bool_neq un4 X Y r329 r299)) rfl (t1 ([], false) (pkf rfl rfl) rfl (ST.nil (And.intro (by decide +kernel) ?_)))))
           exact (wc [0, 1, 3, 4, 6] [0, 1, 3, 4, 6] (by kernel_rfl) rfl (by kernel_rfl))
      ·rintro y314 h0
       refine cB h0 rfl (fun h0 => ?_) (fun h0 => ?_)
       ·have q := si h0; subst q
        exact sr (sa rfl (sn (SC.ret (finR (wc (e' := [(8, .d (eB false))]) [] [] (by kernel_rfl) rfl (by kernel_rfl)) (lresT rfl lresN) rfl))))
       ·refine sk (sq (SC.seqP h0 (fun y => ⟨mk 206 [(3, .d ((eL 3 eApiValue) p3)), (11, .ref 0 0 0), (14, .slc 1 6 0 (((((([] : List PredNode) ++ p1) ++ [(PredNode.mk (6 : Int) (0 : Int) (0 : Int) (ApiValue.mk (0 : Int) (0 : UInt64) ([] : List UInt8)))]) ++ p2) ++ [(PredNode.mk (6 : Int) (0 : Int) (0 : Int) (ApiValue.mk (0 : Int) (0 : UInt64) ([] : List UInt8)))]).length) none), (16, .slc 2 6 0 (((([] : List PredNode) ++ ((([] : List PredNode) ++ p1) ++ p2)) ++ [(PredNode.mk (4 : Int) (0 : Int) (0 : Int) (ApiValue.mk (0 : Int) (0 : UInt64) ([] : List UInt8))), (PredNode.mk (6 : Int) (0 : Int) (0 : Int) (ApiValue.mk (0 : Int) (0 : UInt64) ([] : List UInt8)))]).length) none), (17, .d (eB r297)), (18, .d (eB r299)), (180, .d (eB y))], [.box (.d (ePredNode (PredNode.mk (5 : Int) (0 : Int) (0 : Int) (ApiValue.mk (0 : Int) (0 : UInt64) ([] : List UInt8))))), .row 6 (List.map ePredNode ((((([] : List PredNode) ++ p1) ++ [(PredNode.mk (6 : Int) (0 : Int) (0 : Int) (ApiValue.mk (0 : Int) (0 : UInt64) ([] : List UInt8)))]) ++ p2) ++ [(PredNode.mk (6 : Int) (0 : Int) (0 : Int) (ApiValue.mk (0 : Int) (0 : UInt64) ([] : List UInt8)))])) true, .row 6 (List.map ePredNode ((([] : List PredNode) ++ ((([] : List PredNode) ++ p1) ++ p2)) ++ [(PredNode.mk (4 : Int) (0 : Int) (0 : Int) (ApiValue.mk (0 : Int) (0 : UInt64) ([] : List UInt8))), (PredNode.mk (6 : Int) (0 : Int) (0 : Int) (ApiValue.mk (0 : Int) (0 : UInt64) ([] : List UInt8)))])) false]⟩) ?_ ?_))
        ·intro u1_343 h1
         obtain ⟨hg344, h1⟩ := gd h1; obtain ⟨hg345, h1⟩ := gd h1; obtain ⟨r347, hq346, h1⟩ := ob h1
         refine SC.draws (by kernel_rfl) (t1 ([5], true) (bsn (k := 5) (ds := List.map ePredNode ([] : List PredNode)) (off := 0) (l' := ([] : List PredNode).length) rfl un23 ei43 rfl rfl rfl rfl rfl rfl) rfl (t1 ([], false) (mv rfl) rfl (t1 ([5, 2, 6], true) (app rfl rfl rfl rfl bc23 (aF (f := ePredNode) (xs := ([] : List PredNode)) (k := 6) rfl un23 ei43 rfl (el_full (xs := ((([] : List PredNode) ++ p2) ++ p1)) rfl) hg344 rfl)) rfl (t1 ([0], false) (lod (v := .d (ePredNode (PredNode.mk (4 : Int) (0 : Int) (0 : Int) (ApiValue.mk (0 : Int) (0 : UInt64) ([] : List UInt8))))) rfl (ld_box ts43 ta43 rfl rfl)) rfl (t1 ([7], true) (bsn (k := 7) (ds := List.map ePredNode [(PredNode.mk (4 : Int) (0 : Int) (0 : Int) (ApiValue.mk (0 : Int) (0 : UInt64) ([] : List UInt8)))]) (off := 0) (l' := [(PredNode.mk (4 : Int) (0 : Int) (0 : Int) (ApiValue.mk (0 : Int) (0 : UInt64) ([] : List UInt8)))].length) rfl un23 ei43 rfl rfl (by rfl) rfl rfl rfl) rfl (t1 ([6, 7, 8], true) (app rfl rfl rfl rfl bc23 (aF (f := ePredNode) (xs := (([] : List PredNode) ++ ((([] : List PredNode) ++ p2) ++ p1))) (k := 8) rfl un23 ei43 rfl (el_full (xs := [(PredNode.mk (4 : Int) (0 : Int) (0 : Int) (ApiValue.mk (0 : Int) (0 : UInt64) ([] : List UInt8)))]) rfl) hg345 rfl)) rfl (t1 ([], false) (mv rfl) rfl (tq (args' := [.slc 0 6 0 (((([] : List PredNode) ++ ((([] : List PredNode) ++ p2) ++ p1)) ++ [(PredNode.mk (4 : Int) (0 : Int) (0 : Int) (ApiValue.mk (0 : Int) (0 : UInt64) ([] : List UInt8)))]).length) none, .d ((eL 3 eApiValue) p3)]) (σc := [.row 6 (List.map ePredNode ((([] : List PredNode) ++ ((([] : List PredNode) ++ p2) ++ p1)) ++ [(PredNode.mk (4 : Int) (0 : Int) (0 : Int) (ApiValue.mk (0 : Int) (0 : UInt64) ([] : List UInt8)))])) true]) [8] [] ([8], true) (CallAt.frz (ArgF.frz (fF rfl rfl rfl) (ArgF.keep (ArgF.nil _))) (fq [] [] (pred_Eval_ok ((([] : List PredNode) ++ ((([] : List PredNode) ++ p2) ++ p1)) ++ [(PredNode.mk (4 : Int) (0 : Int) (0 : Int) (ApiValue.mk (0 : Int) (0 : UInt64) ([] : List UInt8)))]) p3 _ hq346) rfl rfl rfl rfl rfl rfl rfl rfl)) wf rfl rfl rfl cb11 rfl rfl rfl rfl rfl rfl rfl rfl rfl ?_))))))))
         refine t1 ([], false) (mv rfl) rfl (t1 ([], false) (mv rfl) rfl (tp h1 (fun h1 => ?_) (fun h1 => ?_)))
         ·refine u1 ([], false) (ww rfl) (mv rfl) rfl (t1 ([], false) (pkt rfl rfl) rfl (t1 ([], false) (bi (v := .d (eB (r347 != r299))) rfl rfl (fun X Y => b_bool_neq un4 X Y r347 r299)) rfl (t1 ([], false) (mv rfl) rfl (tp h1 (fun h1 => ?_) (fun h1 => ?_)))))
          ·have q := si h1; subst q
           refine jw rfl (jw rfl (jw rfl (jw rfl (jw rfl (jw rfl (jw rfl (jw rfl (jw rfl (jw rfl ?_)))))))))
           refine jw rfl (jw rfl (jw rfl (t1 ([], false) (pkt rfl rfl) rfl (ST.nil (And.intro (by decide +kernel) ?_)))))
           exact (wc [1, 3, 4] [1, 3, 4] (by kernel_rfl) rfl (by kernel_rfl))
          ·obtain ⟨hg348, h1⟩ := gd h1; obtain ⟨hg349, h1⟩ := gd h1; obtain ⟨r351, hq350, h1⟩ := ob h1
           refine u1 ([9], true) (ww rfl) (bsn (k := 9) (ds := List.map ePredNode ([] : List PredNode)) (off := 0) (l' := ([] : List PredNode).length) rfl un23 ei43 rfl rfl rfl rfl rfl rfl) rfl (u1 ([], false) (ww rfl) (mv rfl) rfl (u1 ([9, 2, 10], true) (ww rfl) (app rfl rfl rfl rfl bc23 (aF (f := ePredNode) (xs := ([] : List PredNode)) (k := 10) rfl un23 ei43 rfl (el_full (xs := ((([] : List PredNode) ++ p2) ++ p1)) rfl) hg348 rfl)) rfl (u1 ([1], false) (ww rfl) (lod (v := .d (ePredNode (PredNode.mk (5 : Int) (0 : Int) (0 : Int) (ApiValue.mk (0 : Int) (0 : UInt64) ([] : List UInt8))))) rfl (ld_box ts43 ta43 rfl rfl)) rfl (u1 ([11], true) (ww rfl) (bsn (k := 11) (ds := List.map ePredNode [(PredNode.mk (5 : Int) (0 : Int) (0 : Int) (ApiValue.mk (0 : Int) (0 : UInt64) ([] : List UInt8)))]) (off := 0) (l' := [(PredNode.mk (5 : Int) (0 : Int) (0 : Int) (ApiValue.mk (0 : Int) (0 : UInt64) ([] : List UInt8)))].length) rfl un23 ei43 rfl rfl (by rfl) rfl rfl rfl) rfl (u1 ([10, 11, 12], true) (ww rfl) (app rfl rfl rfl rfl bc23 (aF (f := ePredNode) (xs := (([] : List PredNode) ++ ((([] : List PredNode) ++ p2) ++ p1))) (k := 12) rfl un23 ei43 rfl (el_full (xs := [(PredNode.mk (5 : Int) (0 : Int) (0 : Int) (ApiValue.mk (0 : Int) (0 : UInt64) ([] : List UInt8)))]) rfl) hg349 rfl)) rfl (u1 ([], false) (ww rfl) (mv rfl) rfl (tq (args' := [.slc 0 6 0 (((([] : List PredNode) ++ ((([] : List PredNode) ++ p2) ++ p1)) ++ [(PredNode.mk (5 : Int) (0 : Int) (0 : Int) (ApiValue.mk (0 : Int) (0 : UInt64) ([] : List UInt8)))]).length) none, .d ((eL 3 eApiValue) p3)]) (σc := [.row 6 (List.map ePredNode ((([] : List PredNode) ++ ((([] : List PredNode) ++ p2) ++ p1)) ++ [(PredNode.mk (5 : Int) (0 : Int) (0 : Int) (ApiValue.mk (0 : Int) (0 : UInt64) ([] : List UInt8)))])) true]) [12] [] ([12], true) (CallAt.frz (ArgF.frz (fF rfl rfl rfl) (ArgF.keep (ArgF.nil _))) (fq [] [] (pred_Eval_ok ((([] : List PredNode) ++ ((([] : List PredNode) ++ p2) ++ p1)) ++ [(PredNode.mk (5 : Int) (0 : Int) (0 : Int) (ApiValue.mk (0 : Int) (0 : UInt64) ([] : List UInt8)))]) p3 _ hq350) rfl rfl rfl rfl rfl rfl rfl rfl)) (ww rfl) rfl rfl rfl cb11 rfl rfl rfl rfl rfl rfl rfl rfl rfl ?_)))))))
           refine u1 ([], false) (ww rfl) (mv rfl) rfl (u1 ([], false) (ww rfl) (mv rfl) rfl (tp h1 (fun h1 => ?_) (fun h1 => ?_)))
           ·have q := si h1; subst q
            refine jw rfl (u1 ([], false) (ww rfl) (pkt rfl rfl) rfl (u1 ([], false) (ww rfl) (bi (v := .d (eB (r351 != true))) rfl rfl (fun X Y => b_bool_neq un4 X Y r351 true)) rfl (t1 ([], false) (pkf rfl rfl) rfl (ST.nil (And.intro (by decide +kernel) ?_)))))
            exact (wc [1, 3, 4] [1, 3, 4] (by kernel_rfl) rfl (by kernel_rfl))
           ·have q := si h1; subst q
            refine u1 ([], false) (ww rfl) (mv rfl) rfl (u1 ([], false) (ww rfl) (pkf rfl rfl) rfl (u1 ([], false) (ww rfl) (bi (v := .d (eB (r351 != r299))) rfl rfl (fun X Y => b_bool_neq un4 X Y r351 r299)) rfl (t1 ([], false) (pkf rfl rfl) rfl (ST.nil (And.intro (by decide +kernel) ?_)))))
            exact (wc [1, 3, 4] [1, 3, 4] (by kernel_rfl) rfl (by kernel_rfl))
         ·refine jw rfl (t1 ([], false) (pkf rfl rfl) rfl (t1 ([], false) (bi (v := .d (eB (r347 != false))) rfl rfl (fun X Y => b_bool_neq un4 X Y r347 false)) rfl (t1 ([], false) (mv rfl) rfl (tp h1 (fun h1 => ?_) (fun h1 => ?_)))))
          ·have q := si h1; subst q
           refine jw rfl (jw rfl (jw rfl (jw rfl (jw rfl (jw rfl (jw rfl (jw rfl (jw rfl (jw rfl ?_)))))))))
           refine jw rfl (jw rfl (jw rfl (t1 ([], false) (pkt rfl rfl) rfl (ST.nil (And.intro (by decide +kernel) ?_)))))
           exact (wc [1, 3, 4] [1, 3, 4] (by kernel_rfl) rfl (by kernel_rfl))
          ·obtain ⟨hg352, h1⟩ := gd h1; obtain ⟨hg353, h1⟩ := gd h1; obtain ⟨r355, hq354, h1⟩ := ob h1
           refine u1 ([9], true) (ww rfl) (bsn (k := 9) (ds := List.map ePredNode ([] : List PredNode)) (off := 0) (l' := ([] : List PredNode).length) rfl un23 ei43 rfl rfl rfl rfl rfl rfl) rfl (u1 ([], false) (ww rfl) (mv rfl) rfl (u1 ([9, 2, 10], true) (ww rfl) (app rfl rfl rfl rfl bc23 (aF (f := ePredNode) (xs := ([] : List PredNode)) (k := 10) rfl un23 ei43 rfl (el_full (xs := ((([] : List PredNode) ++ p2) ++ p1)) rfl) hg352 rfl)) rfl (u1 ([1], false) (ww rfl) (lod (v := .d (ePredNode (PredNode.mk (5 : Int) (0 : Int) (0 : Int) (ApiValue.mk (0 : Int) (0 : UInt64) ([] : List UInt8))))) rfl (ld_box ts43 ta43 rfl rfl)) rfl (u1 ([11], true) (ww rfl) (bsn (k := 11) (ds := List.map ePredNode [(PredNode.mk (5 : Int) (0 : Int) (0 : Int) (ApiValue.mk (0 : Int) (0 : UInt64) ([] : List UInt8)))]) (off := 0) (l' := [(PredNode.mk (5 : Int) (0 : Int) (0 : Int) (ApiValue.mk (0 : Int) (0 : UInt64) ([] : List UInt8)))].length) rfl un23 ei43 rfl rfl (by rfl) rfl rfl rfl) rfl (u1 ([10, 11, 12], true) (ww rfl) (app rfl rfl rfl rfl bc23 (aF (f := ePredNode) (xs := (([] : List PredNode) ++ ((([] : List PredNode) ++ p2) ++ p1))) (k := 12) rfl un23 ei43 rfl (el_full (xs := [(PredNode.mk (5 : Int) (0 : Int) (0 : Int) (ApiValue.mk (0 : Int) (0 : UInt64) ([] : List UInt8)))]) rfl) hg353 rfl)) rfl (u1 ([], false) (ww rfl) (mv rfl) rfl (tq (args' := [.slc 0 6 0 (((([] : List PredNode) ++ ((([] : List PredNode) ++ p2) ++ p1)) ++ [(PredNode.mk (5 : Int) (0 : Int) (0 : Int) (ApiValue.mk (0 : Int) (0 : UInt64) ([] : List UInt8)))]).length) none, .d ((eL 3 eApiValue) p3)]) (σc := [.row 6 (List.map ePredNode ((([] : List PredNode) ++ ((([] : List PredNode) ++ p2) ++ p1)) ++ [(PredNode.mk (5 : Int) (0 : Int) (0 : Int) (ApiValue.mk (0 : Int) (0 : UInt64) ([] : List UInt8)))])) true]) [12] [] ([12], true) (CallAt.frz (ArgF.frz (fF rfl rfl rfl) (ArgF.keep (ArgF.nil _))) (fq [] [] (pred_Eval_ok ((([] : List PredNode) ++ ((([] : List PredNode) ++ p2) ++ p1)) ++ [(PredNode.mk (5 : Int) (0 : Int) (0 : Int) (ApiValue.mk (0 : Int) (0 : UInt64) ([] : List UInt8)))]) p3 _ hq354) rfl rfl rfl rfl rfl rfl rfl rfl)) (ww rfl) rfl rfl rfl cb11 rfl rfl rfl rfl rfl rfl rfl rfl rfl ?_)))))))
           refine u1 ([], false) (ww rfl) (mv rfl) rfl (u1 ([], false) (ww rfl) (mv rfl) rfl (tp h1 (fun h1 => ?_) (fun h1 => ?_)))
           ·have q := si h1; subst q
            refine jw rfl (u1 ([], false) (ww rfl) (pkt rfl rfl) rfl (u1 ([], false) (ww rfl) (bi (v := .d (eB (r355 != true))) rfl rfl (fun X Y => b_bool_neq un4 X Y r355 true)) rfl (t1 ([], false) (pkf rfl rfl) rfl (ST.nil (And.intro (by decide +kernel) ?_)))))
            exact (wc [1, 3, 4] [1, 3, 4] (by kernel_rfl) rfl (by kernel_rfl))
           ·have q := si h1; subst q
            refine u1 ([], false) (ww rfl) (mv rfl) rfl (u1 ([], false) (ww rfl) (pkf rfl rfl) rfl (u1 ([], false) (ww rfl) (bi (v := .d (eB (r355 != r299))) rfl rfl (fun X Y => b_bool_neq un4 X Y r355 r299)) rfl (t1 ([], false) (pkf rfl rfl) rfl (ST.nil (And.intro (by decide +kernel) ?_)))))
            exact (wc [1, 3, 4] [1, 3, 4] (by kernel_rfl) rfl (by kernel_rfl))
        ·rintro y342 h0
         refine cB h0 rfl (fun h0 => ?_) (fun h0 => ?_)
         ·have q := si h0; subst q
          exact sr (sa rfl (sn (SC.ret (finR (wc (e' := [(8, .d (eB false))]) [] [] (by kernel_rfl) rfl (by kernel_rfl)) (lresT rfl lresN) rfl))))
         ·refine sk (SC.seqP h0 (fun y => ⟨mk 206 [(8, .d (eB y))], []⟩) ?_ ?_)
          ·intro u1_365 h1
           obtain ⟨hg366, h1⟩ := gd h1; obtain ⟨hg367, h1⟩ := gd h1; obtain ⟨r369, hq368, h1⟩ := ob h1
           refine SC.draws (by kernel_rfl) (t1 ([3], true) (bsn (k := 3) (ds := List.map ePredNode ([] : List PredNode)) (off := 0) (l' := ([] : List PredNode).length) rfl un23 ei43 rfl rfl rfl rfl rfl rfl) rfl (t1 ([], false) (mv rfl) rfl (t1 ([3, 1, 4], true) (app rfl rfl rfl rfl bc23 (aF (f := ePredNode) (xs := ([] : List PredNode)) (k := 4) rfl un23 ei43 rfl (el_full (xs := ((((([] : List PredNode) ++ p1) ++ [(PredNode.mk (6 : Int) (0 : Int) (0 : Int) (ApiValue.mk (0 : Int) (0 : UInt64) ([] : List UInt8)))]) ++ p2) ++ [(PredNode.mk (6 : Int) (0 : Int) (0 : Int) (ApiValue.mk (0 : Int) (0 : UInt64) ([] : List UInt8)))])) rfl) hg366 rfl)) rfl (t1 ([0], false) (lod (v := .d (ePredNode (PredNode.mk (5 : Int) (0 : Int) (0 : Int) (ApiValue.mk (0 : Int) (0 : UInt64) ([] : List UInt8))))) rfl (ld_box ts43 ta43 rfl rfl)) rfl (t1 ([5], true) (bsn (k := 5) (ds := List.map ePredNode [(PredNode.mk (5 : Int) (0 : Int) (0 : Int) (ApiValue.mk (0 : Int) (0 : UInt64) ([] : List UInt8)))]) (off := 0) (l' := [(PredNode.mk (5 : Int) (0 : Int) (0 : Int) (ApiValue.mk (0 : Int) (0 : UInt64) ([] : List UInt8)))].length) rfl un23 ei43 rfl rfl (by rfl) rfl rfl rfl) rfl (t1 ([4, 5, 6], true) (app rfl rfl rfl rfl bc23 (aF (f := ePredNode) (xs := (([] : List PredNode) ++ ((((([] : List PredNode) ++ p1) ++ [(PredNode.mk (6 : Int) (0 : Int) (0 : Int) (ApiValue.mk (0 : Int) (0 : UInt64) ([] : List UInt8)))]) ++ p2) ++ [(PredNode.mk (6 : Int) (0 : Int) (0 : Int) (ApiValue.mk (0 : Int) (0 : UInt64) ([] : List UInt8)))]))) (k := 6) rfl un23 ei43 rfl (el_full (xs := [(PredNode.mk (5 : Int) (0 : Int) (0 : Int) (ApiValue.mk (0 : Int) (0 : UInt64) ([] : List UInt8)))]) rfl) hg367 rfl)) rfl ?_))))))
           refine t1 ([], false) (mv rfl) rfl (tq (args' := [.slc 0 6 0 (((([] : List PredNode) ++ ((((([] : List PredNode) ++ p1) ++ [(PredNode.mk (6 : Int) (0 : Int) (0 : Int) (ApiValue.mk (0 : Int) (0 : UInt64) ([] : List UInt8)))]) ++ p2) ++ [(PredNode.mk (6 : Int) (0 : Int) (0 : Int) (ApiValue.mk (0 : Int) (0 : UInt64) ([] : List UInt8)))])) ++ [(PredNode.mk (5 : Int) (0 : Int) (0 : Int) (ApiValue.mk (0 : Int) (0 : UInt64) ([] : List UInt8)))]).length) none, .d ((eL 3 eApiValue) p3)]) (σc := [.row 6 (List.map ePredNode ((([] : List PredNode) ++ ((((([] : List PredNode) ++ p1) ++ [(PredNode.mk (6 : Int) (0 : Int) (0 : Int) (ApiValue.mk (0 : Int) (0 : UInt64) ([] : List UInt8)))]) ++ p2) ++ [(PredNode.mk (6 : Int) (0 : Int) (0 : Int) (ApiValue.mk (0 : Int) (0 : UInt64) ([] : List UInt8)))])) ++ [(PredNode.mk (5 : Int) (0 : Int) (0 : Int) (ApiValue.mk (0 : Int) (0 : UInt64) ([] : List UInt8)))])) true]) [6] [] ([6], true) (CallAt.frz (ArgF.frz (fF rfl rfl rfl) (ArgF.keep (ArgF.nil _))) (fq [] [] (pred_Eval_ok ((([] : List PredNode) ++ ((((([] : List PredNode) ++ p1) ++ [(PredNode.mk (6 : Int) (0 : Int) (0 : Int) (ApiValue.mk (0 : Int) (0 : UInt64) ([] : List UInt8)))]) ++ p2) ++ [(PredNode.mk (6 : Int) (0 : Int) (0 : Int) (ApiValue.mk (0 : Int) (0 : UInt64) ([] : List UInt8)))])) ++ [(PredNode.mk (5 : Int) (0 : Int) (0 : Int) (ApiValue.mk (0 : Int) (0 : UInt64) ([] : List UInt8)))]) p3 _ hq368) rfl rfl rfl rfl rfl rfl rfl rfl)) wf rfl rfl rfl cb11 rfl rfl rfl rfl rfl rfl rfl rfl rfl ?_)
           refine t1 ([], false) (mv rfl) rfl (t1 ([], false) (mv rfl) rfl (tp h1 (fun h1 => ?_) (fun h1 => ?_)))
           ·refine u1 ([], false) (ww rfl) (mv rfl) rfl (t1 ([], false) (pkt rfl rfl) rfl (t1 ([], false) (nt rfl) rfl (t1 ([], false) (bi (v := .d (eB (r369 == (!r299)))) rfl rfl (fun X Y => b_bool_eql un4 X Y r369 (!r299))) rfl (t1 ([], false) (mv rfl) rfl (tp h1 (fun h1 => ?_) (fun h1 => ?_))))))
            ·obtain ⟨r371, hq370, h1⟩ := ob h1
             refine u1 ([], false) (ww rfl) (mv rfl) rfl (u1 ([], false) (ww rfl) (mv rfl) rfl (tqr (args' := [.slc 0 6 0 (((([] : List PredNode) ++ ((([] : List PredNode) ++ p1) ++ p2)) ++ [(PredNode.mk (4 : Int) (0 : Int) (0 : Int) (ApiValue.mk (0 : Int) (0 : UInt64) ([] : List UInt8))), (PredNode.mk (6 : Int) (0 : Int) (0 : Int) (ApiValue.mk (0 : Int) (0 : UInt64) ([] : List UInt8)))]).length) none, .d ((eL 3 eApiValue) p3)]) (σc := [.row 6 (List.map ePredNode ((([] : List PredNode) ++ ((([] : List PredNode) ++ p1) ++ p2)) ++ [(PredNode.mk (4 : Int) (0 : Int) (0 : Int) (ApiValue.mk (0 : Int) (0 : UInt64) ([] : List UInt8))), (PredNode.mk (6 : Int) (0 : Int) (0 : Int) (ApiValue.mk (0 : Int) (0 : UInt64) ([] : List UInt8)))])) false]) [2] [2] (CallAt.frz (ArgF.frz (fF rfl rfl rfl) (ArgF.keep (ArgF.nil _))) (fq [] [] (pred_Eval_ok ((([] : List PredNode) ++ ((([] : List PredNode) ++ p1) ++ p2)) ++ [(PredNode.mk (4 : Int) (0 : Int) (0 : Int) (ApiValue.mk (0 : Int) (0 : UInt64) ([] : List UInt8))), (PredNode.mk (6 : Int) (0 : Int) (0 : Int) (ApiValue.mk (0 : Int) (0 : UInt64) ([] : List UInt8)))]) p3 _ hq370) rfl rfl rfl rfl rfl rfl rfl rfl)) (ww rfl) rfl rfl rfl cb11 rfl rfl rfl rfl rfl rfl rfl rfl (u1 ([], false) (ww rfl) (mv rfl) rfl (u1 ([], false) (ww rfl) (mv rfl) rfl (tp h1 (fun h1 => ?_) (fun h1 => ?_))))))
             ·have q := si h1; subst q
              refine u1 ([], false) (ww rfl) (mv rfl) rfl (u1 ([], false) (ww rfl) (pkt rfl rfl) rfl (u1 ([], false) (ww rfl) (nt rfl) rfl (u1 ([], false) (ww rfl) (bi (v := .d (eB (r371 == (!r299)))) rfl rfl (fun X Y => b_bool_eql un4 X Y r371 (!r299))) rfl (t1 ([], false) (pkt rfl rfl) rfl (t1 ([], false) (asg rfl) rfl (ST.nil (And.intro (by decide +kernel) ?_)))))))
              exact (wc [] [] (by kernel_rfl) rfl (by kernel_rfl))
             ·have q := si h1; subst q
              refine jw rfl (u1 ([], false) (ww rfl) (pkf rfl rfl) rfl (u1 ([], false) (ww rfl) (uo (v := .d (eB true)) rfl rfl rfl) rfl (u1 ([], false) (ww rfl) (bi (v := .d (eB (r371 == true))) rfl rfl (fun X Y => b_bool_eql un4 X Y r371 true)) rfl (t1 ([], false) (pkt rfl rfl) rfl (t1 ([], false) (asg rfl) rfl (ST.nil (And.intro (by decide +kernel) ?_)))))))
              exact (wc [] [] (by kernel_rfl) rfl (by kernel_rfl))
            ·have q := si h1; subst q
             refine jw rfl (jw rfl (jw rfl (jw rfl (jw rfl (jw rfl (jw rfl (jw rfl (jw rfl (t1 ([], false) (pkf rfl rfl) rfl ?_)))))))))
             refine t1 ([], false) (asg rfl) rfl (ST.nil (And.intro (by decide +kernel) ?_))
             exact (wc [] [] (by kernel_rfl) rfl (by kernel_rfl))
           ·refine jw rfl (t1 ([], false) (pkf rfl rfl) rfl (t1 ([], false) (uo (v := .d (eB true)) rfl rfl rfl) rfl (t1 ([], false) (bi (v := .d (eB (r369 == true))) rfl rfl (fun X Y => b_bool_eql un4 X Y r369 true)) rfl (t1 ([], false) (mv rfl) rfl (tp h1 (fun h1 => ?_) (fun h1 => ?_))))))
            ·obtain ⟨r373, hq372, h1⟩ := ob h1
             refine u1 ([], false) (ww rfl) (mv rfl) rfl (u1 ([], false) (ww rfl) (mv rfl) rfl (tqr (args' := [.slc 0 6 0 (((([] : List PredNode) ++ ((([] : List PredNode) ++ p1) ++ p2)) ++ [(PredNode.mk (4 : Int) (0 : Int) (0 : Int) (ApiValue.mk (0 : Int) (0 : UInt64) ([] : List UInt8))), (PredNode.mk (6 : Int) (0 : Int) (0 : Int) (ApiValue.mk (0 : Int) (0 : UInt64) ([] : List UInt8)))]).length) none, .d ((eL 3 eApiValue) p3)]) (σc := [.row 6 (List.map ePredNode ((([] : List PredNode) ++ ((([] : List PredNode) ++ p1) ++ p2)) ++ [(PredNode.mk (4 : Int) (0 : Int) (0 : Int) (ApiValue.mk (0 : Int) (0 : UInt64) ([] : List UInt8))), (PredNode.mk (6 : Int) (0 : Int) (0 : Int) (ApiValue.mk (0 : Int) (0 : UInt64) ([] : List UInt8)))])) false]) [2] [2] (CallAt.frz (ArgF.frz (fF rfl rfl rfl) (ArgF.keep (ArgF.nil _))) (fq [] [] (pred_Eval_ok ((([] : List PredNode) ++ ((([] : List PredNode) ++ p1) ++ p2)) ++ [(PredNode.mk (4 : Int) (0 : Int) (0 : Int) (ApiValue.mk (0 : Int) (0 : UInt64) ([] : List UInt8))), (PredNode.mk (6 : Int) (0 : Int) (0 : Int) (ApiValue.mk (0 : Int) (0 : UInt64) ([] : List UInt8)))]) p3 _ hq372) rfl rfl rfl rfl rfl rfl rfl rfl)) (ww rfl) rfl rfl rfl cb11 rfl rfl rfl rfl rfl rfl rfl rfl (u1 ([], false) (ww rfl) (mv rfl) rfl (u1 ([], false) (ww rfl) (mv rfl) rfl (tp h1 (fun h1 => ?_) (fun h1 => ?_))))))
             ·have q := si h1; subst q
              refine u1 ([], false) (ww rfl) (mv rfl) rfl (u1 ([], false) (ww rfl) (pkt rfl rfl) rfl (u1 ([], false) (ww rfl) (nt rfl) rfl (u1 ([], false) (ww rfl) (bi (v := .d (eB (r373 == (!r299)))) rfl rfl (fun X Y => b_bool_eql un4 X Y r373 (!r299))) rfl (t1 ([], false) (pkt rfl rfl) rfl (t1 ([], false) (asg rfl) rfl (ST.nil (And.intro (by decide +kernel) ?_)))))))
              exact (wc [] [] (by kernel_rfl) rfl (by kernel_rfl))
             ·have q := si h1; subst q
              refine jw rfl (u1 ([], false) (ww rfl) (pkf rfl rfl) rfl (u1 ([], false) (ww rfl) (uo (v := .d (eB true)) rfl rfl rfl) rfl (u1 ([], false) (ww rfl) (bi (v := .d (eB (r373 == true))) rfl rfl (fun X Y => b_bool_eql un4 X Y r373 true)) rfl (t1 ([], false) (pkt rfl rfl) rfl (t1 ([], false) (asg rfl) rfl (ST.nil (And.intro (by decide +kernel) ?_)))))))
              exact (wc [] [] (by kernel_rfl) rfl (by kernel_rfl))
            ·have q := si h1; subst q
             refine jw rfl (jw rfl (jw rfl (jw rfl (jw rfl (jw rfl (jw rfl (jw rfl (jw rfl (t1 ([], false) (pkf rfl rfl) rfl ?_)))))))))
             refine t1 ([], false) (asg rfl) rfl (ST.nil (And.intro (by decide +kernel) ?_))
             exact (wc [] [] (by kernel_rfl) rfl (by kernel_rfl))
          ·rintro y364 h0
           have q := si h0; subst q
           exact SC.ret (finR (Wk.refl _) (lresT rfl lresN) rfl)
end Lv
