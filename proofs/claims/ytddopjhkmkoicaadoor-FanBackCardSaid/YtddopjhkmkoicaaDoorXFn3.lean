/- Part of the proof of a law: functions and their walks. -/
import Derived.Test.YtddopjhkmkoicaaDoorXFn2
namespace Lv
open Go Go.Proofs
set_option linter.unusedVariables false
set_option linter.unusedSimpArgs false
set_option linter.unusedSectionVars false
set_option maxRecDepth 100000
variable [BaseTab] [TabOk]
noncomputable def law19_FanBack (p0 : ApiTable) (p1 : List FanBuilt) (p2 : List ApiValue) (p3 : List ApiValue) : Option Bool :=
 Option.bind law19_awake fun r413 =>
 bif (!r413) then
 some false
 else
 Option.bind (ref17_Check p0) fun r415 =>
 bif (r415 != (0 : Int)) then
 some true
 else
 Option.bind (ref17_Copy p0) fun r417 =>
 dem ([] : List (Nat × List ApiEntry)) (fun b418 =>
 cps (Y := (List (Nat × List ApiEntry)) × (List Granarylaw19Tree) × (List ApiIndex)) (fun κ =>
 loopD (Y := (List (Nat × List ApiEntry)) × (List Granarylaw19Tree) × Int × (List ApiIndex)) (fun ρ =>
 fun (y442, y443, y444, y445) =>
 bif (decide (y444 < (y445.length : Int))) then
 Option.bind (getI y445 y444) fun v453 =>
 dem y442 (fun b454 =>
 bif decide ((y443.length + [(Granarylaw19Tree.mk (w64 ((101 : Int) + y444)) b454)].length) * 16 ≤ room) then
 ρ ((y442 ++ [(b454, ([] : List ApiEntry))]), (y443 ++ [(Granarylaw19Tree.mk (w64 ((101 : Int) + y444)) b454)]), (w64 (y444 + (1 : Int))), (List.set y445 y444.toNat (ApiIndex.mk v453.Name v453.Parts v453.Extra v453.Unique v453.Ready (w64 ((101 : Int) + y444)))))
 else none)
 else
 κ (y442, y443, y445)) 1000 ((([] : List (Nat × List ApiEntry)) ++ [(b418, ([] : List ApiEntry))]), [(Granarylaw19Tree.mk (100 : Int) b418)], (0 : Int), r417))
 (fun (y436, y437, y438) =>
 Option.bind (fan_Change (ApiTable.mk p0.Name (([] : List ApiColumn) ++ p0.Cols) (([] : List Int) ++ p0.Primary) y438 (100 : Int)) p1 ([] : List ApiValue) p2) fun (r457, r458, r459, r460) =>
 Option.bind (fan_Change (ApiTable.mk p0.Name (([] : List ApiColumn) ++ p0.Cols) (([] : List Int) ++ p0.Primary) y438 (100 : Int)) p1 p2 p3) fun (r462, r463, r464, r465) =>
 Option.bind (fan_Change (ApiTable.mk p0.Name (([] : List ApiColumn) ++ p0.Cols) (([] : List Int) ++ p0.Primary) y438 (100 : Int)) p1 p3 p2) fun (r467, r468, r469, r470) =>
 Option.bind (fan_Change (ApiTable.mk p0.Name (([] : List ApiColumn) ++ p0.Cols) (([] : List Int) ++ p0.Primary) y438 (100 : Int)) p1 p2 ([] : List ApiValue)) fun (r472, r473, r474, r475) =>
 Option.bind (α := Bool)
 (bif (r457 != (0 : Int)) then
 some true
 else
 bif (r462 != (0 : Int)) then
 some true
 else
 bif (r467 != (0 : Int)) then
 some true
 else
 bif (r472 != (0 : Int)) then
 some true
 else
 bif ((p2.length : Int) == (0 : Int)) then
 some true
 else
 some ((p3.length : Int) == (0 : Int)))
 fun y476 =>
 bif y476 then
 some true
 else
 Option.bind (law19_run y437 r458 y436) fun (r479, r480) =>
 bif (!r480) then
 some false
 else
 Option.bind (α := (List (List ApiEntry)))
 (Option.bind (α := (List (List ApiEntry)))
 (loop (Y := (List (List ApiEntry)) × Int) (W := (List (List ApiEntry))) (fun (y506, y507) =>
 bif (decide (y507 < (y437.length : Int))) then
 Option.bind (getI y437 y507) fun v517 =>
 Option.bind (pget r479 v517.t) fun v518 =>
 bif decide ((y506.length + [v518].length) * 24 ≤ room) then
 some (Sum.inl ((y506 ++ [v518]), (w64 (y507 + (1 : Int)))))
 else none
 else
 some (Sum.inr y506)) (([] : List (List ApiEntry)), (0 : Int)))
 (fun e => some e))
 fun y500 =>
 Option.bind (α := (List (Nat × List ApiEntry)) × Bool)
 (Option.bind (law19_run y437 r463 r479) fun (r531, r532) =>
 bif (!r532) then
 some (r531, true)
 else
 Option.bind (law19_run y437 r468 r531) fun (r534, r535) =>
 some (r534, (!r535)))
 fun (y527, y528) =>
 bif y528 then
 some false
 else
 bindE (Y := Unit) (E := Bool)
 (Option.bind (α := Unit ⊕ Bool)
 (loop (Y := Int) (W := Unit ⊕ Bool) (fun y566 =>
 bif (decide (y566 < (y437.length : Int))) then
 Option.bind (getI y437 y566) fun v577 =>
 Option.bind (pget y527 v577.t) fun v578 =>
 Option.bind (getI y500 y566) fun v579 =>
 Option.bind (raw_Entries v578 v579) fun r581 =>
 bif (!r581) then
 some (Sum.inr (Sum.inr false))
 else
 some (Sum.inl (w64 (y566 + (1 : Int))))
 else
 some (Sum.inr (Sum.inl ()))) (0 : Int))
 (Sum.elim (fun e => some (Sum.inl e)) (fun e => some (Sum.inr e))))
 (fun _ =>
 Option.bind (law19_run y437 r473 y527) fun (r584, r585) =>
 bif (!r585) then
 some false
 else
 bindE (Y := Unit) (E := Bool)
 (Option.bind (α := Unit ⊕ Bool)
 (loop (Y := Int) (W := Unit ⊕ Bool) (fun y604 =>
 bif (decide (y604 < (y437.length : Int))) then
 Option.bind (getI y437 y604) fun v612 =>
 Option.bind (pget r584 v612.t) fun v613 =>
 bif ((v613.length : Int) != (0 : Int)) then
 some (Sum.inr (Sum.inr false))
 else
 some (Sum.inl (w64 (y604 + (1 : Int))))
 else
 some (Sum.inr (Sum.inl ()))) (0 : Int))
 (Sum.elim (fun e => some (Sum.inl e)) (fun e => some (Sum.inr e))))
 (fun _ =>
 Option.bind (α := Bool)
 (bif (decide ((r459.length : Int) ≥ (w64 ((r458.length : Int) - (y438.length : Int))))) then
 some (decide ((r464.length : Int) > (0 : Int)))
 else
 some false)
 fun y615 =>
 some y615)
 (fun e => some e))
 (fun e => some e)))
theorem law19_FanBack_ok (p0 : ApiTable) (p1 : List FanBuilt) (p2 : List ApiValue) (p3 : List ApiValue) (r : Bool) (h0 : law19_FanBack p0 p1 p2 p3 = some r) : CallAt Tryd.prog 4 [.d (eApiTable p0), .d ((eL 2 eFanBuilt) p1), .d ((eL 3 eApiValue) p2), .d ((eL 3 eApiValue) p3)] [] (.d (eB r)) [] := by
 unfold law19_FanBack at h0
 refine fnr [0, 1, 2, 3] Tryd.func4 rfl rfl rfl rfl rfl ?_
 obtain ⟨r413, hq412, h0⟩ := ob h0
 refine srp (s1 (bxo (k := 0) rfl rfl rfl) (sa rfl (snp (sqp (srp (c0 (law19_awake_ok _ hq412) wf rfl rfl rfl cb6 rfl (fun _ => rfl) (fun _ => rfl) (s1 (nt rfl) (snp (cBp h0 rfl (fun h0 => ?_) (fun h0 => ?_))))))))))
 ·have q := si h0; subst q
  exact srp (sa rfl (snp (SCp.ret (finRr (wc (e' := [(8, .d (eB false))]) [] [] (by kernel_rfl) rfl (by kernel_rfl)) (lresT rfl lresN) rfl))))
 ·obtain ⟨r415, hq414, h0⟩ := ob h0
  refine skp (sqp (srp (s1 (lod (v := .d (eApiTable p0)) rfl (ld_box ts26 ta26 rfl rfl)) (c0 (ref17_Check_ok p0 _ hq414) wf rfl rfl rfl cb7 rfl (fun _ => rfl) (fun _ => rfl) (s1 (bi rfl rfl q_i64_neq) (snp (cBp h0 rfl (fun h0 => ?_) (fun h0 => ?_))))))))
  ·have q := si h0; subst q
   exact srp (sa rfl (snp (SCp.ret (finRr (wc (e' := [(8, .d (eB true))]) [] [] (by kernel_rfl) rfl (by kernel_rfl)) (lresT rfl lresN) rfl))))
  ·obtain ⟨r417, hq416, h0⟩ := ob h0
   refine skp (srp (s1 (lod (v := .d (eApiTable p0)) rfl (ld_box ts26 ta26 rfl rfl)) (cq [] [1, 2, 3, 4] (ref17_Copy_ok p0 _ hq416) wf rfl rfl rfl cb8 rfl rfl rfl rfl rfl rfl rfl rfl (s0 (sto rfl rfl (sB (d' := .agg [.d (eS p0.Name), .slc 2 7 0 ((([] : List ApiColumn) ++ p0.Cols).length) none, .slc 3 1 0 ((([] : List Int) ++ p0.Primary).length) none, .slc 4 6 0 r417.length none, .d (eI p0.Tree)]) ts26 rfl rfl rfl rfl rfl rfl rfl)) (snp (srp (s1 (far (k := 4) rfl fo26_4 ts3 rfl) (s0 (sto (b := .d (eI (100 : Int))) rfl rfl (sB (d' := .agg [.d (eS p0.Name), .slc 2 7 0 ((([] : List ApiColumn) ++ p0.Cols).length) none, .slc 3 1 0 ((([] : List Int) ++ p0.Primary).length) none, .slc 4 6 0 r417.length none, .d (eI (100 : Int))]) ts3 rfl rfl rfl rfl rfl rfl rfl)) (snp ?_)))))))))
   refine srQ (sgQ 0 rfl (by intro j w hh; cases hh <;> decide) (s1 (bld rfl (bd36_ )) (SO.nil (sgQ 1 rfl (by intro j w hh; cases hh <;> decide) (s1 (bxo (k := 5) rfl rfl rfl) (SO.nil ?_))))))
   (refine plR (f := (eL 6 eApiEntry)) (z := ([] : List ApiEntry)) (k := 5) (σ := [.box (.agg [.d (eS p0.Name), .slc 2 7 0 ((([] : List ApiColumn) ++ p0.Cols).length) none, .slc 3 1 0 ((([] : List Int) ++ p0.Primary).length) none, .slc 4 6 0 r417.length none, .d (eI (100 : Int))]), .box (.agg [.d (eS p0.Name), .slc 2 7 0 ((([] : List ApiColumn) ++ p0.Cols).length) none, .slc 3 1 0 ((([] : List Int) ++ p0.Primary).length) none, .slc 4 6 0 r417.length none, .d (eI p0.Tree)]), .row 7 (List.map eApiColumn (([] : List ApiColumn) ++ p0.Cols)) true, .row 1 (List.map eI (([] : List Int) ++ p0.Primary)) true, .row 6 (List.map eApiIndex r417) true]) (v := .d (.agg [.nils])) h0 rfl rfl rfl (AWs.cons (AW.nl _) AWs.nil) rfl rfl (fun b418 h0 => ?_))
   refine sgQ 2 rfl (by intro j w hh; cases hh <;> decide) (s1 (bld rfl (bd38_0_1 (100 : Int) b418)) (SO.nil (sgQ 3 rfl (by intro j w hh; cases hh <;> decide) (s1 (bsn (k := 5) (ds := List.map eGranarylaw19Tree [(Granarylaw19Tree.mk (100 : Int) b418)]) (off := 0) (l' := [(Granarylaw19Tree.mk (100 : Int) b418)].length) rfl un39 ei38 rfl rfl (by rfl) rfl rfl rfl) (SO.nil (sgQ 4 rfl (by intro j w hh; cases hh <;> decide) (sa rfl (SO.nil (SOp.nil ?_)))))))))
   refine SCp.seqC h0 (fun y => (⟨mk 203 [(1, .d ((eL 2 eFanBuilt) p1)), (2, .d ((eL 3 eApiValue) p2)), (3, .d ((eL 3 eApiValue) p3)), (4, .ref 0 0 0), (9, .slc 1 2 0 y.2.1.length none)], [.box (.agg [.d (eS p0.Name), .slc 2 7 0 ((([] : List ApiColumn) ++ p0.Cols).length) none, .slc 3 1 0 ((([] : List Int) ++ p0.Primary).length) none, .slc 4 6 0 y.2.2.length none, .d (eI (100 : Int))]), .row 2 (List.map eGranarylaw19Tree y.2.1) true, .row 7 (List.map eApiColumn (([] : List ApiColumn) ++ p0.Cols)) true, .row 1 (List.map eI (([] : List Int) ++ p0.Primary)) true, .row 6 (List.map eApiIndex y.2.2) true]⟩, (plM (eL 6 eApiEntry)) y.1)) ?_ ?_
   ·intro κ h0
    refine srp (sa rfl (snp (SCp.blk (SCp.loopC h0 (fun y => (⟨mk 203 [(1, .d ((eL 2 eFanBuilt) p1)), (2, .d ((eL 3 eApiValue) p2)), (3, .d ((eL 3 eApiValue) p3)), (4, .ref 0 0 0), (9, .slc 1 2 0 y.2.1.length none), (10, .d (eI y.2.2.1))], [.box (.agg [.d (eS p0.Name), .slc 2 7 0 ((([] : List ApiColumn) ++ p0.Cols).length) none, .slc 3 1 0 ((([] : List Int) ++ p0.Primary).length) none, .slc 4 6 0 y.2.2.2.length none, .d (eI (100 : Int))]), .row 2 (List.map eGranarylaw19Tree y.2.1) true, .row 7 (List.map eApiColumn (([] : List ApiColumn) ++ p0.Cols)) true, .row 1 (List.map eI (([] : List Int) ++ p0.Primary)) true, .row 6 (List.map eApiIndex y.2.2.2) true]⟩, (plM (eL 6 eApiEntry)) y.1)) (WkP.of (wc [0, 5, 2, 3, 4] [0, 5] (by kernel_rfl) rfl (by kernel_rfl)) rfl) ?_))))
    intro ρ
    rintro ⟨y442, y443, y444, y445⟩ h0
    refine sqp (srp (sm rfl (s1 (far (k := 3) rfl fo26_3 ts24 rfl) (s1 (lod rfl (ld_box ts24 ta24 rfl rfl)) (s1 (len rfl rfl rfl (len_slc un24)) (s1 (bi rfl rfl q_i64_lss) (snp (cBp h0 rfl (fun h0 => ?_) (fun h0 => ?_)))))))))
    ·obtain ⟨v453, hv453, h0⟩ := ob h0
     refine skp (sqp (SCp.blk (srp (s1 (far (k := 3) rfl fo26_3 ts24 rfl) (s1 (lod rfl (ld_box ts24 ta24 rfl rfl)) (sm rfl (sm rfl (s1 (bi rfl rfl q_i64_add) (s1 (iaz rfl rfl un24 ts42 (getI_lt hv453)) ?_)))))))))
     refine s1 (far (k := 5) rfl fo42_5 ts3 rfl) (s0 (sto (b := .d (eI (w64 ((101 : Int) + y444)))) rfl rfl (sF (f := eApiIndex) (v := (ApiIndex.mk v453.Name v453.Parts v453.Extra v453.Unique v453.Ready (w64 ((101 : Int) + y444)))) (ds := [(eI (w64 ((101 : Int) + y444)))]) ts3 rfl rfl rfl rfl (getI_some hv453).2 rfl rfl rfl rfl)) (snp (SCp.regionQ (sgQ 0 rfl (by intro j w hh; cases hh <;> decide) (sm rfl (SO.nil (sgQ 1 rfl (by intro j w hh; cases hh <;> decide) (sm rfl (SO.nil ?_)))))))))
     refine sgQ 2 rfl (by intro j w hh; cases hh <;> decide) (s1 (bi rfl rfl q_i64_add) (SO.nil (sgQ 3 rfl (by intro j w hh; cases hh <;> decide) (s1 (bld rfl (bd36_ )) (SO.nil (sgQ 4 rfl (by intro j w hh; cases hh <;> decide) (s1 (bxo (k := 5) rfl rfl rfl) (SO.nil ?_))))))))
     (refine plR (f := (eL 6 eApiEntry)) (z := ([] : List ApiEntry)) (k := 5) (σ := [.box (.agg [.d (eS p0.Name), .slc 2 7 0 ((([] : List ApiColumn) ++ p0.Cols).length) none, .slc 3 1 0 ((([] : List Int) ++ p0.Primary).length) none, .slc 4 6 0 y445.length none, .d (eI (100 : Int))]), .row 2 (List.map eGranarylaw19Tree y443) true, .row 7 (List.map eApiColumn (([] : List ApiColumn) ++ p0.Cols)) true, .row 1 (List.map eI (([] : List Int) ++ p0.Primary)) true, .row 6 (List.map eApiIndex (List.set y445 y444.toNat (ApiIndex.mk v453.Name v453.Parts v453.Extra v453.Unique v453.Ready (w64 ((101 : Int) + y444))))) true]) (v := .d (.agg [.nils])) h0 rfl rfl rfl (AWs.cons (AW.nl _) AWs.nil) rfl rfl (fun b454 h0 => ?_))
     obtain ⟨hg455, h0⟩ := gd h0
     refine sgQ 5 rfl (by intro j w hh; cases hh <;> decide) (s1 (bld rfl (bd38_0_1 (w64 ((101 : Int) + y444)) b454)) (SO.nil (sgQ 6 rfl (by intro j w hh; cases hh <;> decide) (s1 (bsn (k := 5) (ds := List.map eGranarylaw19Tree [(Granarylaw19Tree.mk (w64 ((101 : Int) + y444)) b454)]) (off := 0) (l' := [(Granarylaw19Tree.mk (w64 ((101 : Int) + y444)) b454)].length) rfl un39 ei38 rfl rfl (by rfl) rfl rfl rfl) (SO.nil (sgQ 7 rfl (by intro j w hh; cases hh <;> decide) (s1 (app rfl rfl rfl rfl bc39 (aF (f := eGranarylaw19Tree) (xs := y443) (k := 6) rfl un39 ei38 rfl (el_full (xs := [(Granarylaw19Tree.mk (w64 ((101 : Int) + y444)) b454)]) rfl) hg455 rfl)) (SO.nil (sgQ 8 rfl (by intro j w hh; cases hh <;> decide) ?_)))))))))
     refine sa rfl (SO.nil (SOp.nil ?_))
     change SCp _ _ _ _ _ _
     exact SCp.region (sm rfl (s1 (bi rfl rfl q_i64_add) (sa rfl (SO.nil (lfc h0 (Wk.trans (wq (e' := [(1, .d ((eL 2 eFanBuilt) p1)), (2, .d ((eL 3 eApiValue) p2)), (3, .d ((eL 3 eApiValue) p3)), (4, .ref 0 0 0), (9, .slc 6 2 0 ((y443 ++ [(Granarylaw19Tree.mk (w64 ((101 : Int) + y444)) b454)]).length) none), (10, .d (eI (w64 (y444 + (1 : Int)))))]) rfl) (Wk.trans (Wk.boxE (id := 0) (y := .agg [.d (eS p0.Name), .slc 2 7 0 ((([] : List ApiColumn) ++ p0.Cols).length) none, .slc 3 1 0 ((([] : List Int) ++ p0.Primary).length) none, .slc 4 6 0 ((List.set y445 y444.toNat (ApiIndex.mk v453.Name v453.Parts v453.Extra v453.Unique v453.Ready (w64 ((101 : Int) + y444)))).length) none, .d (eI (100 : Int))]) (σ' := [.box (.agg [.d (eS p0.Name), .slc 2 7 0 ((([] : List ApiColumn) ++ p0.Cols).length) none, .slc 3 1 0 ((([] : List Int) ++ p0.Primary).length) none, .slc 4 6 0 ((List.set y445 y444.toNat (ApiIndex.mk v453.Name v453.Parts v453.Extra v453.Unique v453.Ready (w64 ((101 : Int) + y444)))).length) none, .d (eI (100 : Int))]), .dead, .row 7 (List.map eApiColumn (([] : List ApiColumn) ++ p0.Cols)) true, .row 1 (List.map eI (([] : List Int) ++ p0.Primary)) true, .row 6 (List.map eApiIndex (List.set y445 y444.toNat (ApiIndex.mk v453.Name v453.Parts v453.Extra v453.Unique v453.Ready (w64 ((101 : Int) + y444))))) true, .row 2 (List.map eGranarylaw19Tree [(Granarylaw19Tree.mk (w64 ((101 : Int) + y444)) b454)]) true, .row 2 (List.map eGranarylaw19Tree (y443 ++ [(Granarylaw19Tree.mk (w64 ((101 : Int) + y444)) b454)])) true]) rfl (AWs.cons (AW.refl _) (AWs.cons (AW.refl _) (AWs.cons (AW.refl _) (AWs.cons (AW.slc rfl (by simp)) (AWs.cons (AW.refl _) AWs.nil))))) rfl) (wc [0, 6, 2, 3, 4] [0, 6] (by kernel_rfl) rfl (by kernel_rfl)))) rfl)))))
    ·exact SCp.exit (lfc h0 (wq rfl) rfl)
   ·rintro ⟨y436, y437, y438⟩ h0
    obtain ⟨⟨r457, r458, r459, r460⟩, hq456, h0⟩ := ob h0; obtain ⟨⟨r462, r463, r464, r465⟩, hq461, h0⟩ := ob h0; obtain ⟨⟨r467, r468, r469, r470⟩, hq466, h0⟩ := ob h0; obtain ⟨⟨r472, r473, r474, r475⟩, hq471, h0⟩ := ob h0
    refine srp (s1 (lod (v := .agg [.d (eS p0.Name), .slc 2 7 0 ((([] : List ApiColumn) ++ p0.Cols).length) none, .slc 3 1 0 ((([] : List Int) ++ p0.Primary).length) none, .slc 4 6 0 y438.length none, .d (eI (100 : Int))]) rfl (ld_box ts26 ta26 rfl rfl)) (sm rfl (sm rfl (cq (args' := [.agg [.d (eS p0.Name), .slc 0 7 0 ((([] : List ApiColumn) ++ p0.Cols).length) none, .slc 1 1 0 ((([] : List Int) ++ p0.Primary).length) none, .slc 2 6 0 y438.length none, .d (eI (100 : Int))], .d ((eL 2 eFanBuilt) p1), .d .nils, .d ((eL 3 eApiValue) p2)]) (σc := [.row 7 (List.map eApiColumn (([] : List ApiColumn) ++ p0.Cols)) true, .row 1 (List.map eI (([] : List Int) ++ p0.Primary)) true, .row 6 (List.map eApiIndex y438) true]) [2, 3, 4] [5, 6, 7, 8] (CallAt.frz (ArgF.frzw (y := .d (eApiTable (ApiTable.mk p0.Name (([] : List ApiColumn) ++ p0.Cols) (([] : List Int) ++ p0.Primary) y438 (100 : Int)))) rfl (frzs_d rfl (frzs_slc (fF rfl rfl rfl) (frzs_slc (fF rfl rfl rfl) (frzs_slc (fF rfl rfl rfl) (frzs_d rfl frzs_nil))))) (AW.aggd rfl (AWs.cons (AW.refl _) (AWs.cons (AW.refl _) (AWs.cons (AW.refl _) (AWs.cons (AW.refl _) (AWs.cons (AW.refl _) AWs.nil)))))) (ArgF.keep (ArgF.aw (AW.nl _) (ArgF.keep (ArgF.nil _))))) (fq [] [3, 4, 5, 6] (fan_Change_ok (ApiTable.mk p0.Name (([] : List ApiColumn) ++ p0.Cols) (([] : List Int) ++ p0.Primary) y438 (100 : Int)) p1 ([] : List ApiValue) p2 _ hq456) rfl rfl rfl rfl rfl rfl rfl rfl)) wf rfl rfl rfl cb10 rfl rfl rfl rfl rfl rfl rfl rfl ?_))))
    refine sm rfl (s1 (ext rfl rfl) (s1 (ext rfl rfl) (s1 (alo (k := 9) zo50 rfl) (s0 (sto rfl rfl (sB (d' := .agg [.slc 6 9 0 r458.length none, .slc 7 5 0 r459.length none, .slc 8 4 0 r460.length none]) ts50 rfl rfl rfl rfl rfl rfl rfl)) (sa rfl (snp (srp (s1 (lod (v := .agg [.d (eS p0.Name), .slc 2 7 0 ((([] : List ApiColumn) ++ p0.Cols).length) none, .slc 3 1 0 ((([] : List Int) ++ p0.Primary).length) none, .slc 4 6 0 y438.length none, .d (eI (100 : Int))]) rfl (ld_box ts26 ta26 rfl rfl)) (sm rfl ?_)))))))))
    refine sm rfl (sm rfl (cq (args' := [.agg [.d (eS p0.Name), .slc 0 7 0 ((([] : List ApiColumn) ++ p0.Cols).length) none, .slc 1 1 0 ((([] : List Int) ++ p0.Primary).length) none, .slc 2 6 0 y438.length none, .d (eI (100 : Int))], .d ((eL 2 eFanBuilt) p1), .d ((eL 3 eApiValue) p2), .d ((eL 3 eApiValue) p3)]) (σc := [.row 7 (List.map eApiColumn (([] : List ApiColumn) ++ p0.Cols)) false, .row 1 (List.map eI (([] : List Int) ++ p0.Primary)) false, .row 6 (List.map eApiIndex y438) false]) [2, 3, 4] [10, 11, 12, 13] (CallAt.frz (ArgF.frzw (y := .d (eApiTable (ApiTable.mk p0.Name (([] : List ApiColumn) ++ p0.Cols) (([] : List Int) ++ p0.Primary) y438 (100 : Int)))) rfl (frzs_d rfl (frzs_slc (fF rfl rfl rfl) (frzs_slc (fF rfl rfl rfl) (frzs_slc (fF rfl rfl rfl) (frzs_d rfl frzs_nil))))) (AW.aggd rfl (AWs.cons (AW.refl _) (AWs.cons (AW.refl _) (AWs.cons (AW.refl _) (AWs.cons (AW.refl _) (AWs.cons (AW.refl _) AWs.nil)))))) (ArgF.keep (ArgF.keep (ArgF.keep (ArgF.nil _))))) (fq [] [3, 4, 5, 6] (fan_Change_ok (ApiTable.mk p0.Name (([] : List ApiColumn) ++ p0.Cols) (([] : List Int) ++ p0.Primary) y438 (100 : Int)) p1 p2 p3 _ hq461) rfl rfl rfl rfl rfl rfl rfl rfl)) wf rfl rfl rfl cb10 rfl rfl rfl rfl rfl rfl rfl rfl (sm rfl (s1 (ext rfl rfl) (s1 (ext rfl rfl) (s1 (alo (k := 14) zo50 rfl) (s0 (sto rfl rfl (sB (d' := .agg [.slc 11 9 0 r463.length none, .slc 12 5 0 r464.length none, .slc 13 4 0 r465.length none]) ts50 rfl rfl rfl rfl rfl rfl rfl)) ?_)))))))
    refine sa rfl (snp (srp (s1 (lod (v := .agg [.d (eS p0.Name), .slc 2 7 0 ((([] : List ApiColumn) ++ p0.Cols).length) none, .slc 3 1 0 ((([] : List Int) ++ p0.Primary).length) none, .slc 4 6 0 y438.length none, .d (eI (100 : Int))]) rfl (ld_box ts26 ta26 rfl rfl)) (sm rfl (sm rfl (sm rfl (cq (args' := [.agg [.d (eS p0.Name), .slc 0 7 0 ((([] : List ApiColumn) ++ p0.Cols).length) none, .slc 1 1 0 ((([] : List Int) ++ p0.Primary).length) none, .slc 2 6 0 y438.length none, .d (eI (100 : Int))], .d ((eL 2 eFanBuilt) p1), .d ((eL 3 eApiValue) p3), .d ((eL 3 eApiValue) p2)]) (σc := [.row 7 (List.map eApiColumn (([] : List ApiColumn) ++ p0.Cols)) false, .row 1 (List.map eI (([] : List Int) ++ p0.Primary)) false, .row 6 (List.map eApiIndex y438) false]) [2, 3, 4] [15, 16, 17, 18] (CallAt.frz (ArgF.frzw (y := .d (eApiTable (ApiTable.mk p0.Name (([] : List ApiColumn) ++ p0.Cols) (([] : List Int) ++ p0.Primary) y438 (100 : Int)))) rfl (frzs_d rfl (frzs_slc (fF rfl rfl rfl) (frzs_slc (fF rfl rfl rfl) (frzs_slc (fF rfl rfl rfl) (frzs_d rfl frzs_nil))))) (AW.aggd rfl (AWs.cons (AW.refl _) (AWs.cons (AW.refl _) (AWs.cons (AW.refl _) (AWs.cons (AW.refl _) (AWs.cons (AW.refl _) AWs.nil)))))) (ArgF.keep (ArgF.keep (ArgF.keep (ArgF.nil _))))) (fq [] [3, 4, 5, 6] (fan_Change_ok (ApiTable.mk p0.Name (([] : List ApiColumn) ++ p0.Cols) (([] : List Int) ++ p0.Primary) y438 (100 : Int)) p1 p3 p2 _ hq466) rfl rfl rfl rfl rfl rfl rfl rfl)) wf rfl rfl rfl cb10 rfl rfl rfl rfl rfl rfl rfl rfl ?_)))))))
    refine sm rfl (s1 (ext rfl rfl) (s1 (ext rfl rfl) (s1 (alo (k := 19) zo50 rfl) (s0 (sto rfl rfl (sB (d' := .agg [.slc 16 9 0 r468.length none, .slc 17 5 0 r469.length none, .slc 18 4 0 r470.length none]) ts50 rfl rfl rfl rfl rfl rfl rfl)) (sa rfl (snp (srp (s1 (lod (v := .agg [.d (eS p0.Name), .slc 2 7 0 ((([] : List ApiColumn) ++ p0.Cols).length) none, .slc 3 1 0 ((([] : List Int) ++ p0.Primary).length) none, .slc 4 6 0 y438.length none, .d (eI (100 : Int))]) rfl (ld_box ts26 ta26 rfl rfl)) (sm rfl ?_)))))))))
    refine sm rfl (cq (args' := [.agg [.d (eS p0.Name), .slc 0 7 0 ((([] : List ApiColumn) ++ p0.Cols).length) none, .slc 1 1 0 ((([] : List Int) ++ p0.Primary).length) none, .slc 2 6 0 y438.length none, .d (eI (100 : Int))], .d ((eL 2 eFanBuilt) p1), .d ((eL 3 eApiValue) p2), .d .nils]) (σc := [.row 7 (List.map eApiColumn (([] : List ApiColumn) ++ p0.Cols)) false, .row 1 (List.map eI (([] : List Int) ++ p0.Primary)) false, .row 6 (List.map eApiIndex y438) false]) [2, 3, 4] [20, 21, 22, 23] (CallAt.frz (ArgF.frzw (y := .d (eApiTable (ApiTable.mk p0.Name (([] : List ApiColumn) ++ p0.Cols) (([] : List Int) ++ p0.Primary) y438 (100 : Int)))) rfl (frzs_d rfl (frzs_slc (fF rfl rfl rfl) (frzs_slc (fF rfl rfl rfl) (frzs_slc (fF rfl rfl rfl) (frzs_d rfl frzs_nil))))) (AW.aggd rfl (AWs.cons (AW.refl _) (AWs.cons (AW.refl _) (AWs.cons (AW.refl _) (AWs.cons (AW.refl _) (AWs.cons (AW.refl _) AWs.nil)))))) (ArgF.keep (ArgF.keep (ArgF.aw (AW.nl _) (ArgF.nil _))))) (fq [] [3, 4, 5, 6] (fan_Change_ok (ApiTable.mk p0.Name (([] : List ApiColumn) ++ p0.Cols) (([] : List Int) ++ p0.Primary) y438 (100 : Int)) p1 p2 ([] : List ApiValue) _ hq471) rfl rfl rfl rfl rfl rfl rfl rfl)) wf rfl rfl rfl cb10 rfl rfl rfl rfl rfl rfl rfl rfl (sm rfl (s1 (ext rfl rfl) (s1 (ext rfl rfl) (s1 (alo (k := 24) zo50 rfl) (s0 (sto rfl rfl (sB (d' := .agg [.slc 21 9 0 r473.length none, .slc 22 5 0 r474.length none, .slc 23 4 0 r475.length none]) ts50 rfl rfl rfl rfl rfl rfl rfl)) ?_))))))
    refine sa rfl (snp (sqp (SCp.seqP h0 (fun y => (⟨mk 203 [(4, .ref 0 0 0), (9, .slc 1 2 0 y437.length none), (11, .ref 2 0 0), (13, .ref 3 0 0), (15, .ref 4 0 0), (17, .ref 5 0 0), (110, .d (eB y))], [.box (.agg [.d (eS p0.Name), .slc 6 7 0 ((([] : List ApiColumn) ++ p0.Cols).length) none, .slc 7 1 0 ((([] : List Int) ++ p0.Primary).length) none, .slc 8 6 0 y438.length none, .d (eI (100 : Int))]), .row 2 (List.map eGranarylaw19Tree y437) true, .box (.agg [.slc 9 9 0 r458.length none, .slc 10 5 0 r459.length none, .slc 11 4 0 r460.length none]), .box (.agg [.slc 12 9 0 r463.length none, .slc 13 5 0 r464.length none, .slc 14 4 0 r465.length none]), .box (.agg [.slc 15 9 0 r468.length none, .slc 16 5 0 r469.length none, .slc 17 4 0 r470.length none]), .box (.agg [.slc 18 9 0 r473.length none, .slc 19 5 0 r474.length none, .slc 20 4 0 r475.length none]), .row 7 (List.map eApiColumn (([] : List ApiColumn) ++ p0.Cols)) false, .row 1 (List.map eI (([] : List Int) ++ p0.Primary)) false, .row 6 (List.map eApiIndex y438) false, .row 9 (List.map eForestOp r458) true, .row 5 (List.map eApiLock r459) true, .row 4 (List.map eFanProbe r460) true, .row 9 (List.map eForestOp r463) true, .row 5 (List.map eApiLock r464) true, .row 4 (List.map eFanProbe r465) true, .row 9 (List.map eForestOp r468) true, .row 5 (List.map eApiLock r469) true, .row 4 (List.map eFanProbe r470) true, .row 9 (List.map eForestOp r473) true, .row 5 (List.map eApiLock r474) true, .row 4 (List.map eFanProbe r475) true]⟩, (plM (eL 6 eApiEntry)) y436)) ?_ ?_)))
    ·intro u1_477 h1
     refine SCp.region (sm rfl (s1 (bi rfl rfl q_i64_neq) (sm rfl (sp h1 (fun h1 => ?_) (fun h1 => ?_)))))
     ·have q := si h1; subst q
      refine kw rfl (kw rfl (s1 (pkt rfl rfl) (sm rfl (kw rfl (kw rfl (s1 (pkt rfl rfl) (sm rfl (kw rfl (kw rfl ?_)))))))))
      refine s1 (pkt rfl rfl) (sm rfl (kw rfl (kw rfl (kw rfl (s1 (pkt rfl rfl) (sm rfl (kw rfl (kw rfl (kw rfl ?_)))))))))
      exact s1 (pkt rfl rfl) (SO.nil (WkP.of (wc [0, 1, 9, 14, 19, 24, 2, 3, 4, 6, 7, 8, 11, 12, 13, 16, 17, 18, 21, 22, 23] [0, 1, 9, 14, 19, 24] (by kernel_rfl) rfl (by kernel_rfl)) rfl))
     ·refine gw rfl (mv rfl) (gw rfl (bi rfl rfl q_i64_neq) (s1 (pkf rfl rfl) (sm rfl (sp h1 (fun h1 => ?_) (fun h1 => ?_)))))
      ·have q := si h1; subst q
       refine kw rfl (kw rfl (s1 (pkt rfl rfl) (sm rfl (kw rfl (kw rfl (s1 (pkt rfl rfl) (sm rfl (kw rfl (kw rfl ?_)))))))))
       exact kw rfl (s1 (pkt rfl rfl) (sm rfl (kw rfl (kw rfl (kw rfl (s1 (pkt rfl rfl) (SO.nil (WkP.of (wc [0, 1, 9, 14, 19, 24, 2, 3, 4, 6, 7, 8, 11, 12, 13, 16, 17, 18, 21, 22, 23] [0, 1, 9, 14, 19, 24] (by kernel_rfl) rfl (by kernel_rfl)) rfl))))))))
      ·refine gw rfl (mv rfl) (gw rfl (bi rfl rfl q_i64_neq) (s1 (pkf rfl rfl) (sm rfl (sp h1 (fun h1 => ?_) (fun h1 => ?_)))))
       ·have q := si h1; subst q
        refine kw rfl (kw rfl (s1 (pkt rfl rfl) (sm rfl (kw rfl (kw rfl (kw rfl (s1 (pkt rfl rfl) (sm rfl (kw rfl ?_)))))))))
        exact kw rfl (kw rfl (s1 (pkt rfl rfl) (SO.nil (WkP.of (wc [0, 1, 9, 14, 19, 24, 2, 3, 4, 6, 7, 8, 11, 12, 13, 16, 17, 18, 21, 22, 23] [0, 1, 9, 14, 19, 24] (by kernel_rfl) rfl (by kernel_rfl)) rfl))))
       ·refine gw rfl (mv rfl) (gw rfl (bi rfl rfl q_i64_neq) (s1 (pkf rfl rfl) (sm rfl (sp h1 (fun h1 => ?_) (fun h1 => ?_)))))
        ·have q := si h1; subst q
         refine kw rfl (kw rfl (kw rfl (s1 (pkt rfl rfl) (sm rfl (kw rfl (kw rfl (kw rfl (s1 (pkt rfl rfl) (SO.nil ?_)))))))))
         exact WkP.of (wc [0, 1, 9, 14, 19, 24, 2, 3, 4, 6, 7, 8, 11, 12, 13, 16, 17, 18, 21, 22, 23] [0, 1, 9, 14, 19, 24] (by kernel_rfl) rfl (by kernel_rfl)) rfl
        ·refine gw rfl (mv rfl) (gw rfl (len rfl rfl rfl (len_lst un43)) (gw rfl (bi rfl rfl q_i64_eql) (s1 (pkf rfl rfl) (sm rfl (sp h1 (fun h1 => ?_) (fun h1 => ?_))))))
         ·have q := si h1; subst q
          exact kw rfl (kw rfl (kw rfl (s1 (pkt rfl rfl) (SO.nil (WkP.of (wc [0, 1, 9, 14, 19, 24, 2, 3, 4, 6, 7, 8, 11, 12, 13, 16, 17, 18, 21, 22, 23] [0, 1, 9, 14, 19, 24] (by kernel_rfl) rfl (by kernel_rfl)) rfl)))))
         ·have q := si h1; subst q
          exact gw rfl (mv rfl) (gw rfl (len rfl rfl rfl (len_lst un43)) (gw rfl (bi rfl rfl q_i64_eql) (s1 (pkf rfl rfl) (SO.nil (WkP.of (wc [0, 1, 9, 14, 19, 24, 2, 3, 4, 6, 7, 8, 11, 12, 13, 16, 17, 18, 21, 22, 23] [0, 1, 9, 14, 19, 24] (by kernel_rfl) rfl (by kernel_rfl)) rfl)))))
    ·rintro y476 h0
     refine cBp h0 rfl (fun h0 => ?_) (fun h0 => ?_)
     ·have q := si h0; subst q
      exact srp (sa rfl (snp (SCp.ret (finRr (wc (e' := [(8, .d (eB true))]) [] [] (by kernel_rfl) rfl (by kernel_rfl)) (lresT rfl lresN) rfl))))
     ·obtain ⟨⟨r479, r480⟩, hq478, h0⟩ := ob h0
      refine skp (sqp (srQ (sgQ 0 rfl (by intro j w hh; cases hh <;> decide) (sm rfl (SO.nil (sgQ 1 rfl (by intro j w hh; cases hh <;> decide) (s1 (far (k := 0) rfl fo50_0 ts46 rfl) (SO.nil (sgQ 2 rfl (by intro j w hh; cases hh <;> decide) ?_)))))))))
      refine s1 (lod rfl (ld_box ts46 ta46 rfl rfl)) (SO.nil (SOp.wk (Wk.frz (i := 111) (x := .slc 1 2 0 y437.length none) rfl rfl (fF rfl rfl rfl)) (SOp.wk (Wk.frz (i := 113) (x := .slc 9 9 0 r458.length none) rfl rfl (fF rfl rfl rfl)) (pcQ (law19_run_ok y437 r458 y436 _ hq478) wf rfl rfl rfl cb11 rfl rfl id (sgQ 4 rfl (by intro j w hh; cases hh <;> decide) (s1 (nt rfl) (SO.nil (SOp.nil (cBp h0 rfl (fun h0 => ?_) (fun h0 => ?_))))))))))
      ·have q := si h0; subst q
       exact srp (sa rfl (snp (SCp.ret (finRr (wc (e' := [(8, .d (eB false))]) [] [] (by kernel_rfl) rfl (by kernel_rfl)) (lresT rfl lresN) rfl))))
      ·refine skp (srp (s1 (asg (v := .d .nils) rfl) (snp (SCp.seqP h0 (fun y => (⟨mk 203 [(4, .ref 0 0 0), (9, .slc 1 2 0 y437.length none), (11, .ref 2 0 0), (13, .ref 3 0 0), (15, .ref 4 0 0), (17, .ref 5 0 0), (19, .slc 6 1 0 y.length none)], [.box (.agg [.d (eS p0.Name), .slc 7 7 0 ((([] : List ApiColumn) ++ p0.Cols).length) none, .slc 8 1 0 ((([] : List Int) ++ p0.Primary).length) none, .slc 9 6 0 y438.length none, .d (eI (100 : Int))]), .row 2 (List.map eGranarylaw19Tree y437) false, .box (.agg [.slc 10 9 0 r458.length none, .slc 11 5 0 r459.length none, .slc 12 4 0 r460.length none]), .box (.agg [.slc 13 9 0 r463.length none, .slc 14 5 0 r464.length none, .slc 15 4 0 r465.length none]), .box (.agg [.slc 16 9 0 r468.length none, .slc 17 5 0 r469.length none, .slc 18 4 0 r470.length none]), .box (.agg [.slc 19 9 0 r473.length none, .slc 20 5 0 r474.length none, .slc 21 4 0 r475.length none]), .row 1 (List.map (eL 6 eApiEntry) y) true, .row 7 (List.map eApiColumn (([] : List ApiColumn) ++ p0.Cols)) false, .row 1 (List.map eI (([] : List Int) ++ p0.Primary)) false, .row 6 (List.map eApiIndex y438) false, .row 9 (List.map eForestOp r458) false, .row 5 (List.map eApiLock r459) true, .row 4 (List.map eFanProbe r460) true, .row 9 (List.map eForestOp r463) true, .row 5 (List.map eApiLock r464) true, .row 4 (List.map eFanProbe r465) true, .row 9 (List.map eForestOp r468) true, .row 5 (List.map eApiLock r469) true, .row 4 (List.map eFanProbe r470) true, .row 9 (List.map eForestOp r473) true, .row 5 (List.map eApiLock r474) true, .row 4 (List.map eFanProbe r475) true]⟩, (plM (eL 6 eApiEntry)) r479)) ?_ ?_))))
       ·intro u1_501 h1
        obtain ⟨u2_515, h2, h1⟩ := ob h1
        refine srp (sa rfl (snp (SCp.blk (SCp.loopB h2 (fun y => (⟨mk 203 [(4, .ref 0 0 0), (9, .slc 1 2 0 y437.length none), (11, .ref 2 0 0), (13, .ref 3 0 0), (15, .ref 4 0 0), (17, .ref 5 0 0), (19, .slc 6 1 0 y.1.length none), (20, .d (eI y.2))], [.box (.agg [.d (eS p0.Name), .slc 7 7 0 ((([] : List ApiColumn) ++ p0.Cols).length) none, .slc 8 1 0 ((([] : List Int) ++ p0.Primary).length) none, .slc 9 6 0 y438.length none, .d (eI (100 : Int))]), .row 2 (List.map eGranarylaw19Tree y437) false, .box (.agg [.slc 10 9 0 r458.length none, .slc 11 5 0 r459.length none, .slc 12 4 0 r460.length none]), .box (.agg [.slc 13 9 0 r463.length none, .slc 14 5 0 r464.length none, .slc 15 4 0 r465.length none]), .box (.agg [.slc 16 9 0 r468.length none, .slc 17 5 0 r469.length none, .slc 18 4 0 r470.length none]), .box (.agg [.slc 19 9 0 r473.length none, .slc 20 5 0 r474.length none, .slc 21 4 0 r475.length none]), .row 1 (List.map (eL 6 eApiEntry) y.1) true, .row 7 (List.map eApiColumn (([] : List ApiColumn) ++ p0.Cols)) false, .row 1 (List.map eI (([] : List Int) ++ p0.Primary)) false, .row 6 (List.map eApiIndex y438) false, .row 9 (List.map eForestOp r458) false, .row 5 (List.map eApiLock r459) true, .row 4 (List.map eFanProbe r460) true, .row 9 (List.map eForestOp r463) true, .row 5 (List.map eApiLock r464) true, .row 4 (List.map eFanProbe r465) true, .row 9 (List.map eForestOp r468) true, .row 5 (List.map eApiLock r469) true, .row 4 (List.map eFanProbe r470) true, .row 9 (List.map eForestOp r473) true, .row 5 (List.map eApiLock r474) true, .row 4 (List.map eFanProbe r475) true]⟩, (plM (eL 6 eApiEntry)) r479)) (WkP.of (Wk.trans (Wk.pushE (σ' := [.box (.agg [.d (eS p0.Name), .slc 6 7 0 ((([] : List ApiColumn) ++ p0.Cols).length) none, .slc 7 1 0 ((([] : List Int) ++ p0.Primary).length) none, .slc 8 6 0 y438.length none, .d (eI (100 : Int))]), .row 2 (List.map eGranarylaw19Tree y437) false, .box (.agg [.slc 9 9 0 r458.length none, .slc 10 5 0 r459.length none, .slc 11 4 0 r460.length none]), .box (.agg [.slc 12 9 0 r463.length none, .slc 13 5 0 r464.length none, .slc 14 4 0 r465.length none]), .box (.agg [.slc 15 9 0 r468.length none, .slc 16 5 0 r469.length none, .slc 17 4 0 r470.length none]), .box (.agg [.slc 18 9 0 r473.length none, .slc 19 5 0 r474.length none, .slc 20 4 0 r475.length none]), .row 7 (List.map eApiColumn (([] : List ApiColumn) ++ p0.Cols)) false, .row 1 (List.map eI (([] : List Int) ++ p0.Primary)) false, .row 6 (List.map eApiIndex y438) false, .row 9 (List.map eForestOp r458) false, .row 5 (List.map eApiLock r459) true, .row 4 (List.map eFanProbe r460) true, .row 9 (List.map eForestOp r463) true, .row 5 (List.map eApiLock r464) true, .row 4 (List.map eFanProbe r465) true, .row 9 (List.map eForestOp r468) true, .row 5 (List.map eApiLock r469) true, .row 4 (List.map eFanProbe r470) true, .row 9 (List.map eForestOp r473) true, .row 5 (List.map eApiLock r474) true, .row 4 (List.map eFanProbe r475) true, .row 1 (List.map (eL 6 eApiEntry) ([] : List (List ApiEntry))) true]) (.row 1 [] true) (fun _ hh => by cases hh) rfl) (Wk.trans (Wk.env (e' := [(4, .ref 0 0 0), (9, .slc 1 2 0 y437.length none), (11, .ref 2 0 0), (13, .ref 3 0 0), (15, .ref 4 0 0), (17, .ref 5 0 0), (19, .slc 21 1 0 (([] : List (List ApiEntry)).length) none), (20, .d (eI (0 : Int)))]) (EW.cons (AW.refl _) (EW.cons (AW.refl _) (EW.cons (AW.refl _) (EW.cons (AW.refl _) (EW.cons (AW.refl _) (EW.cons (AW.refl _) (EW.cons (AW.slcn _ _ _) (EW.cons (AW.refl _) EW.nil))))))))) (wc [0, 1, 2, 3, 4, 5, 21, 6, 7, 8, 9, 10, 11, 12, 13, 14, 15, 16, 17, 18, 19, 20] [0, 1, 2, 3, 4, 5, 21] (by kernel_rfl) rfl (by kernel_rfl)))) rfl) ?_))))
        intro n520
        rintro ⟨y506, y507⟩ w2_514 h3 hv3
        refine sqp (srp (sm rfl (sm rfl (s1 (len rfl rfl rfl (len_slc un39)) (s1 (bi rfl rfl q_i64_lss) (snp (cBp h3 rfl (fun h3 => ?_) (fun h3 => ?_))))))))
        ·obtain ⟨v517, hv517, h3⟩ := ob h3; obtain ⟨v518, hv518, h3⟩ := ob h3; obtain ⟨hg519, h3⟩ := gd h3
         refine skp (sqp (SCp.blk (SCp.regionQ (sgQ 0 rfl (by intro j w hh; cases hh <;> decide) (sm rfl (SO.nil (sgQ 1 rfl (by intro j w hh; cases hh <;> decide) (sm rfl (SO.nil ?_)))))))))
         refine sgQ 2 rfl (by intro j w hh; cases hh <;> decide) (sm rfl (SO.nil (sgQ 3 rfl (by intro j w hh; cases hh <;> decide) (s1 (iaz rfl rfl un39 ts38 (getI_lt hv517)) (SO.nil (sgQ 4 rfl (by intro j w hh; cases hh <;> decide) (s1 (far (k := 1) rfl fo38_1 ts33 rfl) (SO.nil (sgQ 5 rfl (by intro j w hh; cases hh <;> decide) ?_)))))))))
         refine s1 (lod rfl (ld_row ts33 ta33 rfl (map_get (getI_some hv517).2) rfl)) (SO.nil (stq (StOp.nil rfl) (stq (StOp.fld rfl fz36_0) (stq (StOp.ld rfl (plM_mem hv518) ts34 ta34) (sgQ 9 rfl (by intro j w hh; cases hh <;> decide) (s1 (bsn (k := 22) (ds := List.map (eL 6 eApiEntry) [v518]) (off := 0) (l' := [v518].length) rfl un56 ei34 rfl rfl (by rfl) rfl rfl rfl) (SO.nil (sgQ 10 rfl (by intro j w hh; cases hh <;> decide) (s1 (app rfl rfl rfl rfl bc56 (aF (f := (eL 6 eApiEntry)) (xs := y506) (k := 23) rfl un56 ei34 rfl (el_full (xs := [v518]) rfl) hg519 rfl)) ?_)))))))))
         refine SO.nil (sgQ 11 rfl (by intro j w hh; cases hh <;> decide) (sa rfl (SO.nil (SOp.nil ?_))))
         change SCp _ _ _ _ _ _
         have q := si h3; subst q
         exact SCp.region (sm rfl (s1 (bi rfl rfl q_i64_add) (sa rfl (SO.nil (lfp (wc [0, 1, 2, 3, 4, 5, 23, 7, 8, 9, 10, 11, 12, 13, 14, 15, 16, 17, 18, 19, 20, 21] [0, 1, 2, 3, 4, 5, 23] (by kernel_rfl) rfl (by kernel_rfl)) rfl)))))
        ·have q := si h3; subst q; have q : _ = _ := hv3; subst q; have q := si h1; subst q
         exact SCp.exit (WkP.of (wq rfl) rfl)
       ·rintro y500 h0
        refine sqp (SCp.seqP h0 (fun y => (⟨mk 203 [(4, .ref 0 0 0), (9, .slc 1 2 0 y437.length none), (11, .ref 2 0 0), (13, .ref 3 0 0), (17, .ref 4 0 0), (19, .slc 5 1 0 y500.length none), (144, .d (eB y.2))], [.box (.agg [.d (eS p0.Name), .slc 6 7 0 ((([] : List ApiColumn) ++ p0.Cols).length) none, .slc 7 1 0 ((([] : List Int) ++ p0.Primary).length) none, .slc 8 6 0 y438.length none, .d (eI (100 : Int))]), .row 2 (List.map eGranarylaw19Tree y437) false, .box (.agg [.slc 9 9 0 r458.length none, .slc 10 5 0 r459.length none, .slc 11 4 0 r460.length none]), .box (.agg [.slc 12 9 0 r463.length none, .slc 13 5 0 r464.length none, .slc 14 4 0 r465.length none]), .box (.agg [.slc 15 9 0 r473.length none, .slc 16 5 0 r474.length none, .slc 17 4 0 r475.length none]), .row 1 (List.map (eL 6 eApiEntry) y500) true, .row 7 (List.map eApiColumn (([] : List ApiColumn) ++ p0.Cols)) false, .row 1 (List.map eI (([] : List Int) ++ p0.Primary)) false, .row 6 (List.map eApiIndex y438) false, .row 9 (List.map eForestOp r458) false, .row 5 (List.map eApiLock r459) true, .row 4 (List.map eFanProbe r460) true, .row 9 (List.map eForestOp r463) false, .row 5 (List.map eApiLock r464) true, .row 4 (List.map eFanProbe r465) true, .row 9 (List.map eForestOp r473) true, .row 5 (List.map eApiLock r474) true, .row 4 (List.map eFanProbe r475) true]⟩, (plM (eL 6 eApiEntry)) y.1)) ?_ ?_)
        ·intro u1_529 h1
         obtain ⟨⟨r531, r532⟩, hq530, h1⟩ := ob h1
         refine SCp.regionQ (sgQ 0 rfl (by intro j w hh; cases hh <;> decide) (sm rfl (SO.nil (sgQ 1 rfl (by intro j w hh; cases hh <;> decide) (s1 (far (k := 0) rfl fo50_0 ts46 rfl) (SO.nil (sgQ 2 rfl (by intro j w hh; cases hh <;> decide) (s1 (lod rfl (ld_box ts46 ta46 rfl rfl)) (SO.nil ?_)))))))))
         refine SOp.wk (Wk.frz (i := 133) (x := .slc 1 2 0 y437.length none) rfl rfl (fF rfl rfl rfl)) (SOp.wk (Wk.frz (i := 135) (x := .slc 13 9 0 r463.length none) rfl rfl (fF rfl rfl rfl)) (pcQ (law19_run_ok y437 r463 r479 _ hq530) wf rfl rfl rfl cb11 rfl rfl id (sgQ 4 rfl (by intro j w hh; cases hh <;> decide) (s1 (nt rfl) (SO.nil (sgQ 5 rfl (by intro j w hh; cases hh <;> decide) (sm rfl (SO.nil (spp h1 (fun h1 => ?_) (fun h1 => ?_))))))))))
         ·have q := si h1; subst q
          refine sgQ 6 rfl (by intro j w hh; cases hh <;> decide) (kw rfl (SO.nil (sgQ 7 rfl (by intro j w hh; cases hh <;> decide) (kw rfl (SO.nil (sgQ 8 rfl (by intro j w hh; cases hh <;> decide) (kw rfl (SO.nil (sgQ 9 rfl (by intro j w hh; cases hh <;> decide) ?_)))))))))
          exact kw rfl (SO.nil (sgQ 10 rfl (by intro j w hh; cases hh <;> decide) (kw rfl (SO.nil (sgQ 11 rfl (by intro j w hh; cases hh <;> decide) (s1 (pkt rfl rfl) (SO.nil (SOp.nil (WkP.of (wc [0, 1, 2, 3, 5, 6, 7, 8, 9, 10, 11, 12, 13, 14, 15, 19, 20, 21] [0, 1, 2, 3, 5, 6] (by kernel_rfl) rfl (by kernel_rfl)) rfl)))))))))
         ·obtain ⟨⟨r534, r535⟩, hq533, h1⟩ := ob h1; have q := si h1; subst q
          refine sgQ 6 rfl (by intro j w hh; cases hh <;> decide) (gw rfl (mv rfl) (SO.nil (sgQ 7 rfl (by intro j w hh; cases hh <;> decide) (gw rfl (far (k := 0) rfl fo50_0 ts46 rfl) (SO.nil (sgQ 8 rfl (by intro j w hh; cases hh <;> decide) (gw rfl (lod rfl (ld_box ts46 ta46 rfl rfl)) (SO.nil (SOp.wk (Wk.frz (i := 139) (x := .slc 1 2 0 y437.length none) rfl rfl (fF rfl rfl rfl)) ?_)))))))))
          exact SOp.wk (Wk.frz (i := 141) (x := .slc 16 9 0 r468.length none) rfl rfl (fF rfl rfl rfl)) (pcQ (law19_run_ok y437 r468 r531 _ hq533) (ww rfl) rfl rfl rfl cb11 rfl rfl id (sgQ 10 rfl (by intro j w hh; cases hh <;> decide) (gw rfl (nt rfl) (SO.nil (sgQ 11 rfl (by intro j w hh; cases hh <;> decide) (s1 (pkf rfl rfl) (SO.nil (SOp.nil (WkP.of (wc [0, 1, 2, 3, 5, 6, 7, 8, 9, 10, 11, 12, 13, 14, 15, 19, 20, 21] [0, 1, 2, 3, 5, 6] (by kernel_rfl) rfl (by kernel_rfl)) rfl)))))))))
        ·rintro ⟨y527, y528⟩ h0
         refine cBp h0 rfl (fun h0 => ?_) (fun h0 => ?_)
         ·have q := si h0; subst q
          exact srp (sa rfl (snp (SCp.ret (finRr (wc (e' := [(8, .d (eB false))]) [] [] (by kernel_rfl) rfl (by kernel_rfl)) (lresT rfl lresN) rfl))))
         ·refine skp (SCp.seqB h0 (fun y => (⟨mk 203 [(4, .ref 0 0 0), (9, .slc 1 2 0 y437.length none), (11, .ref 2 0 0), (13, .ref 3 0 0), (17, .ref 4 0 0)], [.box (.agg [.d (eS p0.Name), .slc 5 7 0 ((([] : List ApiColumn) ++ p0.Cols).length) none, .slc 6 1 0 ((([] : List Int) ++ p0.Primary).length) none, .slc 7 6 0 y438.length none, .d (eI (100 : Int))]), .row 2 (List.map eGranarylaw19Tree y437) false, .box (.agg [.slc 8 9 0 r458.length none, .slc 9 5 0 r459.length none, .slc 10 4 0 r460.length none]), .box (.agg [.slc 11 9 0 r463.length none, .slc 12 5 0 r464.length none, .slc 13 4 0 r465.length none]), .box (.agg [.slc 14 9 0 r473.length none, .slc 15 5 0 r474.length none, .slc 16 4 0 r475.length none]), .row 7 (List.map eApiColumn (([] : List ApiColumn) ++ p0.Cols)) false, .row 1 (List.map eI (([] : List Int) ++ p0.Primary)) false, .row 6 (List.map eApiIndex y438) false, .row 9 (List.map eForestOp r458) false, .row 5 (List.map eApiLock r459) true, .row 4 (List.map eFanProbe r460) true, .row 9 (List.map eForestOp r463) false, .row 5 (List.map eApiLock r464) true, .row 4 (List.map eFanProbe r465) true, .row 9 (List.map eForestOp r473) true, .row 5 (List.map eApiLock r474) true, .row 4 (List.map eFanProbe r475) true]⟩, (plM (eL 6 eApiEntry)) y527)) ?_ ?_)
          ·intro u1_559 h1 h0
           obtain ⟨u2_575, h2, h1⟩ := ob h1
           refine srp (sa rfl (snp (SCp.blk (SCp.loopB h2 (fun y => (⟨mk 203 [(4, .ref 0 0 0), (9, .slc 1 2 0 y437.length none), (11, .ref 2 0 0), (13, .ref 3 0 0), (17, .ref 4 0 0), (19, .slc 5 1 0 y500.length none), (21, .d (eI y))], [.box (.agg [.d (eS p0.Name), .slc 6 7 0 ((([] : List ApiColumn) ++ p0.Cols).length) none, .slc 7 1 0 ((([] : List Int) ++ p0.Primary).length) none, .slc 8 6 0 y438.length none, .d (eI (100 : Int))]), .row 2 (List.map eGranarylaw19Tree y437) false, .box (.agg [.slc 9 9 0 r458.length none, .slc 10 5 0 r459.length none, .slc 11 4 0 r460.length none]), .box (.agg [.slc 12 9 0 r463.length none, .slc 13 5 0 r464.length none, .slc 14 4 0 r465.length none]), .box (.agg [.slc 15 9 0 r473.length none, .slc 16 5 0 r474.length none, .slc 17 4 0 r475.length none]), .row 1 (List.map (eL 6 eApiEntry) y500) true, .row 7 (List.map eApiColumn (([] : List ApiColumn) ++ p0.Cols)) false, .row 1 (List.map eI (([] : List Int) ++ p0.Primary)) false, .row 6 (List.map eApiIndex y438) false, .row 9 (List.map eForestOp r458) false, .row 5 (List.map eApiLock r459) true, .row 4 (List.map eFanProbe r460) true, .row 9 (List.map eForestOp r463) false, .row 5 (List.map eApiLock r464) true, .row 4 (List.map eFanProbe r465) true, .row 9 (List.map eForestOp r473) true, .row 5 (List.map eApiLock r474) true, .row 4 (List.map eFanProbe r475) true]⟩, (plM (eL 6 eApiEntry)) y527)) (WkP.of (wq rfl) rfl) ?_))))
           intro n582
           rintro y566 w2_574 h3 hv3
           refine sqp (srp (sm rfl (sm rfl (s1 (len rfl rfl rfl (len_slc un39)) (s1 (bi rfl rfl q_i64_lss) (snp (cBp h3 rfl (fun h3 => ?_) (fun h3 => ?_))))))))
           ·obtain ⟨v577, hv577, h3⟩ := ob h3; obtain ⟨v578, hv578, h3⟩ := ob h3; obtain ⟨v579, hv579, h3⟩ := ob h3; obtain ⟨r581, hq580, h3⟩ := ob h3
            refine skp (sqp (SCp.blk (sdQ 12 mixO (by kernel_rfl) (yq (mv rfl) rfl (yq (mv rfl) rfl (yq (iaz rfl rfl un39 ts38 (getI_lt hv577)) rfl (yq (far (k := 1) rfl fo38_1 ts33 rfl) rfl (yq (lod rfl (ld_row ts33 ta33 rfl (map_get (getI_some hv577).2) rfl)) rfl (zq (StOp.nil rfl) ?_)))))))))
            refine zq (StOp.fld rfl fz36_0) (zq (StOp.ld rfl (plM_mem hv578) ts34 ta34) (yq (mv rfl) rfl (yq (mv rfl) rfl (yq (iaz rfl rfl un56 ts34 (getI_lt hv579)) rfl (yq (lod rfl (ld_row ts34 ta34 rfl (map_get (getI_some hv579).2) rfl)) rfl (StC.nil (sgQ 12 rfl (by intro j w hh; cases hh <;> decide) (c0 (raw_Entries_ok v578 v579 _ hq580) wf rfl rfl rfl cb13 rfl (fun _ => rfl) (fun _ => rfl) (SO.nil ?_)))))))))
            refine sgQ 13 rfl (by intro j w hh; cases hh <;> decide) (s1 (nt rfl) (SO.nil (SOp.nil (cBp h3 rfl (fun h3 => ?_) (fun h3 => ?_)))))
            ·have q := si h3; subst q; have q : _ = _ := hv3; subst q; have q := si h1; subst q; have q := si h0; subst q
             exact srp (sa rfl (snp (SCp.ret (finRr (wc (e' := [(8, .d (eB false))]) [] [] (by kernel_rfl) rfl (by kernel_rfl)) (lresT rfl lresN) rfl))))
            ·refine SCp.skip ?_
             change SCp _ _ _ _ _ _
             have q := si h3; subst q
             exact SCp.region (sm rfl (s1 (bi rfl rfl q_i64_add) (sa rfl (SO.nil (lfp (wq rfl) rfl)))))
           ·have q := si h3; subst q; have q : _ = _ := hv3; subst q; have q := si h1; subst q
            exact SCp.exit (lfp (wc [0, 1, 2, 3, 4, 6, 7, 8, 9, 10, 11, 12, 13, 14, 15, 16, 17] [0, 1, 2, 3, 4] (by kernel_rfl) rfl (by kernel_rfl)) rfl)
          ·intro _ h0
           obtain ⟨⟨r584, r585⟩, hq583, h0⟩ := ob h0
           refine sqp (srQ (sgQ 0 rfl (by intro j w hh; cases hh <;> decide) (sm rfl (SO.nil (sgQ 1 rfl (by intro j w hh; cases hh <;> decide) (s1 (far (k := 0) rfl fo50_0 ts46 rfl) (SO.nil (sgQ 2 rfl (by intro j w hh; cases hh <;> decide) (s1 (lod rfl (ld_box ts46 ta46 rfl rfl)) ?_)))))))))
           refine SO.nil (SOp.wk (Wk.frz (i := 165) (x := .slc 1 2 0 y437.length none) rfl rfl (fF rfl rfl rfl)) (SOp.wk (Wk.frz (i := 167) (x := .slc 14 9 0 r473.length none) rfl rfl (fF rfl rfl rfl)) (pcQ (law19_run_ok y437 r473 y527 _ hq583) wf rfl rfl rfl cb11 rfl rfl id (sgQ 4 rfl (by intro j w hh; cases hh <;> decide) (s1 (nt rfl) (SO.nil (SOp.nil (cBp h0 rfl (fun h0 => ?_) (fun h0 => ?_)))))))))
           ·have q := si h0; subst q
            exact srp (sa rfl (snp (SCp.ret (finRr (wc (e' := [(8, .d (eB false))]) [] [] (by kernel_rfl) rfl (by kernel_rfl)) (lresT rfl lresN) rfl))))
           ·refine skp (SCp.seqB h0 (fun y => (⟨mk 203 [(4, .ref 0 0 0), (11, .ref 1 0 0), (13, .ref 2 0 0)], [.box (.agg [.d (eS p0.Name), .slc 3 7 0 ((([] : List ApiColumn) ++ p0.Cols).length) none, .slc 4 1 0 ((([] : List Int) ++ p0.Primary).length) none, .slc 5 6 0 y438.length none, .d (eI (100 : Int))]), .box (.agg [.slc 6 9 0 r458.length none, .slc 7 5 0 r459.length none, .slc 8 4 0 r460.length none]), .box (.agg [.slc 9 9 0 r463.length none, .slc 10 5 0 r464.length none, .slc 11 4 0 r465.length none]), .row 7 (List.map eApiColumn (([] : List ApiColumn) ++ p0.Cols)) false, .row 1 (List.map eI (([] : List Int) ++ p0.Primary)) false, .row 6 (List.map eApiIndex y438) false, .row 9 (List.map eForestOp r458) false, .row 5 (List.map eApiLock r459) true, .row 4 (List.map eFanProbe r460) true, .row 9 (List.map eForestOp r463) false, .row 5 (List.map eApiLock r464) true, .row 4 (List.map eFanProbe r465) true]⟩, (plM (eL 6 eApiEntry)) r584)) ?_ ?_)
            ·intro u1_600 h1 h0
             obtain ⟨u2_610, h2, h1⟩ := ob h1
             refine srp (sa rfl (snp (SCp.blk (SCp.loopB h2 (fun y => (⟨mk 203 [(4, .ref 0 0 0), (9, .slc 1 2 0 y437.length none), (11, .ref 2 0 0), (13, .ref 3 0 0), (22, .d (eI y))], [.box (.agg [.d (eS p0.Name), .slc 4 7 0 ((([] : List ApiColumn) ++ p0.Cols).length) none, .slc 5 1 0 ((([] : List Int) ++ p0.Primary).length) none, .slc 6 6 0 y438.length none, .d (eI (100 : Int))]), .row 2 (List.map eGranarylaw19Tree y437) false, .box (.agg [.slc 7 9 0 r458.length none, .slc 8 5 0 r459.length none, .slc 9 4 0 r460.length none]), .box (.agg [.slc 10 9 0 r463.length none, .slc 11 5 0 r464.length none, .slc 12 4 0 r465.length none]), .row 7 (List.map eApiColumn (([] : List ApiColumn) ++ p0.Cols)) false, .row 1 (List.map eI (([] : List Int) ++ p0.Primary)) false, .row 6 (List.map eApiIndex y438) false, .row 9 (List.map eForestOp r458) false, .row 5 (List.map eApiLock r459) true, .row 4 (List.map eFanProbe r460) true, .row 9 (List.map eForestOp r463) false, .row 5 (List.map eApiLock r464) true, .row 4 (List.map eFanProbe r465) true]⟩, (plM (eL 6 eApiEntry)) r584)) (WkP.of (wc [0, 1, 2, 3, 5, 6, 7, 8, 9, 10, 11, 12, 13] [0, 1, 2, 3] (by kernel_rfl) rfl (by kernel_rfl)) rfl) ?_))))
             intro n614
             rintro y604 w2_609 h3 hv3
             refine sqp (srp (sm rfl (sm rfl (s1 (len rfl rfl rfl (len_slc un39)) (s1 (bi rfl rfl q_i64_lss) (snp (cBp h3 rfl (fun h3 => ?_) (fun h3 => ?_))))))))
             ·obtain ⟨v612, hv612, h3⟩ := ob h3; obtain ⟨v613, hv613, h3⟩ := ob h3
              refine skp (sqp (SCp.blk (srQ (sgQ 0 rfl (by intro j w hh; cases hh <;> decide) (sm rfl (SO.nil (sgQ 1 rfl (by intro j w hh; cases hh <;> decide) (sm rfl (SO.nil ?_)))))))))
              refine sgQ 2 rfl (by intro j w hh; cases hh <;> decide) (s1 (iaz rfl rfl un39 ts38 (getI_lt hv612)) (SO.nil (sgQ 3 rfl (by intro j w hh; cases hh <;> decide) (s1 (far (k := 1) rfl fo38_1 ts33 rfl) (SO.nil (sgQ 4 rfl (by intro j w hh; cases hh <;> decide) (s1 (lod rfl (ld_row ts33 ta33 rfl (map_get (getI_some hv612).2) rfl)) (SO.nil (stq (StOp.nil rfl) ?_)))))))))
              refine stq (StOp.fld rfl fz36_0) (stq (StOp.ld rfl (plM_mem hv613) ts34 ta34) (sgQ 8 rfl (by intro j w hh; cases hh <;> decide) (s1 (len rfl rfl rfl (len_lst un34)) (SO.nil (sgQ 9 rfl (by intro j w hh; cases hh <;> decide) (s1 (bi rfl rfl q_i64_neq) (SO.nil (SOp.nil (cBp h3 rfl (fun h3 => ?_) (fun h3 => ?_))))))))))
              ·have q := si h3; subst q; have q : _ = _ := hv3; subst q; have q := si h1; subst q; have q := si h0; subst q
               exact srp (sa rfl (snp (SCp.ret (finRr (wc (e' := [(8, .d (eB false))]) [] [] (by kernel_rfl) rfl (by kernel_rfl)) (lresT rfl lresN) rfl))))
              ·refine SCp.skip ?_
               change SCp _ _ _ _ _ _
               have q := si h3; subst q
               exact SCp.region (sm rfl (s1 (bi rfl rfl q_i64_add) (sa rfl (SO.nil (lfp (wq rfl) rfl)))))
             ·have q := si h3; subst q; have q : _ = _ := hv3; subst q; have q := si h1; subst q
              exact SCp.exit (lfp (wc [0, 2, 3, 4, 5, 6, 7, 8, 9, 10, 11, 12] [0, 2, 3] (by kernel_rfl) rfl (by kernel_rfl)) rfl)
            ·intro _ h0
             refine SCp.seqP h0 (fun y => (⟨mk 203 [(8, .d (eB y))], []⟩, (plM (eL 6 eApiEntry)) r584)) ?_ ?_
             ·intro u1_616 h1
              refine SCp.region (s1 (far (k := 1) rfl fo50_1 ts47 rfl) (s1 (lod rfl (ld_box ts47 ta47 rfl rfl)) (s1 (len rfl rfl rfl (len_slc un47)) (s1 (far (k := 0) rfl fo50_0 ts46 rfl) (s1 (lod rfl (ld_box ts46 ta46 rfl rfl)) (s1 (len rfl rfl rfl (len_slc un46)) (s1 (far (k := 3) rfl fo26_3 ts24 rfl) (s1 (lod rfl (ld_box ts24 ta24 rfl rfl)) (s1 (len rfl rfl rfl (len_slc un24)) ?_)))))))))
              refine s1 (bi rfl rfl q_i64_sub) (s1 (bi rfl rfl q_i64_geq) (sm rfl (sp h1 (fun h1 => ?_) (fun h1 => ?_))))
              ·have q := si h1; subst q
               exact gw rfl (far (k := 1) rfl fo50_1 ts47 rfl) (gw rfl (lod rfl (ld_box ts47 ta47 rfl rfl)) (gw rfl (len rfl rfl rfl (len_slc un47)) (gw rfl (bi rfl rfl q_i64_gtr) (s1 (pkt rfl rfl) (sa rfl (SO.nil (WkP.of (wc [] [] (by kernel_rfl) rfl (by kernel_rfl)) rfl)))))))
              ·have q := si h1; subst q
               exact kw rfl (kw rfl (kw rfl (kw rfl (s1 (pkf rfl rfl) (sa rfl (SO.nil (WkP.of (wc [] [] (by kernel_rfl) rfl (by kernel_rfl)) rfl)))))))
             ·rintro y615 h0
              have q := si h0; subst q
              exact SCp.ret (finRr (Wk.refl _) (lresT rfl lresN) rfl)
end Lv
