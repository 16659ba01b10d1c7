/- Part of the proof of a law: functions and their walks. -/
import Derived.Test.YtddopjhkmkoicaaDoorXFn1
namespace Lv
open Go Go.Proofs
set_option linter.unusedVariables false
set_option linter.unusedSimpArgs false
set_option linter.unusedSectionVars false
set_option maxRecDepth 100000
variable [BaseTab] [TabOk]
/-- granary/granarylaw19.awake -/
noncomputable def law19_awake : Option Bool :=
  bif decide (0 ≤ (1 : Int) ∧ (1 : Int) * 24 ≤ 70368744177664 ∧ (1 : Int) ≤ 70368744177664) then
  Option.bind (fan_Change (ApiTable.mk ([97] : List UInt8) [(ApiColumn.mk ([105, 100] : List UInt8) (1 : Int) (0 : Int) false (ApiValue.mk (1 : Int) (0 : UInt64) ([] : List UInt8))), (ApiColumn.mk ([110] : List UInt8) (1 : Int) (0 : Int) false (ApiValue.mk (1 : Int) (0 : UInt64) ([] : List UInt8)))] [(0 : Int)] [(ApiIndex.mk ([120] : List UInt8) [(ApiPart.mk (1 : Int) false)] ([] : List Int) true true (3 : Int))] (2 : Int)) (List.replicate (1 : Int).toNat (FanBuilt.mk ([] : List UInt8) false)) ([] : List ApiValue) [(ApiValue.mk (1 : Int) (1 : UInt64) ([] : List UInt8)), (ApiValue.mk (1 : Int) (2 : UInt64) ([] : List UInt8))]) fun (r15, r16, r17, r18) =>
  Option.bind (α := Bool)
    (bif (r15 == (0 : Int)) then
      bif ((r16.length : Int) == (2 : Int)) then
        bif ((r17.length : Int) == (3 : Int)) then
          bif ((r18.length : Int) == (1 : Int)) then
            Option.bind (getI r16 (1 : Int)) fun v24 =>
            bif (v24.Tree == (3 : Int)) then
              Option.bind (fan_Point ([97] : List UInt8)) fun _ =>
              some ((([97] : List UInt8) ++ ([0] : List UInt8)) == ([97, 0] : List UInt8))
            else
              some false
          else
            some false
        else
          some false
      else
        some false
    else
      some false)
    fun y22 =>
  some y22
  else none
theorem law19_awake_ok (r : Bool) (h0 : law19_awake = some r) : CallAt Tryd.prog 6 [] [] (.d (eB r)) [] := by
  unfold law19_awake at h0
  refine fn0 [] Tryd.func6 rfl rfl rfl rfl rfl ?_
  obtain ⟨hg14, h0⟩ := gd h0; obtain ⟨⟨r15, r16, r17, r18⟩, hq19, h0⟩ := ob h0
  refine sr (s1 (asg rfl) (sn (sr (s1 (bld rfl (bd72_0 (1 : Int))) (s1 (bld rfl (bd74_0_1_4 ([105, 100] : List UInt8) (1 : Int) (ApiValue.mk (1 : Int) (0 : UInt64) ([] : List UInt8)))) (s1 (bld rfl (bd72_0 (1 : Int))) (s1 (bld rfl (bd74_0_1_4 ([110] : List UInt8) (1 : Int) (ApiValue.mk (1 : Int) (0 : UInt64) ([] : List UInt8)))) (s1 (bsn (k := 0) (ds := List.map eApiColumn [(ApiColumn.mk ([105, 100] : List UInt8) (1 : Int) (0 : Int) false (ApiValue.mk (1 : Int) (0 : UInt64) ([] : List UInt8))), (ApiColumn.mk ([110] : List UInt8) (1 : Int) (0 : Int) false (ApiValue.mk (1 : Int) (0 : UInt64) ([] : List UInt8)))]) (off := 0) (l' := [(ApiColumn.mk ([105, 100] : List UInt8) (1 : Int) (0 : Int) false (ApiValue.mk (1 : Int) (0 : UInt64) ([] : List UInt8))), (ApiColumn.mk ([110] : List UInt8) (1 : Int) (0 : Int) false (ApiValue.mk (1 : Int) (0 : UInt64) ([] : List UInt8)))].length) rfl un22 ei74 rfl rfl (by rfl) rfl rfl rfl) (s1 (bsn (k := 1) (ds := List.map eI [(0 : Int)]) (off := 0) (l' := [(0 : Int)].length) rfl un23 ei3 rfl rfl (by rfl) rfl rfl rfl) ?_)))))))))
  refine s1 (bld rfl (bd26_0_1_2_4 ([97] : List UInt8) (2 : Int))) (s1 (alo (k := 2) zo26 rfl) (s0 (sto rfl rfl (sB (d' := .agg [.d (eS ([97] : List UInt8)), .slc 0 7 0 ([(ApiColumn.mk ([105, 100] : List UInt8) (1 : Int) (0 : Int) false (ApiValue.mk (1 : Int) (0 : UInt64) ([] : List UInt8))), (ApiColumn.mk ([110] : List UInt8) (1 : Int) (0 : Int) false (ApiValue.mk (1 : Int) (0 : UInt64) ([] : List UInt8)))].length) none, .slc 1 1 0 ([(0 : Int)].length) none, .d .nils, .d (eI (2 : Int))]) ts26 rfl rfl rfl rfl rfl rfl rfl)) (sn (sr (s1 (bld rfl (bd76_0 (1 : Int))) (s1 (bsn (k := 3) (ds := List.map eApiPart [(ApiPart.mk (1 : Int) false)]) (off := 0) (l' := [(ApiPart.mk (1 : Int) false)].length) rfl un40 ei76 rfl rfl (by rfl) rfl rfl rfl) (s1 (bld rfl (bd42_0_1_3_4_5 ([120] : List UInt8) true true (3 : Int))) (SO.wk (Wk.frzs (i := 13) (x := .agg [.d (eS ([120] : List UInt8)), .slc 3 2 0 ([(ApiPart.mk (1 : Int) false)].length) none, .d .nils, .d (eB true), .d (eB true), .d (eI (3 : Int))]) rfl rfl rfl (frzs_d rfl (frzs_slc (fF rfl rfl rfl) (frzs_d rfl (frzs_d rfl (frzs_d rfl (frzs_d rfl frzs_nil))))))) (SO.wk (Wk.put1 (i := 13) (x := .d (.agg [(eS ([120] : List UInt8)), ((eL 2 eApiPart) [(ApiPart.mk (1 : Int) false)]), .nils, (eB true), (eB true), (eI (3 : Int))])) (y := .d (eApiIndex (ApiIndex.mk ([120] : List UInt8) [(ApiPart.mk (1 : Int) false)] ([] : List Int) true true (3 : Int)))) rfl rfl (AW.aggd rfl (AWs.cons (AW.refl _) (AWs.cons (AW.refl _) (AWs.cons (AW.nl _) (AWs.cons (AW.refl _) (AWs.cons (AW.refl _) (AWs.cons (AW.refl _) AWs.nil)))))))) ?_)))))))))
  refine s1 (bsn (k := 4) (ds := List.map eApiIndex [(ApiIndex.mk ([120] : List UInt8) [(ApiPart.mk (1 : Int) false)] ([] : List Int) true true (3 : Int))]) (off := 0) (l' := [(ApiIndex.mk ([120] : List UInt8) [(ApiPart.mk (1 : Int) false)] ([] : List Int) true true (3 : Int))].length) rfl un24 ei42 rfl rfl (by rfl) rfl rfl rfl) (s1 (far (k := 3) rfl fo26_3 ts24 rfl) (s0 (sto rfl rfl (sB (d' := .agg [.d (eS ([97] : List UInt8)), .slc 0 7 0 ([(ApiColumn.mk ([105, 100] : List UInt8) (1 : Int) (0 : Int) false (ApiValue.mk (1 : Int) (0 : UInt64) ([] : List UInt8))), (ApiColumn.mk ([110] : List UInt8) (1 : Int) (0 : Int) false (ApiValue.mk (1 : Int) (0 : UInt64) ([] : List UInt8)))].length) none, .slc 1 1 0 ([(0 : Int)].length) none, .slc 4 6 0 ([(ApiIndex.mk ([120] : List UInt8) [(ApiPart.mk (1 : Int) false)] ([] : List Int) true true (3 : Int))].length) none, .d (eI (2 : Int))]) ts24 rfl rfl rfl rfl rfl rfl rfl)) (sn (sd (by kernel_rfl) (t1 ([2], false) (lod (v := .agg [.d (eS ([97] : List UInt8)), .slc 0 7 0 ([(ApiColumn.mk ([105, 100] : List UInt8) (1 : Int) (0 : Int) false (ApiValue.mk (1 : Int) (0 : UInt64) ([] : List UInt8))), (ApiColumn.mk ([110] : List UInt8) (1 : Int) (0 : Int) false (ApiValue.mk (1 : Int) (0 : UInt64) ([] : List UInt8)))].length) none, .slc 1 1 0 ([(0 : Int)].length) none, .slc 4 6 0 ([(ApiIndex.mk ([120] : List UInt8) [(ApiPart.mk (1 : Int) false)] ([] : List Int) true true (3 : Int))].length) none, .d (eI (2 : Int))]) rfl (ld_box ts26 ta26 rfl rfl)) rfl ?_)))))
  refine t1 ([5], true) (mks (f := eFanBuilt) (u := (FanBuilt.mk ([] : List UInt8) false)) (k := 5) rfl rfl un27 ei95 rfl hg14 rfl) rfl (t1 ([], false) (bld rfl (bd72_0_1 (1 : Int) (1 : UInt64))) rfl (t1 ([], false) (bld rfl (bd72_0_1 (1 : Int) (2 : UInt64))) rfl (t1 ([6], true) (bsn (k := 6) (ds := List.map eApiValue [(ApiValue.mk (1 : Int) (1 : UInt64) ([] : List UInt8)), (ApiValue.mk (1 : Int) (2 : UInt64) ([] : List UInt8))]) (off := 0) (l' := [(ApiValue.mk (1 : Int) (1 : UInt64) ([] : List UInt8)), (ApiValue.mk (1 : Int) (2 : UInt64) ([] : List UInt8))].length) rfl un43 ei72 rfl rfl (by rfl) rfl rfl rfl) rfl (ta' (r := .tuple [.agg [.slc 8 9 0 r16.length none, .slc 9 5 0 r17.length none, .slc 10 4 0 r18.length none], .d (eI r15)]) (args' := [.agg [.d (eS ([97] : List UInt8)), .slc 0 7 0 ([(ApiColumn.mk ([105, 100] : List UInt8) (1 : Int) (0 : Int) false (ApiValue.mk (1 : Int) (0 : UInt64) ([] : List UInt8))), (ApiColumn.mk ([110] : List UInt8) (1 : Int) (0 : Int) false (ApiValue.mk (1 : Int) (0 : UInt64) ([] : List UInt8)))].length) none, .slc 1 1 0 ([(0 : Int)].length) none, .slc 2 6 0 ([(ApiIndex.mk ([120] : List UInt8) [(ApiPart.mk (1 : Int) false)] ([] : List Int) true true (3 : Int))].length) none, .d (eI (2 : Int))], .slc 3 2 0 ((List.replicate (1 : Int).toNat (FanBuilt.mk ([] : List UInt8) false)).length) none, .d .nils, .slc 4 3 0 ([(ApiValue.mk (1 : Int) (1 : UInt64) ([] : List UInt8)), (ApiValue.mk (1 : Int) (2 : UInt64) ([] : List UInt8))].length) none]) (σc := [.row 7 (List.map eApiColumn [(ApiColumn.mk ([105, 100] : List UInt8) (1 : Int) (0 : Int) false (ApiValue.mk (1 : Int) (0 : UInt64) ([] : List UInt8))), (ApiColumn.mk ([110] : List UInt8) (1 : Int) (0 : Int) false (ApiValue.mk (1 : Int) (0 : UInt64) ([] : List UInt8)))]) true, .row 1 (List.map eI [(0 : Int)]) true, .row 6 (List.map eApiIndex [(ApiIndex.mk ([120] : List UInt8) [(ApiPart.mk (1 : Int) false)] ([] : List Int) true true (3 : Int))]) true, .row 2 (List.map eFanBuilt (List.replicate (1 : Int).toNat (FanBuilt.mk ([] : List UInt8) false))) true, .row 3 (List.map eApiValue [(ApiValue.mk (1 : Int) (1 : UInt64) ([] : List UInt8)), (ApiValue.mk (1 : Int) (2 : UInt64) ([] : List UInt8))]) true]) (σ' := [.row 7 (List.map eApiColumn [(ApiColumn.mk ([105, 100] : List UInt8) (1 : Int) (0 : Int) false (ApiValue.mk (1 : Int) (0 : UInt64) ([] : List UInt8))), (ApiColumn.mk ([110] : List UInt8) (1 : Int) (0 : Int) false (ApiValue.mk (1 : Int) (0 : UInt64) ([] : List UInt8)))]) false, .row 1 (List.map eI [(0 : Int)]) false, .box (.agg [.d (eS ([97] : List UInt8)), .slc 0 7 0 ([(ApiColumn.mk ([105, 100] : List UInt8) (1 : Int) (0 : Int) false (ApiValue.mk (1 : Int) (0 : UInt64) ([] : List UInt8))), (ApiColumn.mk ([110] : List UInt8) (1 : Int) (0 : Int) false (ApiValue.mk (1 : Int) (0 : UInt64) ([] : List UInt8)))].length) none, .slc 1 1 0 ([(0 : Int)].length) none, .slc 4 6 0 ([(ApiIndex.mk ([120] : List UInt8) [(ApiPart.mk (1 : Int) false)] ([] : List Int) true true (3 : Int))].length) none, .d (eI (2 : Int))]), .row 2 (List.map eApiPart [(ApiPart.mk (1 : Int) false)]) false, .row 6 (List.map eApiIndex [(ApiIndex.mk ([120] : List UInt8) [(ApiPart.mk (1 : Int) false)] ([] : List Int) true true (3 : Int))]) false, .row 2 (List.map eFanBuilt (List.replicate (1 : Int).toNat (FanBuilt.mk ([] : List UInt8) false))) false, .row 3 (List.map eApiValue [(ApiValue.mk (1 : Int) (1 : UInt64) ([] : List UInt8)), (ApiValue.mk (1 : Int) (2 : UInt64) ([] : List UInt8))]) false, .box (.agg [.slc 8 9 0 r16.length none, .slc 9 5 0 r17.length none, .slc 10 4 0 r18.length none]), .row 9 (List.map eForestOp r16) true, .row 5 (List.map eApiLock r17) true, .row 4 (List.map eFanProbe r18) true]) [0, 1, 4, 5, 6] ([0, 1, 4, 5, 6, 7, 8, 9, 10], true) (CallAt.frz (ArgF.frzw (y := .d (eApiTable (ApiTable.mk ([97] : List UInt8) [(ApiColumn.mk ([105, 100] : List UInt8) (1 : Int) (0 : Int) false (ApiValue.mk (1 : Int) (0 : UInt64) ([] : List UInt8))), (ApiColumn.mk ([110] : List UInt8) (1 : Int) (0 : Int) false (ApiValue.mk (1 : Int) (0 : UInt64) ([] : List UInt8)))] [(0 : Int)] [(ApiIndex.mk ([120] : List UInt8) [(ApiPart.mk (1 : Int) false)] ([] : List Int) true true (3 : Int))] (2 : Int)))) rfl (frzs_d rfl (frzs_slc (fF rfl rfl rfl) (frzs_slc (fF rfl rfl rfl) (frzs_slc (fF rfl rfl rfl) (frzs_d rfl frzs_nil))))) (AW.aggd rfl (AWs.cons (AW.refl _) (AWs.cons (AW.refl _) (AWs.cons (AW.refl _) (AWs.cons (AW.refl _) (AWs.cons (AW.refl _) AWs.nil)))))) (ArgF.frz (fF rfl rfl rfl) (ArgF.aw (AW.nl _) (ArgF.frz (fF rfl rfl rfl) (ArgF.nil _))))) (fm (r := .tuple [.agg [.slc 6 9 0 r16.length none, .slc 7 5 0 r17.length none, .slc 8 4 0 r18.length none], .d (eI r15)]) [] (fan_Change_ok (ApiTable.mk ([97] : List UInt8) [(ApiColumn.mk ([105, 100] : List UInt8) (1 : Int) (0 : Int) false (ApiValue.mk (1 : Int) (0 : UInt64) ([] : List UInt8))), (ApiColumn.mk ([110] : List UInt8) (1 : Int) (0 : Int) false (ApiValue.mk (1 : Int) (0 : UInt64) ([] : List UInt8)))] [(0 : Int)] [(ApiIndex.mk ([120] : List UInt8) [(ApiPart.mk (1 : Int) false)] ([] : List Int) true true (3 : Int))] (2 : Int)) (List.replicate (1 : Int).toNat (FanBuilt.mk ([] : List UInt8) false)) ([] : List ApiValue) [(ApiValue.mk (1 : Int) (1 : UInt64) ([] : List UInt8)), (ApiValue.mk (1 : Int) (2 : UInt64) ([] : List UInt8))] _ hq19) rfl rfl rfl rfl rfl rfl)) wf rfl rfl rfl cb10 rfl rfl rfl rfl rfl rfl rfl ?_))))
  refine t1 ([], false) (mv rfl) rfl (t1 ([], false) (ext rfl rfl) rfl (t1 ([], false) (ext rfl rfl) rfl (t1 ([11], true) (alo (k := 11) zo50 rfl) rfl (t0 ([11, 8, 9, 10], true) (sto rfl rfl (sB (d' := .agg [.slc 8 9 0 r16.length none, .slc 9 5 0 r17.length none, .slc 10 4 0 r18.length none]) ts50 rfl rfl rfl rfl rfl rfl rfl)) rfl (t1 ([], false) (asg rfl) rfl (tn (by decide +kernel) (SC.seqP h0 (fun y => ⟨mk 58 [(0, .d (eB y))], []⟩) ?_ ?_)))))))
  · intro u1_23 h1
    refine SC.region (s1 (mv rfl) (s1 (bi rfl rfl q_i64_eql) (s1 (mv rfl) (sp h1 (fun h1 => ?_) (fun h1 => ?_)))))
    · refine g1 (wb rfl rfl rfl) (far (k := 0) rfl fo50_0 ts46 rfl) (g1 (wb rfl rfl rfl) (lod rfl (ld_box ts46 ta46 rfl rfl)) (g1 (wb rfl rfl rfl) (len rfl rfl rfl (len_slc un46)) (g1 (wb rfl rfl rfl) (bi rfl rfl q_i64_eql) (s1 (pkt rfl rfl) (s1 (mv rfl) (sp h1 (fun h1 => ?_) (fun h1 => ?_)))))))
      · refine g1 (wb rfl rfl rfl) (far (k := 1) rfl fo50_1 ts47 rfl) (g1 (wb rfl rfl rfl) (lod rfl (ld_box ts47 ta47 rfl rfl)) (g1 (wb rfl rfl rfl) (len rfl rfl rfl (len_slc un47)) (g1 (wb rfl rfl rfl) (bi rfl rfl q_i64_eql) (s1 (pkt rfl rfl) (s1 (mv rfl) (sp h1 (fun h1 => ?_) (fun h1 => ?_)))))))
        · refine g1 (wb rfl rfl rfl) (far (k := 2) rfl fo50_2 ts48 rfl) (g1 (wb rfl rfl rfl) (lod rfl (ld_box ts48 ta48 rfl rfl)) (g1 (wb rfl rfl rfl) (len rfl rfl rfl (len_slc un48)) (g1 (wb rfl rfl rfl) (bi rfl rfl q_i64_eql) (s1 (pkt rfl rfl) (s1 (mv rfl) (sp h1 (fun h1 => ?_) (fun h1 => ?_)))))))
          · obtain ⟨v24, hv24, h1⟩ := ob h1
            refine g1 (wb rfl rfl rfl) (far (k := 0) rfl fo50_0 ts46 rfl) (g1 (wb rfl rfl rfl) (lod rfl (ld_box ts46 ta46 rfl rfl)) (g1 (wb rfl rfl rfl) (iaz rfl rfl un46 ts63 (getI_lt hv24)) (g1 (wb rfl rfl rfl) (far (k := 1) rfl fo63_1 ts3 rfl) (g1 (wb rfl rfl rfl) (lod rfl (ld_row ts3 ta3 rfl (map_get (getI_some hv24).2) rfl)) (g1 (wb rfl rfl rfl) (bi rfl rfl q_i64_eql) (s1 (pkt rfl rfl) (s1 (mv rfl) (sp h1 (fun h1 => ?_) (fun h1 => ?_)))))))))
            · obtain ⟨_, hq25, h1⟩ := ob h1; have q := si h1; subst q
              exact ca [] (fan_Point_ok ([97] : List UInt8) _ hq25) (wb rfl rfl rfl) rfl rfl rfl cb14 rfl rfl rfl rfl rfl rfl (g1 (wb rfl rfl rfl) (fld rfl fo65_1 ts9 ta9 rfl rfl) (g1 (wb rfl rfl rfl) (bi rfl rfl (q_str_eql (b := ([97, 0] : List UInt8)))) (s1 (pkt rfl rfl) (s1 (asg rfl) (SO.nil ((wc [] [] (by kernel_rfl) rfl (by kernel_rfl))))))))
            · have q := si h1; subst q
              exact k1 (wb rfl rfl rfl) (k1 (wb rfl rfl rfl) (k1 (wb rfl rfl rfl) (s1 (pkf rfl rfl) (s1 (asg rfl) (SO.nil ((wc [] [] (by kernel_rfl) rfl (by kernel_rfl))))))))
          · have q := si h1; subst q
            refine k1 (wb rfl rfl rfl) (k1 (wb rfl rfl rfl) (k1 (wb rfl rfl rfl) (k1 (wb rfl rfl rfl) (k1 (wb rfl rfl rfl) (k1 (wb rfl rfl rfl) (s1 (pkf rfl rfl) (s1 (mv rfl) (k1 (wb rfl rfl rfl) (k1 (wb rfl rfl rfl) ?_)))))))))
            exact k1 (wb rfl rfl rfl) (s1 (pkf rfl rfl) (s1 (asg rfl) (SO.nil ((wc [] [] (by kernel_rfl) rfl (by kernel_rfl))))))
        · have q := si h1; subst q
          refine k1 (wb rfl rfl rfl) (k1 (wb rfl rfl rfl) (k1 (wb rfl rfl rfl) (k1 (wb rfl rfl rfl) (s1 (pkf rfl rfl) (s1 (mv rfl) (k1 (wb rfl rfl rfl) (k1 (wb rfl rfl rfl) (k1 (wb rfl rfl rfl) (k1 (wb rfl rfl rfl) ?_)))))))))
          refine k1 (wb rfl rfl rfl) (k1 (wb rfl rfl rfl) (s1 (pkf rfl rfl) (s1 (mv rfl) (k1 (wb rfl rfl rfl) (k1 (wb rfl rfl rfl) (k1 (wb rfl rfl rfl) (s1 (pkf rfl rfl) (s1 (asg rfl) (SO.nil ?_)))))))))
          exact (wc [] [] (by kernel_rfl) rfl (by kernel_rfl))
      · have q := si h1; subst q
        refine k1 (wb rfl rfl rfl) (k1 (wb rfl rfl rfl) (k1 (wb rfl rfl rfl) (k1 (wb rfl rfl rfl) (s1 (pkf rfl rfl) (s1 (mv rfl) (k1 (wb rfl rfl rfl) (k1 (wb rfl rfl rfl) (k1 (wb rfl rfl rfl) (k1 (wb rfl rfl rfl) ?_)))))))))
        refine s1 (pkf rfl rfl) (s1 (mv rfl) (k1 (wb rfl rfl rfl) (k1 (wb rfl rfl rfl) (k1 (wb rfl rfl rfl) (k1 (wb rfl rfl rfl) (k1 (wb rfl rfl rfl) (k1 (wb rfl rfl rfl) (s1 (pkf rfl rfl) (s1 (mv rfl) ?_)))))))))
        exact k1 (wb rfl rfl rfl) (k1 (wb rfl rfl rfl) (k1 (wb rfl rfl rfl) (s1 (pkf rfl rfl) (s1 (asg rfl) (SO.nil ((wc [] [] (by kernel_rfl) rfl (by kernel_rfl))))))))
    · have q := si h1; subst q
      refine k1 (wb rfl rfl rfl) (k1 (wb rfl rfl rfl) (k1 (wb rfl rfl rfl) (k1 (wb rfl rfl rfl) (s1 (pkf rfl rfl) (s1 (mv rfl) (k1 (wb rfl rfl rfl) (k1 (wb rfl rfl rfl) (k1 (wb rfl rfl rfl) (k1 (wb rfl rfl rfl) ?_)))))))))
      refine s1 (pkf rfl rfl) (s1 (mv rfl) (k1 (wb rfl rfl rfl) (k1 (wb rfl rfl rfl) (k1 (wb rfl rfl rfl) (k1 (wb rfl rfl rfl) (s1 (pkf rfl rfl) (s1 (mv rfl) (k1 (wb rfl rfl rfl) (k1 (wb rfl rfl rfl) ?_)))))))))
      refine k1 (wb rfl rfl rfl) (k1 (wb rfl rfl rfl) (k1 (wb rfl rfl rfl) (k1 (wb rfl rfl rfl) (s1 (pkf rfl rfl) (s1 (mv rfl) (k1 (wb rfl rfl rfl) (k1 (wb rfl rfl rfl) (k1 (wb rfl rfl rfl) (s1 (pkf rfl rfl) ?_)))))))))
      exact s1 (asg rfl) (SO.nil ((wc [] [] (by kernel_rfl) rfl (by kernel_rfl))))
  · rintro y22 h0
    have q := si h0; subst q
    exact SC.ret (finR (Wk.refl _) (lresT rfl lresN) rfl)

/-- granary/granaryref06.Name -/
noncomputable def ref06_Name (p0 : List UInt8) : Option Bool :=
  Option.bind (α := Bool)
    (bif (decide ((p0.length : Int) < (1 : Int))) then
      some true
    else
      bif (decide ((p0.length : Int) > (16 : Int))) then
        some true
      else
        Option.bind (getI p0 (0 : Int)) fun v155 =>
        bif (decide (v155 < (97 : UInt8))) then
          some true
        else
          Option.bind (getI p0 (0 : Int)) fun v156 =>
          some (decide ((122 : UInt8) < v156)))
    fun y153 =>
  bif y153 then
    some false
  else
    bindE (Y := Unit) (E := Bool)
      (Option.bind (α := Unit ⊕ Bool)
        (loop (Y := Int) (W := Unit ⊕ Bool) (fun y251 =>
          bif (decide (y251 < (p0.length : Int))) then
            Option.bind (α := Bool)
              (Option.bind (getI p0 y251) fun v289 =>
              bif (decide (v289 < (97 : UInt8))) then
                Option.bind (getI p0 y251) fun v290 =>
                bif (decide (v290 < (48 : UInt8))) then
                  Option.bind (getI p0 y251) fun v291 =>
                  some (v291 != (95 : UInt8))
                else
                  Option.bind (getI p0 y251) fun v292 =>
                  bif (decide ((57 : UInt8) < v292)) then
                    Option.bind (getI p0 y251) fun v293 =>
                    some (v293 != (95 : UInt8))
                  else
                    some false
              else
                Option.bind (getI p0 y251) fun v294 =>
                bif (decide ((122 : UInt8) < v294)) then
                  Option.bind (getI p0 y251) fun v295 =>
                  bif (decide (v295 < (48 : UInt8))) then
                    Option.bind (getI p0 y251) fun v296 =>
                    some (v296 != (95 : UInt8))
                  else
                    Option.bind (getI p0 y251) fun v297 =>
                    bif (decide ((57 : UInt8) < v297)) then
                      Option.bind (getI p0 y251) fun v298 =>
                      some (v298 != (95 : UInt8))
                    else
                      some false
                else
                  some false)
              fun y287 =>
            bif y287 then
              some (Sum.inr (Sum.inr false))
            else
              some (Sum.inl (w64 (y251 + (1 : Int))))
          else
            some (Sum.inr (Sum.inl ()))) (1 : Int))
        (Sum.elim (fun e => some (Sum.inl e)) (fun e => some (Sum.inr e))))
      (fun _ =>
        some true)
      (fun e => some e)
theorem ref06_Name_ok (p0 : List UInt8) (r : Bool) (h0 : ref06_Name p0 = some r) : CallAt Tryd.prog 15 [.d (eS p0)] [] (.d (eB r)) [] := by
  unfold ref06_Name at h0
  refine fn0 [0] Tryd.func15 rfl rfl rfl rfl rfl ?_
  refine sr (s1 (asg rfl) (sn (sq (SC.seqP h0 (fun y => ⟨mk 56 [(0, .d (eS p0)), (21, .d (eB y))], []⟩) ?_ ?_))))
  · intro u1_154 h1
    refine SC.region (s1 (mv rfl) (s1 (len rfl rfl rfl (len_str un9)) (s1 (bi rfl rfl q_i64_lss) (s1 (mv rfl) (sp h1 (fun h1 => ?_) (fun h1 => ?_))))))
    · have q := si h1; subst q
      refine k1 (wb rfl rfl rfl) (k1 (wb rfl rfl rfl) (k1 (wb rfl rfl rfl) (s1 (pkt rfl rfl) (s1 (mv rfl) (k1 (wb rfl rfl rfl) (k1 (wb rfl rfl rfl) (k1 (wb rfl rfl rfl) (s1 (pkt rfl rfl) (s1 (mv rfl) ?_)))))))))
      exact k1 (wb rfl rfl rfl) (k1 (wb rfl rfl rfl) (k1 (wb rfl rfl rfl) (s1 (pkt rfl rfl) (SO.nil ((wq rfl))))))
    · refine g1 (wb rfl rfl rfl) (mv rfl) (g1 (wb rfl rfl rfl) (len rfl rfl rfl (len_str un9)) (g1 (wb rfl rfl rfl) (bi rfl rfl q_i64_gtr) (s1 (pkf rfl rfl) (s1 (mv rfl) (sp h1 (fun h1 => ?_) (fun h1 => ?_))))))
      · have q := si h1; subst q
        refine k1 (wb rfl rfl rfl) (k1 (wb rfl rfl rfl) (k1 (wb rfl rfl rfl) (s1 (pkt rfl rfl) (s1 (mv rfl) (k1 (wb rfl rfl rfl) (k1 (wb rfl rfl rfl) (k1 (wb rfl rfl rfl) (s1 (pkt rfl rfl) (SO.nil ?_)))))))))
        exact (wq rfl)
      · obtain ⟨v155, hv155, h1⟩ := ob h1
        refine g1 (wb rfl rfl rfl) (mv rfl) (g1 (wb rfl rfl rfl) (ixs rfl rfl rfl rfl (ix_str un9 (getI_some hv155).1 (getI_some hv155).2)) (g1 (wb rfl rfl rfl) (bi rfl rfl (q_u8_lss (b := (97 : UInt8)))) (s1 (pkf rfl rfl) (s1 (mv rfl) (sp h1 (fun h1 => ?_) (fun h1 => ?_))))))
        · have q := si h1; subst q
          exact k1 (wb rfl rfl rfl) (k1 (wb rfl rfl rfl) (k1 (wb rfl rfl rfl) (s1 (pkt rfl rfl) (SO.nil ((wq rfl))))))
        · obtain ⟨v156, hv156, h1⟩ := ob h1; have q := si h1; subst q
          exact g1 (wb rfl rfl rfl) (mv rfl) (g1 (wb rfl rfl rfl) (ixs rfl rfl rfl rfl (ix_str un9 (getI_some hv156).1 (getI_some hv156).2)) (g1 (wb rfl rfl rfl) (bi rfl rfl (q_u8_gtr (b := (122 : UInt8)))) (s1 (pkf rfl rfl) (SO.nil ((wq rfl))))))
  · rintro y153 h0
    refine cB h0 rfl (fun h0 => ?_) (fun h0 => ?_)
    · have q := si h0; subst q
      exact sr (s1 (asg rfl) (sn (SC.ret (finR (Wk.refl _) (lresT rfl lresN) rfl))))
    · refine sk (SC.seqB h0 (fun y => ⟨mk 56 [], []⟩) ?_ ?_)
      · intro u1_228 h1 h0
        obtain ⟨u2_276, h2, h1⟩ := ob h1
        refine sr (s1 (asg rfl) (sn (SC.blk (SC.loopB h2 (fun y => ⟨mk 56 [(0, .d (eS p0)), (3, .d (eI y))], []⟩) (wq rfl) ?_))))
        intro n299
        rintro y251 w2_275 h3 hv3
        refine sq (sr (s1 (mv rfl) (s1 (mv rfl) (s1 (len rfl rfl rfl (len_str un9)) (s1 (bi rfl rfl q_i64_lss) (sn (cB h3 rfl (fun h3 => ?_) (fun h3 => ?_))))))))
        · refine sk (sq (SC.blk (SC.seqP h3 (fun y => ⟨mk 56 [(0, .d (eS p0)), (3, .d (eI y251)), (55, .d (eB y))], []⟩) ?_ ?_)))
          · intro u4_288 h4
            obtain ⟨v289, hv289, h4⟩ := ob h4
            refine SC.region (s1 (mv rfl) (s1 (mv rfl) (s1 (ixs rfl rfl rfl rfl (ix_str un9 (getI_some hv289).1 (getI_some hv289).2)) (s1 (bi rfl rfl (q_u8_lss (b := (97 : UInt8)))) (s1 (mv rfl) (sp h4 (fun h4 => ?_) (fun h4 => ?_)))))))
            · obtain ⟨v290, hv290, h4⟩ := ob h4
              refine k1 (wb rfl rfl rfl) (k1 (wb rfl rfl rfl) (k1 (wb rfl rfl rfl) (k1 (wb rfl rfl rfl) (s1 (pkt rfl rfl) (s1 (mv rfl) (g1 (wb rfl rfl rfl) (mv rfl) (g1 (wb rfl rfl rfl) (mv rfl) (g1 (wb rfl rfl rfl) (ixs rfl rfl rfl rfl (ix_str un9 (getI_some hv290).1 (getI_some hv290).2)) (g1 (wb rfl rfl rfl) (bi rfl rfl (q_u8_lss (b := (48 : UInt8)))) ?_)))))))))
              refine g1 (wb rfl rfl rfl) (mv rfl) (sp h4 (fun h4 => ?_) (fun h4 => ?_))
              · obtain ⟨v291, hv291, h4⟩ := ob h4; have q := si h4; subst q
                refine k1 (wb rfl rfl rfl) (k1 (wb rfl rfl rfl) (k1 (wb rfl rfl rfl) (k1 (wb rfl rfl rfl) (g1 (wb rfl rfl rfl) (pkt rfl rfl) (s1 (pkt rfl rfl) (s1 (mv rfl) (g1 (wb rfl rfl rfl) (mv rfl) (g1 (wb rfl rfl rfl) (mv rfl) (g1 (wb rfl rfl rfl) (ixs rfl rfl rfl rfl (ix_str un9 (getI_some hv291).1 (getI_some hv291).2)) ?_)))))))))
                exact g1 (wb rfl rfl rfl) (bi rfl rfl (q_u8_neq (b := (95 : UInt8)))) (s1 (pkt rfl rfl) (SO.nil ((wq rfl))))
              · obtain ⟨v292, hv292, h4⟩ := ob h4
                refine g1 (wb rfl rfl rfl) (mv rfl) (g1 (wb rfl rfl rfl) (mv rfl) (g1 (wb rfl rfl rfl) (ixs rfl rfl rfl rfl (ix_str un9 (getI_some hv292).1 (getI_some hv292).2)) (g1 (wb rfl rfl rfl) (bi rfl rfl (q_u8_gtr (b := (57 : UInt8)))) (g1 (wb rfl rfl rfl) (pkf rfl rfl) (s1 (pkt rfl rfl) (s1 (mv rfl) (sp h4 (fun h4 => ?_) (fun h4 => ?_))))))))
                · obtain ⟨v293, hv293, h4⟩ := ob h4; have q := si h4; subst q
                  exact g1 (wb rfl rfl rfl) (mv rfl) (g1 (wb rfl rfl rfl) (mv rfl) (g1 (wb rfl rfl rfl) (ixs rfl rfl rfl rfl (ix_str un9 (getI_some hv293).1 (getI_some hv293).2)) (g1 (wb rfl rfl rfl) (bi rfl rfl (q_u8_neq (b := (95 : UInt8)))) (s1 (pkt rfl rfl) (SO.nil ((wq rfl)))))))
                · have q := si h4; subst q
                  exact k1 (wb rfl rfl rfl) (k1 (wb rfl rfl rfl) (k1 (wb rfl rfl rfl) (k1 (wb rfl rfl rfl) (s1 (pkf rfl rfl) (SO.nil ((wq rfl)))))))
            · obtain ⟨v294, hv294, h4⟩ := ob h4
              refine g1 (wb rfl rfl rfl) (mv rfl) (g1 (wb rfl rfl rfl) (mv rfl) (g1 (wb rfl rfl rfl) (ixs rfl rfl rfl rfl (ix_str un9 (getI_some hv294).1 (getI_some hv294).2)) (g1 (wb rfl rfl rfl) (bi rfl rfl (q_u8_gtr (b := (122 : UInt8)))) (s1 (pkf rfl rfl) (s1 (mv rfl) (sp h4 (fun h4 => ?_) (fun h4 => ?_)))))))
              · obtain ⟨v295, hv295, h4⟩ := ob h4
                refine g1 (wb rfl rfl rfl) (mv rfl) (g1 (wb rfl rfl rfl) (mv rfl) (g1 (wb rfl rfl rfl) (ixs rfl rfl rfl rfl (ix_str un9 (getI_some hv295).1 (getI_some hv295).2)) (g1 (wb rfl rfl rfl) (bi rfl rfl (q_u8_lss (b := (48 : UInt8)))) (g1 (wb rfl rfl rfl) (mv rfl) (sp h4 (fun h4 => ?_) (fun h4 => ?_))))))
                · obtain ⟨v296, hv296, h4⟩ := ob h4; have q := si h4; subst q
                  refine k1 (wb rfl rfl rfl) (k1 (wb rfl rfl rfl) (k1 (wb rfl rfl rfl) (k1 (wb rfl rfl rfl) (g1 (wb rfl rfl rfl) (pkt rfl rfl) (s1 (pkt rfl rfl) (s1 (mv rfl) (g1 (wb rfl rfl rfl) (mv rfl) (g1 (wb rfl rfl rfl) (mv rfl) (g1 (wb rfl rfl rfl) (ixs rfl rfl rfl rfl (ix_str un9 (getI_some hv296).1 (getI_some hv296).2)) ?_)))))))))
                  exact g1 (wb rfl rfl rfl) (bi rfl rfl (q_u8_neq (b := (95 : UInt8)))) (s1 (pkt rfl rfl) (SO.nil ((wq rfl))))
                · obtain ⟨v297, hv297, h4⟩ := ob h4
                  refine g1 (wb rfl rfl rfl) (mv rfl) (g1 (wb rfl rfl rfl) (mv rfl) (g1 (wb rfl rfl rfl) (ixs rfl rfl rfl rfl (ix_str un9 (getI_some hv297).1 (getI_some hv297).2)) (g1 (wb rfl rfl rfl) (bi rfl rfl (q_u8_gtr (b := (57 : UInt8)))) (g1 (wb rfl rfl rfl) (pkf rfl rfl) (s1 (pkt rfl rfl) (s1 (mv rfl) (sp h4 (fun h4 => ?_) (fun h4 => ?_))))))))
                  · obtain ⟨v298, hv298, h4⟩ := ob h4; have q := si h4; subst q
                    exact g1 (wb rfl rfl rfl) (mv rfl) (g1 (wb rfl rfl rfl) (mv rfl) (g1 (wb rfl rfl rfl) (ixs rfl rfl rfl rfl (ix_str un9 (getI_some hv298).1 (getI_some hv298).2)) (g1 (wb rfl rfl rfl) (bi rfl rfl (q_u8_neq (b := (95 : UInt8)))) (s1 (pkt rfl rfl) (SO.nil ((wq rfl)))))))
                  · have q := si h4; subst q
                    exact k1 (wb rfl rfl rfl) (k1 (wb rfl rfl rfl) (k1 (wb rfl rfl rfl) (k1 (wb rfl rfl rfl) (s1 (pkf rfl rfl) (SO.nil ((wq rfl)))))))
              · have q := si h4; subst q
                refine k1 (wb rfl rfl rfl) (k1 (wb rfl rfl rfl) (k1 (wb rfl rfl rfl) (k1 (wb rfl rfl rfl) (k1 (wb rfl rfl rfl) (k1 (wo rfl rfl) (k1 (wo rfl rfl) (k1 (wo rfl rfl) (k1 (wo rfl rfl) (k1 (wb rfl rfl rfl) ?_)))))))))
                exact s1 (pkf rfl rfl) (s1 (mv rfl) (k1 (wb rfl rfl rfl) (k1 (wb rfl rfl rfl) (k1 (wb rfl rfl rfl) (k1 (wb rfl rfl rfl) (s1 (pkf rfl rfl) (SO.nil ((wq rfl)))))))))
          · rintro y287 h3
            refine cB h3 rfl (fun h3 => ?_) (fun h3 => ?_)
            · have q := si h3; subst q; have q : _ = _ := hv3; subst q; have q := si h1; subst q; have q := si h0; subst q
              exact sr (s1 (asg rfl) (sn (SC.ret (finR (Wk.refl _) (lresT rfl lresN) rfl))))
            · refine SC.skip ?_
              change SC _ _ _ _ _
              have q := si h3; subst q
              exact SC.region (s1 (mv rfl) (s1 (bi rfl rfl q_i64_add) (s1 (asg rfl) (SO.nil (lf (wq rfl))))))
        · have q := si h3; subst q; have q : _ = _ := hv3; subst q; have q := si h1; subst q
          exact SC.exit (lf (wq rfl))
      · intro _ h0
        have q := si h0; subst q
        exact sr (s1 (asg rfl) (sn (SC.ret (finR (Wk.refl _) (lresT rfl lresN) rfl))))

/-- granary/granaryref06.utf8 -/
noncomputable def ref06_utf8 (p0 : List UInt8) : Option Bool :=
  bindE (Y := Unit) (E := Bool)
    (Option.bind (α := Unit ⊕ Bool)
      (loop (Y := Int) (W := Unit ⊕ Bool) (fun y549 =>
        bif (decide (y549 < (p0.length : Int))) then
          Option.bind (getI p0 y549) fun v606 =>
          bindE (Y := Int × Int × Int) (E := Bool)
            (bif (decide ((v606.toNat : Int) < (128 : Int))) then
              some (Sum.inl ((1 : Int), (0 : Int), (v606.toNat : Int)))
            else
              Option.bind (α := Bool)
                (bif (decide ((v606.toNat : Int) ≥ (194 : Int))) then
                  some (decide ((v606.toNat : Int) < (224 : Int)))
                else
                  some false)
                fun y617 =>
              bif y617 then
                some (Sum.inl ((2 : Int), (128 : Int), (w64 ((v606.toNat : Int) - (192 : Int)))))
              else
                Option.bind (α := Bool)
                  (bif (decide ((v606.toNat : Int) ≥ (224 : Int))) then
                    some (decide ((v606.toNat : Int) < (240 : Int)))
                  else
                    some false)
                  fun y619 =>
                bif y619 then
                  some (Sum.inl ((3 : Int), (2048 : Int), (w64 ((v606.toNat : Int) - (224 : Int)))))
                else
                  Option.bind (α := Bool)
                    (bif (decide ((v606.toNat : Int) ≥ (240 : Int))) then
                      some (decide ((v606.toNat : Int) < (245 : Int)))
                    else
                      some false)
                    fun y621 =>
                  bif y621 then
                    some (Sum.inl ((4 : Int), (65536 : Int), (w64 ((v606.toNat : Int) - (240 : Int)))))
                  else
                    some (Sum.inr false))
            (fun (y613, y614, y615) =>
              bif (decide ((w64 (y549 + y613)) > (p0.length : Int))) then
                some (Sum.inr (Sum.inr false))
              else
                bindE (Y := Int) (E := Bool)
                  (Option.bind (α := Int ⊕ Bool)
                    (loop (Y := Int × Int) (W := Int ⊕ Bool) (fun (y644, y645) =>
                      bif (decide (y645 < y613)) then
                        Option.bind (getI p0 (w64 (y549 + y645))) fun v653 =>
                        Option.bind (α := Bool)
                          (bif (decide ((v653.toNat : Int) < (128 : Int))) then
                            some true
                          else
                            some (decide ((v653.toNat : Int) ≥ (192 : Int))))
                          fun y654 =>
                        bif y654 then
                          some (Sum.inr (Sum.inr false))
                        else
                          some (Sum.inl ((w64 ((w64 ((w64 (y644 * (64 : Int))) + (v653.toNat : Int))) - (128 : Int))), (w64 (y645 + (1 : Int)))))
                      else
                        some (Sum.inr (Sum.inl y644))) (y615, (1 : Int)))
                    (Sum.elim (fun e => some (Sum.inl e)) (fun e => some (Sum.inr e))))
                  (fun y639 =>
                    Option.bind (α := Bool)
                      (bif (decide (y639 < y614)) then
                        some true
                      else
                        bif (decide (y639 > (1114111 : Int))) then
                          some true
                        else
                          bif (decide (y639 ≥ (55296 : Int))) then
                            some (decide (y639 < (57344 : Int)))
                          else
                            some false)
                      fun y657 =>
                    bif y657 then
                      some (Sum.inr (Sum.inr false))
                    else
                      some (Sum.inl (w64 (y549 + y613))))
                  (fun e => some (Sum.inr (Sum.inr e))))
            (fun e => some (Sum.inr (Sum.inr e)))
        else
          some (Sum.inr (Sum.inl ()))) (0 : Int))
      (Sum.elim (fun e => some (Sum.inl e)) (fun e => some (Sum.inr e))))
    (fun _ =>
      some true)
    (fun e => some e)
theorem ref06_utf8_ok (p0 : List UInt8) (r : Bool) (h0 : ref06_utf8 p0 = some r) : CallAt Tryd.prog 61 [.d (eS p0)] [] (.d (eB r)) [] := by
  unfold ref06_utf8 at h0
  refine fn0 [0] Tryd.func61 rfl rfl rfl rfl rfl ?_
  refine sr (s1 (asg rfl) (sn (SC.seqB h0 (fun y => ⟨mk 95 [], []⟩) ?_ ?_)))
  · intro u1_495 h1 h0
    obtain ⟨u2_605, h2, h1⟩ := ob h1
    refine sr (s1 (asg rfl) (sn (SC.blk (SC.loopB h2 (fun y => ⟨mk 95 [(0, .d (eS p0)), (3, .d (eI y))], []⟩) (wq rfl) ?_))))
    intro n659
    rintro y549 w2_604 h3 hv3
    refine sq (sr (s1 (mv rfl) (s1 (mv rfl) (s1 (len rfl rfl rfl (len_str un9)) (s1 (bi rfl rfl q_i64_lss) (sn (cB h3 rfl (fun h3 => ?_) (fun h3 => ?_))))))))
    · obtain ⟨v606, hv606, h3⟩ := ob h3
      refine sk (SC.blk (sr (s1 (mv rfl) (s1 (mv rfl) (s1 (ixs rfl rfl rfl rfl (ix_str un9 (getI_some hv606).1 (getI_some hv606).2)) (s1 (cvo rfl (cv_u8_i64 un5 un3 v606)) (s1 (asg rfl) (sn (sr ?_)))))))))
      refine s1 (asg rfl) (sn (sr (s1 (asg rfl) (sn (sr (s1 (mv rfl) (s1 (asg rfl) (sn (SC.seqB h3 (fun y => ⟨mk 95 [(0, .d (eS p0)), (3, .d (eI y549)), (5, .d (eI y.1)), (6, .d (eI y.2.1)), (7, .d (eI y.2.2))], []⟩) ?_ ?_)))))))))
      · intro u4_616 h4 h3
        refine SC.blk (sr (s1 (mv rfl) (s1 (bi rfl rfl q_i64_lss) (s1 (asg rfl) (sn (cB h4 rfl (fun h4 => ?_) (fun h4 => ?_)))))))
        · have q := si h4; subst q
          exact SC.skip (lf (wq rfl))
        · refine SC.seqP h4 (fun y => ⟨mk 95 [(0, .d (eS p0)), (3, .d (eI y549)), (4, .d (eI (v606.toNat : Int))), (22, .d (eB y))], []⟩) ?_ ?_
          · intro u5_618 h5
            refine SC.region (s1 (mv rfl) (s1 (bi rfl rfl q_i64_geq) (s1 (mv rfl) (sp h5 (fun h5 => ?_) (fun h5 => ?_)))))
            · have q := si h5; subst q
              exact g1 (wb rfl rfl rfl) (mv rfl) (g1 (wb rfl rfl rfl) (bi rfl rfl q_i64_lss) (s1 (pkt rfl rfl) (s1 (asg rfl) (SO.nil ((wq rfl))))))
            · have q := si h5; subst q
              exact k1 (wb rfl rfl rfl) (k1 (wb rfl rfl rfl) (s1 (pkf rfl rfl) (s1 (asg rfl) (SO.nil ((wq rfl))))))
          · rintro y617 h4
            refine cB h4 rfl (fun h4 => ?_) (fun h4 => ?_)
            · have q := si h4; subst q
              exact SC.region (s1 (mv rfl) (s1 (bi rfl rfl q_i64_sub) (s1 (asg rfl) (s1 (asg rfl) (s1 (asg rfl) (SO.nil (lf (wq rfl))))))))
            · refine SC.seqP h4 (fun y => ⟨mk 95 [(0, .d (eS p0)), (3, .d (eI y549)), (4, .d (eI (v606.toNat : Int))), (31, .d (eB y))], []⟩) ?_ ?_
              · intro u5_620 h5
                refine SC.region (s1 (mv rfl) (s1 (bi rfl rfl q_i64_geq) (s1 (mv rfl) (sp h5 (fun h5 => ?_) (fun h5 => ?_)))))
                · have q := si h5; subst q
                  exact g1 (wb rfl rfl rfl) (mv rfl) (g1 (wb rfl rfl rfl) (bi rfl rfl q_i64_lss) (s1 (pkt rfl rfl) (s1 (asg rfl) (SO.nil ((wq rfl))))))
                · have q := si h5; subst q
                  exact k1 (wb rfl rfl rfl) (k1 (wb rfl rfl rfl) (s1 (pkf rfl rfl) (s1 (asg rfl) (SO.nil ((wq rfl))))))
              · rintro y619 h4
                refine cB h4 rfl (fun h4 => ?_) (fun h4 => ?_)
                · have q := si h4; subst q
                  exact SC.region (s1 (mv rfl) (s1 (bi rfl rfl q_i64_sub) (s1 (asg rfl) (s1 (asg rfl) (s1 (asg rfl) (SO.nil (lf (wq rfl))))))))
                · refine SC.seqP h4 (fun y => ⟨mk 95 [(0, .d (eS p0)), (3, .d (eI y549)), (4, .d (eI (v606.toNat : Int))), (40, .d (eB y))], []⟩) ?_ ?_
                  · intro u5_622 h5
                    refine SC.region (s1 (mv rfl) (s1 (bi rfl rfl q_i64_geq) (s1 (mv rfl) (sp h5 (fun h5 => ?_) (fun h5 => ?_)))))
                    · have q := si h5; subst q
                      exact g1 (wb rfl rfl rfl) (mv rfl) (g1 (wb rfl rfl rfl) (bi rfl rfl q_i64_lss) (s1 (pkt rfl rfl) (s1 (asg rfl) (SO.nil ((wq rfl))))))
                    · have q := si h5; subst q
                      exact k1 (wb rfl rfl rfl) (k1 (wb rfl rfl rfl) (s1 (pkf rfl rfl) (s1 (asg rfl) (SO.nil ((wq rfl))))))
                  · rintro y621 h4
                    refine cB h4 rfl (fun h4 => ?_) (fun h4 => ?_)
                    · have q := si h4; subst q
                      exact SC.region (s1 (mv rfl) (s1 (bi rfl rfl q_i64_sub) (s1 (asg rfl) (s1 (asg rfl) (s1 (asg rfl) (SO.nil (lf (wq rfl))))))))
                    · have q := si h4; subst q; have q := si h3; subst q; have q : _ = _ := hv3; subst q; have q := si h1; subst q; have q := si h0; subst q
                      exact sr (s1 (asg rfl) (sn (SC.ret (finR (Wk.refl _) (lresT rfl lresN) rfl))))
      · rintro ⟨y613, y614, y615⟩ h3
        refine sq (sr (s1 (mv rfl) (s1 (mv rfl) (s1 (bi rfl rfl q_i64_add) (s1 (mv rfl) (s1 (len rfl rfl rfl (len_str un9)) (s1 (bi rfl rfl q_i64_gtr) (sn (cB h3 rfl (fun h3 => ?_) (fun h3 => ?_))))))))))
        · have q := si h3; subst q; have q : _ = _ := hv3; subst q; have q := si h1; subst q; have q := si h0; subst q
          exact sr (s1 (asg rfl) (sn (SC.ret (finR (Wk.refl _) (lresT rfl lresN) rfl))))
        · refine sk (SC.seqB h3 (fun y => ⟨mk 95 [(0, .d (eS p0)), (3, .d (eI y549)), (5, .d (eI y613)), (6, .d (eI y614)), (7, .d (eI y))], []⟩) ?_ ?_)
          · intro u4_640 h4 h3
            obtain ⟨u5_652, h5, h4⟩ := ob h4
            refine sr (s1 (asg rfl) (sn (SC.blk (SC.loopB h5 (fun y => ⟨mk 95 [(0, .d (eS p0)), (3, .d (eI y549)), (5, .d (eI y613)), (6, .d (eI y614)), (7, .d (eI y.1)), (8, .d (eI y.2))], []⟩) (wq rfl) ?_))))
            intro n656
            rintro ⟨y644, y645⟩ w5_651 h6 hv6
            refine sq (sr (s1 (mv rfl) (s1 (mv rfl) (s1 (bi rfl rfl q_i64_lss) (sn (cB h6 rfl (fun h6 => ?_) (fun h6 => ?_)))))))
            · obtain ⟨v653, hv653, h6⟩ := ob h6
              refine sk (sq (SC.blk (sr (s1 (mv rfl) (s1 (mv rfl) (s1 (mv rfl) (s1 (bi rfl rfl q_i64_add) (s1 (ixs rfl rfl rfl rfl (ix_str un9 (getI_some hv653).1 (getI_some hv653).2)) (s1 (cvo rfl (cv_u8_i64 un5 un3 v653)) ?_)))))))))
              refine s1 (asg rfl) (sn (sq (SC.seqP h6 (fun y => ⟨mk 95 [(0, .d (eS p0)), (3, .d (eI y549)), (5, .d (eI y613)), (6, .d (eI y614)), (7, .d (eI y644)), (8, .d (eI y645)), (9, .d (eI (v653.toNat : Int))), (71, .d (eB y))], []⟩) ?_ ?_)))
              · intro u7_655 h7
                refine SC.region (s1 (mv rfl) (s1 (bi rfl rfl q_i64_lss) (s1 (mv rfl) (sp h7 (fun h7 => ?_) (fun h7 => ?_)))))
                · have q := si h7; subst q
                  exact k1 (wb rfl rfl rfl) (k1 (wb rfl rfl rfl) (s1 (pkt rfl rfl) (SO.nil ((wq rfl)))))
                · have q := si h7; subst q
                  exact g1 (wb rfl rfl rfl) (mv rfl) (g1 (wb rfl rfl rfl) (bi rfl rfl q_i64_geq) (s1 (pkf rfl rfl) (SO.nil ((wq rfl)))))
              · rintro y654 h6
                refine cB h6 rfl (fun h6 => ?_) (fun h6 => ?_)
                · have q := si h6; subst q; have q : _ = _ := hv6; subst q; have q := si h4; subst q; have q := si h3; subst q; have q : _ = _ := hv3; subst q; have q := si h1; subst q; have q := si h0; subst q
                  exact sr (s1 (asg rfl) (sn (SC.ret (finR (Wk.refl _) (lresT rfl lresN) rfl))))
                · refine sk (SC.region (s1 (mv rfl) (s1 (bi rfl rfl q_i64_mul) (s1 (mv rfl) (s1 (bi rfl rfl q_i64_add) (s1 (bi rfl rfl q_i64_sub) (s1 (asg rfl) (SO.nil ?_))))))))
                  change SC _ _ _ _ _
                  have q := si h6; subst q
                  exact SC.region (s1 (mv rfl) (s1 (bi rfl rfl q_i64_add) (s1 (asg rfl) (SO.nil (lf (wq rfl))))))
            · have q := si h6; subst q; have q : _ = _ := hv6; subst q; have q := si h4; subst q
              exact SC.exit (lf (wq rfl))
          · rintro y639 h3
            refine sq (SC.seqP h3 (fun y => ⟨mk 95 [(0, .d (eS p0)), (3, .d (eI y549)), (5, .d (eI y613)), (91, .d (eB y))], []⟩) ?_ ?_)
            · intro u4_658 h4
              refine SC.region (s1 (mv rfl) (s1 (mv rfl) (s1 (bi rfl rfl q_i64_lss) (s1 (mv rfl) (sp h4 (fun h4 => ?_) (fun h4 => ?_))))))
              · have q := si h4; subst q
                refine k1 (wb rfl rfl rfl) (k1 (wb rfl rfl rfl) (s1 (pkt rfl rfl) (s1 (mv rfl) (k1 (wb rfl rfl rfl) (k1 (wb rfl rfl rfl) (k1 (wb rfl rfl rfl) (k1 (wo rfl rfl) (k1 (wo rfl rfl) (k1 (wb rfl rfl rfl) ?_)))))))))
                exact s1 (pkt rfl rfl) (SO.nil ((wq rfl)))
              · refine g1 (wb rfl rfl rfl) (mv rfl) (g1 (wb rfl rfl rfl) (bi rfl rfl q_i64_gtr) (s1 (pkf rfl rfl) (s1 (mv rfl) (sp h4 (fun h4 => ?_) (fun h4 => ?_)))))
                · have q := si h4; subst q
                  exact k1 (wb rfl rfl rfl) (k1 (wb rfl rfl rfl) (k1 (wb rfl rfl rfl) (k1 (wo rfl rfl) (k1 (wo rfl rfl) (k1 (wb rfl rfl rfl) (s1 (pkt rfl rfl) (SO.nil ((wq rfl)))))))))
                · refine g1 (wb rfl rfl rfl) (mv rfl) (g1 (wb rfl rfl rfl) (bi rfl rfl q_i64_geq) (g1 (wb rfl rfl rfl) (mv rfl) (sp h4 (fun h4 => ?_) (fun h4 => ?_))))
                  · have q := si h4; subst q
                    exact g1 (wb rfl rfl rfl) (mv rfl) (g1 (wb rfl rfl rfl) (bi rfl rfl q_i64_lss) (g1 (wb rfl rfl rfl) (pkt rfl rfl) (s1 (pkf rfl rfl) (SO.nil ((wq rfl))))))
                  · have q := si h4; subst q
                    exact k1 (wb rfl rfl rfl) (k1 (wb rfl rfl rfl) (g1 (wb rfl rfl rfl) (pkf rfl rfl) (s1 (pkf rfl rfl) (SO.nil ((wq rfl))))))
            · rintro y657 h3
              refine cB h3 rfl (fun h3 => ?_) (fun h3 => ?_)
              · have q := si h3; subst q; have q : _ = _ := hv3; subst q; have q := si h1; subst q; have q := si h0; subst q
                exact sr (s1 (asg rfl) (sn (SC.ret (finR (Wk.refl _) (lresT rfl lresN) rfl))))
              · have q := si h3; subst q
                exact sk (SC.region (s1 (mv rfl) (s1 (mv rfl) (s1 (bi rfl rfl q_i64_add) (s1 (asg rfl) (SO.nil (lf (wq rfl))))))))
    · have q := si h3; subst q; have q : _ = _ := hv3; subst q; have q := si h1; subst q
      exact SC.exit (lf (wq rfl))
  · intro _ h0
    have q := si h0; subst q
    exact sr (s1 (asg rfl) (sn (SC.ret (finR (Wk.refl _) (lresT rfl lresN) rfl))))

/-- granary/granaryref06.Valid -/
noncomputable def ref06_Valid (p0 : ApiValue) : Option Bool :=
  bif (p0.Kind == (0 : Int)) then
    Option.bind (α := Bool)
      (bif (p0.N == (0 : UInt64)) then
        some (p0.S == ([] : List UInt8))
      else
        some false)
      fun y16 =>
    some y16
  else
    Option.bind (α := Bool)
      (bif (p0.Kind == (1 : Int)) then
        some (p0.Kind == (1 : Int))
      else
        some (p0.Kind == (2 : Int)))
      fun y18 =>
    bif y18 then
      some (p0.S == ([] : List UInt8))
    else
      bif (p0.Kind == (3 : Int)) then
        Option.bind (α := Bool)
          (bif (decide (p0.N < (2 : UInt64))) then
            some (p0.S == ([] : List UInt8))
          else
            some false)
          fun y20 =>
        some y20
      else
        bif (p0.Kind == (4 : Int)) then
          Option.bind (α := Bool)
            (bif (p0.N == (0 : UInt64)) then
              some (decide ((p0.S.length : Int) ≤ (64 : Int)))
            else
              some false)
            fun y22 =>
          some y22
        else
          bif (p0.Kind == (5 : Int)) then
            Option.bind (α := Bool)
              (bif (p0.N == (0 : UInt64)) then
                bif (decide ((p0.S.length : Int) ≤ (64 : Int))) then
                  Option.bind (ref06_utf8 p0.S) fun r28 =>
                  some r28
                else
                  some false
              else
                some false)
              fun y26 =>
            some y26
          else
            some false
theorem ref06_Valid_ok (p0 : ApiValue) (r : Bool) (h0 : ref06_Valid p0 = some r) : CallAt Tryd.prog 48 [.d (eApiValue p0)] [] (.d (eB r)) [] := by
  unfold ref06_Valid at h0
  refine fn0 [0] Tryd.func48 rfl rfl rfl rfl rfl ?_
  refine sr (s1 (bxo (k := 0) rfl rfl rfl) (s1 (asg rfl) (sn (sq (sr (s1 (far (k := 0) rfl fo72_0 ts3 rfl) (s1 (lod rfl (ld_box ts3 ta3 rfl rfl)) (sn (SC.blk ?_)))))))))
  refine sr (s1 (bi rfl rfl q_i64_eql) (s1 (asg rfl) (sn (cB h0 rfl (fun h0 => ?_) (fun h0 => ?_)))))
  · refine SC.seqP h0 (fun y => ⟨mk 58 [(2, .d (eB y))], []⟩) ?_ ?_
    · intro u1_17 h1
      refine SC.region (s1 (far (k := 1) rfl fo72_1 ts59 rfl) (s1 (lod rfl (ld_box ts59 ta59 rfl rfl)) (s1 (bi rfl rfl (q_u64_eql (b := (0 : UInt64)))) (s1 (mv rfl) (sp h1 (fun h1 => ?_) (fun h1 => ?_))))))
      · have q := si h1; subst q
        exact g1 (wb rfl rfl rfl) (far (k := 2) rfl fo72_2 ts9 rfl) (g1 (wb rfl rfl rfl) (lod rfl (ld_box ts9 ta9 rfl rfl)) (g1 (wb rfl rfl rfl) (bi rfl rfl (q_str_eql (b := ([] : List UInt8)))) (s1 (pkt rfl rfl) (s1 (asg rfl) (SO.nil ((wc [] [] (by kernel_rfl) rfl (by kernel_rfl))))))))
      · have q := si h1; subst q
        exact k1 (wb rfl rfl rfl) (k1 (wb rfl rfl rfl) (k1 (wb rfl rfl rfl) (s1 (pkf rfl rfl) (s1 (asg rfl) (SO.nil ((wc [] [] (by kernel_rfl) rfl (by kernel_rfl))))))))
    · rintro y16 h0
      have q := si h0; subst q
      exact SC.ret (finR (Wk.refl _) (lresT rfl lresN) rfl)
  · refine SC.seqP h0 (fun y => ⟨mk 58 [(1, .ref 0 0 0), (4, .d (eI p0.Kind)), (15, .d (eB y))], [.box (.d (eApiValue p0))]⟩) ?_ ?_
    · intro u1_19 h1
      refine sr (s1 (bi rfl rfl q_i64_eql) (s1 (asg rfl) (sn (cB h1 rfl (fun h1 => ?_) (fun h1 => ?_)))))
      · have q := si h1; subst q
        exact SC.skip ((wq rfl))
      · have q := si h1; subst q
        exact SC.region (s1 (bi rfl rfl q_i64_eql) (s1 (asg rfl) (SO.nil ((wq rfl)))))
    · rintro y18 h0
      refine cB h0 rfl (fun h0 => ?_) (fun h0 => ?_)
      · have q := si h0; subst q
        exact sr (s1 (far (k := 2) rfl fo72_2 ts9 rfl) (s1 (lod rfl (ld_box ts9 ta9 rfl rfl)) (s1 (bi rfl rfl (q_str_eql (b := ([] : List UInt8)))) (s1 (asg rfl) (sn (SC.ret (finR (wc (e' := [(2, .d (eB (p0.S == ([] : List UInt8))))]) [] [] (by kernel_rfl) rfl (by kernel_rfl)) (lresT rfl lresN) rfl)))))))
      · refine sr (s1 (bi rfl rfl q_i64_eql) (s1 (asg rfl) (sn (cB h0 rfl (fun h0 => ?_) (fun h0 => ?_)))))
        · refine SC.seqP h0 (fun y => ⟨mk 58 [(2, .d (eB y))], []⟩) ?_ ?_
          · intro u1_21 h1
            refine SC.region (s1 (far (k := 1) rfl fo72_1 ts59 rfl) (s1 (lod rfl (ld_box ts59 ta59 rfl rfl)) (s1 (bi rfl rfl (q_u64_lss (b := (2 : UInt64)))) (s1 (mv rfl) (sp h1 (fun h1 => ?_) (fun h1 => ?_))))))
            · have q := si h1; subst q
              exact g1 (wb rfl rfl rfl) (far (k := 2) rfl fo72_2 ts9 rfl) (g1 (wb rfl rfl rfl) (lod rfl (ld_box ts9 ta9 rfl rfl)) (g1 (wb rfl rfl rfl) (bi rfl rfl (q_str_eql (b := ([] : List UInt8)))) (s1 (pkt rfl rfl) (s1 (asg rfl) (SO.nil ((wc [] [] (by kernel_rfl) rfl (by kernel_rfl))))))))
            · have q := si h1; subst q
              exact k1 (wb rfl rfl rfl) (k1 (wb rfl rfl rfl) (k1 (wb rfl rfl rfl) (s1 (pkf rfl rfl) (s1 (asg rfl) (SO.nil ((wc [] [] (by kernel_rfl) rfl (by kernel_rfl))))))))
          · rintro y20 h0
            have q := si h0; subst q
            exact SC.ret (finR (Wk.refl _) (lresT rfl lresN) rfl)
        · refine sr (s1 (bi rfl rfl q_i64_eql) (s1 (asg rfl) (sn (cB h0 rfl (fun h0 => ?_) (fun h0 => ?_)))))
          · refine SC.seqP h0 (fun y => ⟨mk 58 [(2, .d (eB y))], []⟩) ?_ ?_
            · intro u1_23 h1
              refine SC.region (s1 (far (k := 1) rfl fo72_1 ts59 rfl) (s1 (lod rfl (ld_box ts59 ta59 rfl rfl)) (s1 (bi rfl rfl (q_u64_eql (b := (0 : UInt64)))) (s1 (mv rfl) (sp h1 (fun h1 => ?_) (fun h1 => ?_))))))
              · have q := si h1; subst q
                exact g1 (wb rfl rfl rfl) (far (k := 2) rfl fo72_2 ts9 rfl) (g1 (wb rfl rfl rfl) (lod rfl (ld_box ts9 ta9 rfl rfl)) (g1 (wb rfl rfl rfl) (len rfl rfl rfl (len_str un9)) (g1 (wb rfl rfl rfl) (bi rfl rfl q_i64_leq) (s1 (pkt rfl rfl) (s1 (asg rfl) (SO.nil ((wc [] [] (by kernel_rfl) rfl (by kernel_rfl)))))))))
              · have q := si h1; subst q
                exact k1 (wb rfl rfl rfl) (k1 (wb rfl rfl rfl) (k1 (wb rfl rfl rfl) (k1 (wb rfl rfl rfl) (s1 (pkf rfl rfl) (s1 (asg rfl) (SO.nil ((wc [] [] (by kernel_rfl) rfl (by kernel_rfl)))))))))
            · rintro y22 h0
              have q := si h0; subst q
              exact SC.ret (finR (Wk.refl _) (lresT rfl lresN) rfl)
          · refine sr (s1 (bi rfl rfl q_i64_eql) (s1 (asg rfl) (sn (cB h0 rfl (fun h0 => ?_) (fun h0 => ?_)))))
            · refine SC.seqP h0 (fun y => ⟨mk 58 [(2, .d (eB y))], []⟩) ?_ ?_
              · intro u1_27 h1
                refine SC.region (s1 (far (k := 1) rfl fo72_1 ts59 rfl) (s1 (lod rfl (ld_box ts59 ta59 rfl rfl)) (s1 (bi rfl rfl (q_u64_eql (b := (0 : UInt64)))) (s1 (mv rfl) (sp h1 (fun h1 => ?_) (fun h1 => ?_))))))
                · refine g1 (wb rfl rfl rfl) (far (k := 2) rfl fo72_2 ts9 rfl) (g1 (wb rfl rfl rfl) (lod rfl (ld_box ts9 ta9 rfl rfl)) (g1 (wb rfl rfl rfl) (len rfl rfl rfl (len_str un9)) (g1 (wb rfl rfl rfl) (bi rfl rfl q_i64_leq) (s1 (pkt rfl rfl) (s1 (mv rfl) (sp h1 (fun h1 => ?_) (fun h1 => ?_)))))))
                  · obtain ⟨r28, hq29, h1⟩ := ob h1; have q := si h1; subst q
                    exact g1 (wb rfl rfl rfl) (far (k := 2) rfl fo72_2 ts9 rfl) (g1 (wb rfl rfl rfl) (lod rfl (ld_box ts9 ta9 rfl rfl)) (c0 (ref06_utf8_ok p0.S _ hq29) (wb rfl rfl rfl) rfl rfl rfl cb61 rfl (fun _ => rfl) (fun _ => rfl) (s1 (pkt rfl rfl) (s1 (asg rfl) (SO.nil ((wc [] [] (by kernel_rfl) rfl (by kernel_rfl))))))))
                  · have q := si h1; subst q
                    exact k1 (wb rfl rfl rfl) (k1 (wb rfl rfl rfl) (k1 (wb rfl rfl rfl) (s1 (pkf rfl rfl) (s1 (asg rfl) (SO.nil ((wc [] [] (by kernel_rfl) rfl (by kernel_rfl))))))))
                · have q := si h1; subst q
                  refine k1 (wb rfl rfl rfl) (k1 (wb rfl rfl rfl) (k1 (wb rfl rfl rfl) (k1 (wb rfl rfl rfl) (s1 (pkf rfl rfl) (s1 (mv rfl) (k1 (wb rfl rfl rfl) (k1 (wb rfl rfl rfl) (k1 (wb rfl rfl rfl) (s1 (pkf rfl rfl) ?_)))))))))
                  exact s1 (asg rfl) (SO.nil ((wc [] [] (by kernel_rfl) rfl (by kernel_rfl))))
              · rintro y26 h0
                have q := si h0; subst q
                exact SC.ret (finR (Wk.refl _) (lresT rfl lresN) rfl)
            · refine SC.skip ?_
              change SC _ _ _ _ _
              have q := si h0; subst q
              exact sr (s1 (asg rfl) (sn (SC.ret (finR (wc (e' := [(2, .d (eB false))]) [] [] (by kernel_rfl) rfl (by kernel_rfl)) (lresT rfl lresN) rfl))))

/-- granary/granaryref06.Fits -/
noncomputable def ref06_Fits (p0 : ApiColumn) (p1 : ApiValue) : Option Int :=
  Option.bind (α := Bool)
    (Option.bind (ref06_Valid p1) fun r14 =>
    bif (!r14) then
      some true
    else
      bif (p1.Kind == (0 : Int)) then
        bif (!p0.Nulls) then
          some true
        else
          bif (p1.Kind != (0 : Int)) then
            some (p1.Kind != p0.Kind)
          else
            some false
      else
        bif (p1.Kind != (0 : Int)) then
          some (p1.Kind != p0.Kind)
        else
          some false)
    fun y12 =>
  bif y12 then
    some (8 : Int)
  else
    Option.bind (α := Bool)
      (bif (p1.Kind == (4 : Int)) then
        some (decide ((p1.S.length : Int) > p0.Max))
      else
        bif (p1.Kind == (5 : Int)) then
          some (decide ((p1.S.length : Int) > p0.Max))
        else
          some false)
      fun y16 =>
    bif y16 then
      some (7 : Int)
    else
      some (0 : Int)
theorem ref06_Fits_ok (p0 : ApiColumn) (p1 : ApiValue) (r : Int) (h0 : ref06_Fits p0 p1 = some r) : CallAt Tryd.prog 33 [.d (eApiColumn p0), .d (eApiValue p1)] [] (.d (eI r)) [] := by
  unfold ref06_Fits at h0
  refine fn0 [0, 1] Tryd.func33 rfl rfl rfl rfl rfl ?_
  refine sr (s1 (bxo (k := 0) rfl rfl rfl) (s1 (bxo (k := 1) rfl rfl rfl) (s1 (asg rfl) (sn (sq (SC.seqP h0 (fun y => ⟨mk 46 [(2, .ref 0 0 0), (3, .ref 1 0 0), (29, .d (eB y))], [.box (.d (eApiColumn p0)), .box (.d (eApiValue p1))]⟩) ?_ ?_))))))
  · intro u1_13 h1
    obtain ⟨r14, hq15, h1⟩ := ob h1
    refine SC.region (s1 (lod (v := .d (eApiValue p1)) rfl (ld_box ts72 ta72 rfl rfl)) (c0 (ref06_Valid_ok p1 _ hq15) wf rfl rfl rfl cb48 rfl (fun _ => rfl) (fun _ => rfl) (s1 (nt rfl) (s1 (mv rfl) (sp h1 (fun h1 => ?_) (fun h1 => ?_))))))
    · have q := si h1; subst q
      refine k1 (wb rfl rfl rfl) (k1 (wb rfl rfl rfl) (k1 (wb rfl rfl rfl) (k1 (wb rfl rfl rfl) (k1 (wo rfl rfl) (k1 (wo rfl rfl) (k1 (wo rfl rfl) (k1 (wb rfl rfl rfl) (s1 (pkt rfl rfl) (s1 (mv rfl) ?_)))))))))
      refine k1 (wb rfl rfl rfl) (k1 (wb rfl rfl rfl) (k1 (wb rfl rfl rfl) (k1 (wb rfl rfl rfl) (k1 (wo rfl rfl) (k1 (wo rfl rfl) (k1 (wo rfl rfl) (k1 (wo rfl rfl) (k1 (wo rfl rfl) (k1 (wb rfl rfl rfl) ?_)))))))))
      exact s1 (pkt rfl rfl) (SO.nil ((wq rfl)))
    · refine g1 (wb rfl rfl rfl) (far (k := 0) rfl fo72_0 ts3 rfl) (g1 (wb rfl rfl rfl) (lod rfl (ld_box ts3 ta3 rfl rfl)) (g1 (wb rfl rfl rfl) (bi rfl rfl q_i64_eql) (g1 (wb rfl rfl rfl) (mv rfl) (sp h1 (fun h1 => ?_) (fun h1 => ?_)))))
      · refine g1 (wb rfl rfl rfl) (far (k := 3) rfl fo74_3 ts4 rfl) (g1 (wb rfl rfl rfl) (lod rfl (ld_box ts4 ta4 rfl rfl)) (g1 (wb rfl rfl rfl) (nt rfl) (g1 (wb rfl rfl rfl) (pkt rfl rfl) (s1 (pkf rfl rfl) (s1 (mv rfl) (sp h1 (fun h1 => ?_) (fun h1 => ?_)))))))
        · have q := si h1; subst q
          refine k1 (wb rfl rfl rfl) (k1 (wb rfl rfl rfl) (k1 (wb rfl rfl rfl) (k1 (wb rfl rfl rfl) (k1 (wo rfl rfl) (k1 (wo rfl rfl) (k1 (wo rfl rfl) (k1 (wo rfl rfl) (k1 (wo rfl rfl) (k1 (wb rfl rfl rfl) ?_)))))))))
          exact s1 (pkt rfl rfl) (SO.nil ((wq rfl)))
        · refine g1 (wb rfl rfl rfl) (far (k := 0) rfl fo72_0 ts3 rfl) (g1 (wb rfl rfl rfl) (lod rfl (ld_box ts3 ta3 rfl rfl)) (g1 (wb rfl rfl rfl) (bi rfl rfl q_i64_neq) (g1 (wb rfl rfl rfl) (mv rfl) (sp h1 (fun h1 => ?_) (fun h1 => ?_)))))
          · have q := si h1; subst q
            exact g1 (wb rfl rfl rfl) (far (k := 0) rfl fo72_0 ts3 rfl) (g1 (wb rfl rfl rfl) (lod rfl (ld_box ts3 ta3 rfl rfl)) (g1 (wb rfl rfl rfl) (far (k := 1) rfl fo74_1 ts3 rfl) (g1 (wb rfl rfl rfl) (lod rfl (ld_box ts3 ta3 rfl rfl)) (g1 (wb rfl rfl rfl) (bi rfl rfl q_i64_neq) (g1 (wb rfl rfl rfl) (pkt rfl rfl) (s1 (pkf rfl rfl) (SO.nil ((wq rfl)))))))))
          · have q := si h1; subst q
            exact k1 (wb rfl rfl rfl) (k1 (wb rfl rfl rfl) (k1 (wb rfl rfl rfl) (k1 (wb rfl rfl rfl) (k1 (wb rfl rfl rfl) (g1 (wb rfl rfl rfl) (pkf rfl rfl) (s1 (pkf rfl rfl) (SO.nil ((wq rfl)))))))))
      · refine k1 (wb rfl rfl rfl) (k1 (wb rfl rfl rfl) (k1 (wb rfl rfl rfl) (g1 (wb rfl rfl rfl) (pkf rfl rfl) (s1 (pkf rfl rfl) (s1 (mv rfl) (g1 (wb rfl rfl rfl) (far (k := 0) rfl fo72_0 ts3 rfl) (g1 (wb rfl rfl rfl) (lod rfl (ld_box ts3 ta3 rfl rfl)) (g1 (wb rfl rfl rfl) (bi rfl rfl q_i64_neq) (g1 (wb rfl rfl rfl) (mv rfl) ?_)))))))))
        refine sp h1 (fun h1 => ?_) (fun h1 => ?_)
        · have q := si h1; subst q
          exact g1 (wb rfl rfl rfl) (far (k := 0) rfl fo72_0 ts3 rfl) (g1 (wb rfl rfl rfl) (lod rfl (ld_box ts3 ta3 rfl rfl)) (g1 (wb rfl rfl rfl) (far (k := 1) rfl fo74_1 ts3 rfl) (g1 (wb rfl rfl rfl) (lod rfl (ld_box ts3 ta3 rfl rfl)) (g1 (wb rfl rfl rfl) (bi rfl rfl q_i64_neq) (g1 (wb rfl rfl rfl) (pkt rfl rfl) (s1 (pkf rfl rfl) (SO.nil ((wq rfl)))))))))
        · have q := si h1; subst q
          exact k1 (wb rfl rfl rfl) (k1 (wb rfl rfl rfl) (k1 (wb rfl rfl rfl) (k1 (wb rfl rfl rfl) (k1 (wb rfl rfl rfl) (g1 (wb rfl rfl rfl) (pkf rfl rfl) (s1 (pkf rfl rfl) (SO.nil ((wq rfl)))))))))
  · rintro y12 h0
    refine cB h0 rfl (fun h0 => ?_) (fun h0 => ?_)
    · have q := si h0; subst q
      exact sr (s1 (asg rfl) (sn (SC.ret (finR (wc (e' := [(4, .d (eI (8 : Int)))]) [] [] (by kernel_rfl) rfl (by kernel_rfl)) (lresT rfl lresN) rfl))))
    · refine sk (sq (SC.seqP h0 (fun y => ⟨mk 46 [(45, .d (eB y))], []⟩) ?_ ?_))
      · intro u1_17 h1
        refine SC.region (s1 (far (k := 0) rfl fo72_0 ts3 rfl) (s1 (lod rfl (ld_box ts3 ta3 rfl rfl)) (s1 (bi rfl rfl q_i64_eql) (s1 (mv rfl) (sp h1 (fun h1 => ?_) (fun h1 => ?_))))))
        · have q := si h1; subst q
          refine k1 (wb rfl rfl rfl) (k1 (wb rfl rfl rfl) (k1 (wb rfl rfl rfl) (s1 (pkt rfl rfl) (s1 (mv rfl) (g1 (wb rfl rfl rfl) (far (k := 2) rfl fo72_2 ts9 rfl) (g1 (wb rfl rfl rfl) (lod rfl (ld_box ts9 ta9 rfl rfl)) (g1 (wb rfl rfl rfl) (len rfl rfl rfl (len_str un9)) (g1 (wb rfl rfl rfl) (far (k := 2) rfl fo74_2 ts3 rfl) (g1 (wb rfl rfl rfl) (lod rfl (ld_box ts3 ta3 rfl rfl)) ?_)))))))))
          exact g1 (wb rfl rfl rfl) (bi rfl rfl q_i64_gtr) (s1 (pkt rfl rfl) (SO.nil ((wc [] [] (by kernel_rfl) rfl (by kernel_rfl)))))
        · refine g1 (wb rfl rfl rfl) (far (k := 0) rfl fo72_0 ts3 rfl) (g1 (wb rfl rfl rfl) (lod rfl (ld_box ts3 ta3 rfl rfl)) (g1 (wb rfl rfl rfl) (bi rfl rfl q_i64_eql) (s1 (pkf rfl rfl) (s1 (mv rfl) (sp h1 (fun h1 => ?_) (fun h1 => ?_))))))
          · have q := si h1; subst q
            exact g1 (wb rfl rfl rfl) (far (k := 2) rfl fo72_2 ts9 rfl) (g1 (wb rfl rfl rfl) (lod rfl (ld_box ts9 ta9 rfl rfl)) (g1 (wb rfl rfl rfl) (len rfl rfl rfl (len_str un9)) (g1 (wb rfl rfl rfl) (far (k := 2) rfl fo74_2 ts3 rfl) (g1 (wb rfl rfl rfl) (lod rfl (ld_box ts3 ta3 rfl rfl)) (g1 (wb rfl rfl rfl) (bi rfl rfl q_i64_gtr) (s1 (pkt rfl rfl) (SO.nil ((wc [] [] (by kernel_rfl) rfl (by kernel_rfl))))))))))
          · have q := si h1; subst q
            exact k1 (wb rfl rfl rfl) (k1 (wb rfl rfl rfl) (k1 (wb rfl rfl rfl) (k1 (wb rfl rfl rfl) (k1 (wb rfl rfl rfl) (k1 (wb rfl rfl rfl) (s1 (pkf rfl rfl) (SO.nil ((wc [] [] (by kernel_rfl) rfl (by kernel_rfl))))))))))
      · rintro y16 h0
        refine cB h0 rfl (fun h0 => ?_) (fun h0 => ?_)
        · have q := si h0; subst q
          exact sr (s1 (asg rfl) (sn (SC.ret (finR (Wk.refl _) (lresT rfl lresN) rfl))))
        · have q := si h0; subst q
          exact sk (sr (s1 (asg rfl) (sn (SC.ret (finR (Wk.refl _) (lresT rfl lresN) rfl)))))

/-- granary/granaryref06.Column -/
noncomputable def ref06_Column (p0 : ApiColumn) : Option Int :=
  Option.bind (ref06_Name p0.Name) fun r10 =>
  bif (!r10) then
    some (1 : Int)
  else
    Option.bind (α := Bool)
      (bif (decide (p0.Kind < (1 : Int))) then
        some true
      else
        some (decide (p0.Kind > (5 : Int))))
      fun y12 =>
    bif y12 then
      some (8 : Int)
    else
      Option.bind (α := Bool)
        (bif (decide (p0.Kind < (4 : Int))) then
          bif (p0.Max != (0 : Int)) then
            some true
          else
            bif (decide (p0.Kind > (3 : Int))) then
              bif (decide (p0.Max < (1 : Int))) then
                some true
              else
                some (decide (p0.Max > (64 : Int)))
            else
              some false
        else
          bif (decide (p0.Kind > (3 : Int))) then
            bif (decide (p0.Max < (1 : Int))) then
              some true
            else
              some (decide (p0.Max > (64 : Int)))
          else
            some false)
        fun y14 =>
      bif y14 then
        some (7 : Int)
      else
        Option.bind (ref06_Fits p0 p0.Default) fun r16 =>
        some r16
theorem ref06_Column_ok (p0 : ApiColumn) (r : Int) (h0 : ref06_Column p0 = some r) : CallAt Tryd.prog 16 [.d (eApiColumn p0)] [] (.d (eI r)) [] := by
  unfold ref06_Column at h0
  refine fn0 [0] Tryd.func16 rfl rfl rfl rfl rfl ?_
  obtain ⟨r10, hq11, h0⟩ := ob h0
  refine sr (s1 (bxo (k := 0) rfl rfl rfl) (s1 (asg rfl) (sn (sq (sr (s1 (far (k := 0) rfl fo74_0 ts9 rfl) (s1 (lod rfl (ld_box ts9 ta9 rfl rfl)) (c0 (ref06_Name_ok p0.Name _ hq11) wf rfl rfl rfl cb15 rfl (fun _ => rfl) (fun _ => rfl) (s1 (nt rfl) ?_)))))))))
  refine sn (cB h0 rfl (fun h0 => ?_) (fun h0 => ?_))
  · have q := si h0; subst q
    exact sr (s1 (asg rfl) (sn (SC.ret (finR (wc (e' := [(2, .d (eI (1 : Int)))]) [] [] (by kernel_rfl) rfl (by kernel_rfl)) (lresT rfl lresN) rfl))))
  · refine sk (sq (SC.seqP h0 (fun y => ⟨mk 42 [(1, .ref 0 0 0), (14, .d (eB y))], [.box (.d (eApiColumn p0))]⟩) ?_ ?_))
    · intro u1_13 h1
      refine SC.region (s1 (far (k := 1) rfl fo74_1 ts3 rfl) (s1 (lod rfl (ld_box ts3 ta3 rfl rfl)) (s1 (bi rfl rfl q_i64_lss) (s1 (mv rfl) (sp h1 (fun h1 => ?_) (fun h1 => ?_))))))
      · have q := si h1; subst q
        exact k1 (wb rfl rfl rfl) (k1 (wb rfl rfl rfl) (k1 (wb rfl rfl rfl) (s1 (pkt rfl rfl) (SO.nil ((wq rfl))))))
      · have q := si h1; subst q
        exact g1 (wb rfl rfl rfl) (far (k := 1) rfl fo74_1 ts3 rfl) (g1 (wb rfl rfl rfl) (lod rfl (ld_box ts3 ta3 rfl rfl)) (g1 (wb rfl rfl rfl) (bi rfl rfl q_i64_gtr) (s1 (pkf rfl rfl) (SO.nil ((wq rfl))))))
    · rintro y12 h0
      refine cB h0 rfl (fun h0 => ?_) (fun h0 => ?_)
      · have q := si h0; subst q
        exact sr (s1 (asg rfl) (sn (SC.ret (finR (wc (e' := [(2, .d (eI (8 : Int)))]) [] [] (by kernel_rfl) rfl (by kernel_rfl)) (lresT rfl lresN) rfl))))
      · refine sk (sq (SC.seqP h0 (fun y => ⟨mk 42 [(1, .ref 0 0 0), (37, .d (eB y))], [.box (.d (eApiColumn p0))]⟩) ?_ ?_))
        · intro u1_15 h1
          refine SC.region (s1 (far (k := 1) rfl fo74_1 ts3 rfl) (s1 (lod rfl (ld_box ts3 ta3 rfl rfl)) (s1 (bi rfl rfl q_i64_lss) (s1 (mv rfl) (sp h1 (fun h1 => ?_) (fun h1 => ?_))))))
          · refine g1 (wb rfl rfl rfl) (far (k := 2) rfl fo74_2 ts3 rfl) (g1 (wb rfl rfl rfl) (lod rfl (ld_box ts3 ta3 rfl rfl)) (g1 (wb rfl rfl rfl) (bi rfl rfl q_i64_neq) (s1 (pkt rfl rfl) (s1 (mv rfl) (sp h1 (fun h1 => ?_) (fun h1 => ?_))))))
            · have q := si h1; subst q
              refine k1 (wb rfl rfl rfl) (k1 (wb rfl rfl rfl) (k1 (wb rfl rfl rfl) (k1 (wb rfl rfl rfl) (k1 (wo rfl rfl) (k1 (wo rfl rfl) (k1 (wo rfl rfl) (k1 (wo rfl rfl) (k1 (wo rfl rfl) (k1 (wo rfl rfl) ?_)))))))))
              exact k1 (wo rfl rfl) (k1 (wo rfl rfl) (k1 (wb rfl rfl rfl) (s1 (pkt rfl rfl) (SO.nil ((wq rfl))))))
            · refine g1 (wb rfl rfl rfl) (far (k := 1) rfl fo74_1 ts3 rfl) (g1 (wb rfl rfl rfl) (lod rfl (ld_box ts3 ta3 rfl rfl)) (g1 (wb rfl rfl rfl) (bi rfl rfl q_i64_gtr) (g1 (wb rfl rfl rfl) (mv rfl) (sp h1 (fun h1 => ?_) (fun h1 => ?_)))))
              · refine g1 (wb rfl rfl rfl) (far (k := 2) rfl fo74_2 ts3 rfl) (g1 (wb rfl rfl rfl) (lod rfl (ld_box ts3 ta3 rfl rfl)) (g1 (wb rfl rfl rfl) (bi rfl rfl q_i64_lss) (g1 (wb rfl rfl rfl) (mv rfl) (sp h1 (fun h1 => ?_) (fun h1 => ?_)))))
                · have q := si h1; subst q
                  exact k1 (wb rfl rfl rfl) (k1 (wb rfl rfl rfl) (k1 (wb rfl rfl rfl) (g1 (wb rfl rfl rfl) (pkt rfl rfl) (g1 (wb rfl rfl rfl) (pkt rfl rfl) (s1 (pkf rfl rfl) (SO.nil ((wq rfl))))))))
                · have q := si h1; subst q
                  exact g1 (wb rfl rfl rfl) (far (k := 2) rfl fo74_2 ts3 rfl) (g1 (wb rfl rfl rfl) (lod rfl (ld_box ts3 ta3 rfl rfl)) (g1 (wb rfl rfl rfl) (bi rfl rfl q_i64_gtr) (g1 (wb rfl rfl rfl) (pkf rfl rfl) (g1 (wb rfl rfl rfl) (pkt rfl rfl) (s1 (pkf rfl rfl) (SO.nil ((wq rfl))))))))
              · have q := si h1; subst q
                refine k1 (wb rfl rfl rfl) (k1 (wb rfl rfl rfl) (k1 (wb rfl rfl rfl) (k1 (wb rfl rfl rfl) (k1 (wo rfl rfl) (k1 (wo rfl rfl) (k1 (wo rfl rfl) (k1 (wb rfl rfl rfl) (g1 (wb rfl rfl rfl) (pkf rfl rfl) (s1 (pkf rfl rfl) ?_)))))))))
                exact SO.nil ((wq rfl))
          · refine k1 (wb rfl rfl rfl) (k1 (wb rfl rfl rfl) (k1 (wb rfl rfl rfl) (s1 (pkf rfl rfl) (s1 (mv rfl) (g1 (wb rfl rfl rfl) (far (k := 1) rfl fo74_1 ts3 rfl) (g1 (wb rfl rfl rfl) (lod rfl (ld_box ts3 ta3 rfl rfl)) (g1 (wb rfl rfl rfl) (bi rfl rfl q_i64_gtr) (g1 (wb rfl rfl rfl) (mv rfl) (sp h1 (fun h1 => ?_) (fun h1 => ?_))))))))))
            · refine g1 (wb rfl rfl rfl) (far (k := 2) rfl fo74_2 ts3 rfl) (g1 (wb rfl rfl rfl) (lod rfl (ld_box ts3 ta3 rfl rfl)) (g1 (wb rfl rfl rfl) (bi rfl rfl q_i64_lss) (g1 (wb rfl rfl rfl) (mv rfl) (sp h1 (fun h1 => ?_) (fun h1 => ?_)))))
              · have q := si h1; subst q
                exact k1 (wb rfl rfl rfl) (k1 (wb rfl rfl rfl) (k1 (wb rfl rfl rfl) (g1 (wb rfl rfl rfl) (pkt rfl rfl) (g1 (wb rfl rfl rfl) (pkt rfl rfl) (s1 (pkf rfl rfl) (SO.nil ((wq rfl))))))))
              · have q := si h1; subst q
                exact g1 (wb rfl rfl rfl) (far (k := 2) rfl fo74_2 ts3 rfl) (g1 (wb rfl rfl rfl) (lod rfl (ld_box ts3 ta3 rfl rfl)) (g1 (wb rfl rfl rfl) (bi rfl rfl q_i64_gtr) (g1 (wb rfl rfl rfl) (pkf rfl rfl) (g1 (wb rfl rfl rfl) (pkt rfl rfl) (s1 (pkf rfl rfl) (SO.nil ((wq rfl))))))))
            · have q := si h1; subst q
              refine k1 (wb rfl rfl rfl) (k1 (wb rfl rfl rfl) (k1 (wb rfl rfl rfl) (k1 (wb rfl rfl rfl) (k1 (wo rfl rfl) (k1 (wo rfl rfl) (k1 (wo rfl rfl) (k1 (wb rfl rfl rfl) (g1 (wb rfl rfl rfl) (pkf rfl rfl) (s1 (pkf rfl rfl) ?_)))))))))
              exact SO.nil ((wq rfl))
        · rintro y14 h0
          refine cB h0 rfl (fun h0 => ?_) (fun h0 => ?_)
          · have q := si h0; subst q
            exact sr (s1 (asg rfl) (sn (SC.ret (finR (wc (e' := [(2, .d (eI (7 : Int)))]) [] [] (by kernel_rfl) rfl (by kernel_rfl)) (lresT rfl lresN) rfl))))
          · obtain ⟨r16, hq17, h0⟩ := ob h0; have q := si h0; subst q
            exact sk (sr (s1 (lod (v := .d (eApiColumn p0)) rfl (ld_box ts74 ta74 rfl rfl)) (s1 (far (k := 4) rfl fo74_4 ts72 rfl) (s1 (lod (v := .d (eApiValue p0.Default)) rfl (ld_box ts72 ta72 rfl rfl)) (c0 (ref06_Fits_ok p0 p0.Default _ hq17) wf rfl rfl rfl cb33 rfl (fun _ => rfl) (fun _ => rfl) (s1 (asg rfl) (sn (SC.ret (finR (wc (e' := [(2, .d (eI r16))]) [] [] (by kernel_rfl) rfl (by kernel_rfl)) (lresT rfl lresN) rfl)))))))))

/-- granary/granaryref17.Has -/
noncomputable def ref17_Has (p0 : List Int) (p1 : Int) : Option Bool :=
  bindE (Y := Unit) (E := Bool)
    (Option.bind (α := Unit ⊕ Bool)
      (loop (Y := Int) (W := Unit ⊕ Bool) (fun y29 =>
        bif (decide (y29 < (p0.length : Int))) then
          Option.bind (getI p0 y29) fun v34 =>
          bif (v34 == p1) then
            some (Sum.inr (Sum.inr true))
          else
            some (Sum.inl (w64 (y29 + (1 : Int))))
        else
          some (Sum.inr (Sum.inl ()))) (0 : Int))
      (Sum.elim (fun e => some (Sum.inl e)) (fun e => some (Sum.inr e))))
    (fun _ =>
      some false)
    (fun e => some e)
theorem ref17_Has_ok (p0 : List Int) (p1 : Int) (r : Bool) (h0 : ref17_Has p0 p1 = some r) : CallAt Tryd.prog 34 [.d ((eL 1 eI) p0), .d (eI p1)] [] (.d (eB r)) [] := by
  unfold ref17_Has at h0
  refine fn0 [0, 1] Tryd.func34 rfl rfl rfl rfl rfl ?_
  refine sr (s1 (asg rfl) (sn (SC.seqB h0 (fun y => ⟨mk 18 [], []⟩) ?_ ?_)))
  · intro u1_27 h1 h0
    obtain ⟨u2_33, h2, h1⟩ := ob h1
    refine sr (s1 (asg rfl) (sn (SC.blk (SC.loopB h2 (fun y => ⟨mk 18 [(0, .d ((eL 1 eI) p0)), (1, .d (eI p1)), (5, .d (eI y))], []⟩) (wq rfl) ?_))))
    intro n35
    rintro y29 w2_32 h3 hv3
    refine sq (sr (s1 (mv rfl) (s1 (mv rfl) (s1 (len rfl rfl rfl (len_lst un23)) (s1 (bi rfl rfl q_i64_lss) (sn (cB h3 rfl (fun h3 => ?_) (fun h3 => ?_))))))))
    · obtain ⟨v34, hv34, h3⟩ := ob h3
      refine sk (sq (SC.blk (sr (s1 (mv rfl) (s1 (mv rfl) (s1 (ial rfl rfl un23 ts3 (getI_some hv34).1 (map_get (getI_some hv34).2) rfl) (s1 (lod rfl (ld_rop ts3 ta3 rfl)) (s1 (mv rfl) (s1 (bi rfl rfl q_i64_eql) ?_)))))))))
      refine sn (cB h3 rfl (fun h3 => ?_) (fun h3 => ?_))
      · have q := si h3; subst q; have q : _ = _ := hv3; subst q; have q := si h1; subst q; have q := si h0; subst q
        exact sr (s1 (asg rfl) (sn (SC.ret (finR (Wk.refl _) (lresT rfl lresN) rfl))))
      · refine SC.skip ?_
        change SC _ _ _ _ _
        have q := si h3; subst q
        exact SC.region (s1 (mv rfl) (s1 (bi rfl rfl q_i64_add) (s1 (asg rfl) (SO.nil (lf (wq rfl))))))
    · have q := si h3; subst q; have q : _ = _ := hv3; subst q; have q := si h1; subst q
      exact SC.exit (lf (wq rfl))
  · intro _ h0
    have q := si h0; subst q
    exact sr (s1 (asg rfl) (sn (SC.ret (finR (Wk.refl _) (lresT rfl lresN) rfl))))

/-- granary/granaryref17.places -/
noncomputable def ref17_places (p0 : Int) (p1 : List Int) : Option Bool :=
  bindE (Y := Unit) (E := Bool)
    (Option.bind (α := Unit ⊕ Bool)
      (loop (Y := Int) (W := Unit ⊕ Bool) (fun y159 =>
        bif (decide (y159 < (p1.length : Int))) then
          Option.bind (α := Bool)
            (Option.bind (getI p1 y159) fun v185 =>
            bif (decide (v185 < (0 : Int))) then
              some true
            else
              Option.bind (getI p1 y159) fun v186 =>
              bif (decide (v186 ≥ p0)) then
                some true
              else
                bif decide (0 ≤ y159 ∧ y159 ≤ (p1.length : Int)) then
                Option.bind (getI p1 y159) fun v188 =>
                Option.bind (ref17_Has (List.take y159.toNat p1) v188) fun r189 =>
                some r189
                else none)
            fun y183 =>
          bif y183 then
            some (Sum.inr (Sum.inr false))
          else
            some (Sum.inl (w64 (y159 + (1 : Int))))
        else
          some (Sum.inr (Sum.inl ()))) (0 : Int))
      (Sum.elim (fun e => some (Sum.inl e)) (fun e => some (Sum.inr e))))
    (fun _ =>
      some true)
    (fun e => some e)
theorem ref17_places_ok (p0 : Int) (p1 : List Int) (r : Bool) (h0 : ref17_places p0 p1 = some r) : CallAt Tryd.prog 17 [.d (eI p0), .d ((eL 1 eI) p1)] [] (.d (eB r)) [] := by
  unfold ref17_places at h0
  refine fn0 [0, 1] Tryd.func17 rfl rfl rfl rfl rfl ?_
  refine sr (s1 (asg rfl) (sn (SC.seqB h0 (fun y => ⟨mk 35 [], []⟩) ?_ ?_)))
  · intro u1_144 h1 h0
    obtain ⟨u2_176, h2, h1⟩ := ob h1
    refine sr (s1 (asg rfl) (sn (SC.blk (SC.loopB h2 (fun y => ⟨mk 35 [(0, .d (eI p0)), (1, .d ((eL 1 eI) p1)), (5, .d (eI y))], []⟩) (wq rfl) ?_))))
    intro n191
    rintro y159 w2_175 h3 hv3
    refine sq (sr (s1 (mv rfl) (s1 (mv rfl) (s1 (len rfl rfl rfl (len_lst un23)) (s1 (bi rfl rfl q_i64_lss) (sn (cB h3 rfl (fun h3 => ?_) (fun h3 => ?_))))))))
    · refine sk (sq (SC.blk (SC.seqP h3 (fun y => ⟨mk 35 [(0, .d (eI p0)), (1, .d ((eL 1 eI) p1)), (5, .d (eI y159)), (34, .d (eB y))], []⟩) ?_ ?_)))
      · intro u4_184 h4
        obtain ⟨v185, hv185, h4⟩ := ob h4
        refine SC.draws (by kernel_rfl) (t1 ([], false) (mv rfl) rfl (t1 ([], false) (mv rfl) rfl (t1 ([], false) (ial rfl rfl un23 ts3 (getI_some hv185).1 (map_get (getI_some hv185).2) rfl) rfl (t1 ([], false) (lod rfl (ld_rop ts3 ta3 rfl)) rfl (t1 ([], false) (bi rfl rfl q_i64_lss) rfl (t1 ([], false) (mv rfl) rfl (tp h4 (fun h4 => ?_) (fun h4 => ?_))))))))
        · have q := si h4; subst q
          refine j1 (wb rfl rfl rfl) (j1 (wb rfl rfl rfl) (j1 (wb rfl rfl rfl) (j1 (wb rfl rfl rfl) (j1 (wb rfl rfl rfl) (j1 (wb rfl rfl rfl) (t1 ([], false) (pkt rfl rfl) rfl (t1 ([], false) (mv rfl) rfl (j1 (wb rfl rfl rfl) (j1 (wb rfl rfl rfl) ?_)))))))))
          refine j1 (wb rfl rfl rfl) (j1 (wb rfl rfl rfl) (j1 (wb rfl rfl rfl) (j1 (wb rfl rfl rfl) (j1 (wb rfl rfl rfl) (j1 (wb rfl rfl rfl) (t1 ([], false) (pkt rfl rfl) rfl (ST.nil (And.intro (by decide +kernel) ?_))))))))
          exact (wq rfl)
        · obtain ⟨v186, hv186, h4⟩ := ob h4
          refine u1 ([], false) (wb rfl rfl rfl) (mv rfl) rfl (u1 ([], false) (wb rfl rfl rfl) (mv rfl) rfl (u1 ([], false) (wb rfl rfl rfl) (ial rfl rfl un23 ts3 (getI_some hv186).1 (map_get (getI_some hv186).2) rfl) rfl (u1 ([], false) (wb rfl rfl rfl) (lod rfl (ld_rop ts3 ta3 rfl)) rfl (u1 ([], false) (wb rfl rfl rfl) (mv rfl) rfl (u1 ([], false) (wb rfl rfl rfl) (bi rfl rfl q_i64_geq) rfl (t1 ([], false) (pkf rfl rfl) rfl (t1 ([], false) (mv rfl) rfl (tp h4 (fun h4 => ?_) (fun h4 => ?_)))))))))
          · have q := si h4; subst q
            refine j1 (wb rfl rfl rfl) (j1 (wb rfl rfl rfl) (j1 (wb rfl rfl rfl) (j1 (wb rfl rfl rfl) (j1 (wb rfl rfl rfl) (j1 (wb rfl rfl rfl) (j1 (wb rfl rfl rfl) (j1 (wb rfl rfl rfl) (t1 ([], false) (pkt rfl rfl) rfl (ST.nil (And.intro (by decide +kernel) ?_))))))))))
            exact (wq rfl)
          · obtain ⟨hg187, h4⟩ := gd h4; obtain ⟨v188, hv188, h4⟩ := ob h4; obtain ⟨r189, hq190, h4⟩ := ob h4; have q := si h4; subst q
            refine u1 ([], false) (wb rfl rfl rfl) (mv rfl) rfl (u1 ([], false) (wb rfl rfl rfl) (mv rfl) rfl (u1 ([], false) (wb rfl rfl rfl) (slo rfl rfl rfl rfl (sl_lst_hi un23 ts3 hg187)) rfl (u1 ([], false) (wb rfl rfl rfl) (mv rfl) rfl (u1 ([], false) (wb rfl rfl rfl) (mv rfl) rfl (u1 ([], false) (wb rfl rfl rfl) (ial rfl rfl un23 ts3 (getI_some hv188).1 (map_get (getI_some hv188).2) rfl) rfl (u1 ([], false) (wb rfl rfl rfl) (lod rfl (ld_rop ts3 ta3 rfl)) rfl (tc0 (ref17_Has_ok (List.take y159.toNat p1) v188 _ hq190) (wb rfl rfl rfl) rfl rfl rfl cb34 rfl (fun _ => rfl) (fun _ => rfl) (t1 ([], false) (pkf rfl rfl) rfl (ST.nil (And.intro (by decide +kernel) ?_))))))))))
            exact (wq rfl)
      · rintro y183 h3
        refine cB h3 rfl (fun h3 => ?_) (fun h3 => ?_)
        · have q := si h3; subst q; have q : _ = _ := hv3; subst q; have q := si h1; subst q; have q := si h0; subst q
          exact sr (s1 (asg rfl) (sn (SC.ret (finR (Wk.refl _) (lresT rfl lresN) rfl))))
        · refine SC.skip ?_
          change SC _ _ _ _ _
          have q := si h3; subst q
          exact SC.region (s1 (mv rfl) (s1 (bi rfl rfl q_i64_add) (s1 (asg rfl) (SO.nil (lf (wq rfl))))))
    · have q := si h3; subst q; have q : _ = _ := hv3; subst q; have q := si h1; subst q
      exact SC.exit (lf (wq rfl))
  · intro _ h0
    have q := si h0; subst q
    exact sr (s1 (asg rfl) (sn (SC.ret (finR (Wk.refl _) (lresT rfl lresN) rfl))))

/-- granary/granaryref17.wide -/
noncomputable def ref17_wide (p0 : ApiColumn) (p1 : Int) : Option Int :=
  Option.bind (α := Bool)
    (bif (p0.Kind == (1 : Int)) then
      some (p0.Kind == (1 : Int))
    else
      some (p0.Kind == (2 : Int)))
    fun y4 =>
  bif y4 then
    some (9 : Int)
  else
    bif (p0.Kind == (3 : Int)) then
      some (2 : Int)
    else
      some (w64 ((3 : Int) + (w64 (p1 * p0.Max))))
theorem ref17_wide_ok (p0 : ApiColumn) (p1 : Int) (r : Int) (h0 : ref17_wide p0 p1 = some r) : CallAt Tryd.prog 35 [.d (eApiColumn p0), .d (eI p1)] [] (.d (eI r)) [] := by
  unfold ref17_wide at h0
  refine fn0 [0, 1] Tryd.func35 rfl rfl rfl rfl rfl ?_
  refine sr (s1 (bxo (k := 0) rfl rfl rfl) (s1 (asg rfl) (sn (sq (sr (s1 (far (k := 1) rfl fo74_1 ts3 rfl) (s1 (lod rfl (ld_box ts3 ta3 rfl rfl)) (sn (SC.blk ?_)))))))))
  refine SC.seqP h0 (fun y => ⟨mk 17 [(1, .d (eI p1)), (2, .ref 0 0 0), (6, .d (eI p0.Kind)), (7, .d (eB y))], [.box (.d (eApiColumn p0))]⟩) ?_ ?_
  · intro u1_5 h1
    refine sr (s1 (bi rfl rfl q_i64_eql) (s1 (asg rfl) (sn (cB h1 rfl (fun h1 => ?_) (fun h1 => ?_)))))
    · have q := si h1; subst q
      exact SC.skip ((wq rfl))
    · have q := si h1; subst q
      exact SC.region (s1 (bi rfl rfl q_i64_eql) (s1 (asg rfl) (SO.nil ((wq rfl)))))
  · rintro y4 h0
    refine cB h0 rfl (fun h0 => ?_) (fun h0 => ?_)
    · have q := si h0; subst q
      exact sr (s1 (asg rfl) (sn (SC.ret (finR (wc (e' := [(4, .d (eI (9 : Int)))]) [] [] (by kernel_rfl) rfl (by kernel_rfl)) (lresT rfl lresN) rfl))))
    · refine sr (s1 (bi rfl rfl q_i64_eql) (s1 (asg rfl) (sn (cB h0 rfl (fun h0 => ?_) (fun h0 => ?_)))))
      · have q := si h0; subst q
        exact sr (s1 (asg rfl) (sn (SC.ret (finR (wc (e' := [(4, .d (eI (2 : Int)))]) [] [] (by kernel_rfl) rfl (by kernel_rfl)) (lresT rfl lresN) rfl))))
      · refine SC.skip ?_
        change SC _ _ _ _ _
        have q := si h0; subst q
        exact sr (s1 (mv rfl) (s1 (far (k := 2) rfl fo74_2 ts3 rfl) (s1 (lod rfl (ld_box ts3 ta3 rfl rfl)) (s1 (bi rfl rfl q_i64_mul) (s1 (bi rfl rfl q_i64_add) (s1 (asg rfl) (sn (SC.ret (finR (wc (e' := [(4, .d (eI (w64 ((3 : Int) + (w64 (p1 * p0.Max))))))]) [] [] (by kernel_rfl) rfl (by kernel_rfl)) (lresT rfl lresN) rfl)))))))))

/-- granary/granaryref17.RowMax -/
noncomputable def ref17_RowMax (p0 : List ApiColumn) : Option Int :=
  Option.bind (α := Int)
    (Option.bind (α := Int)
      (loop (Y := Int × Int) (W := Int) (fun (y57, y58) =>
        bif (decide (y58 < (p0.length : Int))) then
          Option.bind (getI p0 y58) fun v66 =>
          Option.bind (ref17_wide v66 (1 : Int)) fun r67 =>
          some (Sum.inl ((w64 (y57 + r67)), (w64 (y58 + (1 : Int)))))
        else
          some (Sum.inr y57)) ((1 : Int), (0 : Int)))
      (fun e => some e))
    fun y52 =>
  some y52
theorem ref17_RowMax_ok (p0 : List ApiColumn) (r : Int) (h0 : ref17_RowMax p0 = some r) : CallAt Tryd.prog 18 [.d ((eL 7 eApiColumn) p0)] [] (.d (eI r)) [] := by
  unfold ref17_RowMax at h0
  refine fn0 [0] Tryd.func18 rfl rfl rfl rfl rfl ?_
  refine sr (s1 (asg rfl) (sn (sr (s1 (asg rfl) (sn (SC.seqP h0 (fun y => ⟨mk 19 [(3, .d (eI y))], []⟩) ?_ ?_))))))
  · intro u1_53 h1
    obtain ⟨u2_65, h2, h1⟩ := ob h1
    refine sr (s1 (asg rfl) (sn (SC.blk (SC.loopB h2 (fun y => ⟨mk 19 [(0, .d ((eL 7 eApiColumn) p0)), (3, .d (eI y.1)), (4, .d (eI y.2))], []⟩) (wq rfl) ?_))))
    intro n69
    rintro ⟨y57, y58⟩ w2_64 h3 hv3
    refine sq (sr (s1 (mv rfl) (s1 (mv rfl) (s1 (len rfl rfl rfl (len_lst un22)) (s1 (bi rfl rfl q_i64_lss) (sn (cB h3 rfl (fun h3 => ?_) (fun h3 => ?_))))))))
    · obtain ⟨v66, hv66, h3⟩ := ob h3; obtain ⟨r67, hq68, h3⟩ := ob h3
      refine sk (sq (SC.blk (SC.region (s1 (mv rfl) (s1 (mv rfl) (s1 (mv rfl) (s1 (ial rfl rfl un22 ts74 (getI_some hv66).1 (map_get (getI_some hv66).2) rfl) (s1 (lod (v := .d (eApiColumn v66)) rfl (ld_rop ts74 ta74 rfl)) (c0 (ref17_wide_ok v66 (1 : Int) _ hq68) wf rfl rfl rfl cb35 rfl (fun _ => rfl) (fun _ => rfl) ?_)))))))))
      refine s1 (bi rfl rfl q_i64_add) (s1 (asg rfl) (SO.nil ?_))
      change SC _ _ _ _ _
      have q := si h3; subst q
      exact SC.region (s1 (mv rfl) (s1 (bi rfl rfl q_i64_add) (s1 (asg rfl) (SO.nil (lf (wq rfl))))))
    · have q := si h3; subst q; have q : _ = _ := hv3; subst q; have q := si h1; subst q
      exact SC.exit ((wq rfl))
  · rintro y52 h0
    have q := si h0; subst q
    exact sr (s1 (mv rfl) (s1 (asg rfl) (sn (SC.ret (finR (Wk.refl _) (lresT rfl lresN) rfl)))))

/-- granary/granaryref17.Up -/
noncomputable def ref17_Up (p0 : List Int) : Option ((List ApiPart)) :=
  Option.bind (α := (List ApiPart))
    (Option.bind (α := (List ApiPart))
      (loop (Y := (List ApiPart) × Int) (W := (List ApiPart)) (fun (y47, y48) =>
        bif (decide (y48 < (p0.length : Int))) then
          Option.bind (getI p0 y48) fun v55 =>
          bif decide ((y47.length + [(ApiPart.mk v55 false)].length) * 16 ≤ room) then
          some (Sum.inl ((y47 ++ [(ApiPart.mk v55 false)]), (w64 (y48 + (1 : Int)))))
          else none
        else
          some (Sum.inr y47)) (([] : List ApiPart), (0 : Int)))
      (fun e => some e))
    fun y43 =>
  some y43
theorem ref17_Up_ok (p0 : List Int) (r : (List ApiPart)) (h0 : ref17_Up p0 = some r) : CallAt Tryd.prog 20 [.d ((eL 1 eI) p0)] [] (.d ((eL 2 eApiPart) r)) [] := by
  unfold ref17_Up at h0
  refine fn0 [0] Tryd.func20 rfl rfl rfl rfl rfl ?_
  refine sr (s1 (asg (v := .d .nils) rfl) (sn (sr (s1 (asg (v := .d .nils) rfl) (sn (SC.seqP h0 (fun y => ⟨mk 20 [(3, .slc 0 2 0 y.length none)], [.row 2 (List.map eApiPart y) true]⟩) ?_ ?_))))))
  · intro u1_44 h1
    obtain ⟨u2_54, h2, h1⟩ := ob h1
    refine sr (s1 (asg rfl) (sn (SC.blk (SC.loopB h2 (fun y => ⟨mk 20 [(0, .d ((eL 1 eI) p0)), (3, .slc 0 2 0 y.1.length none), (4, .d (eI y.2))], [.row 2 (List.map eApiPart y.1) true]⟩) (Wk.trans (Wk.pushE (σ' := [.row 2 (List.map eApiPart ([] : List ApiPart)) true]) (.row 2 [] true) (fun _ hh => by cases hh) rfl) (Wk.trans (Wk.env (e' := [(0, .d ((eL 1 eI) p0)), (3, .slc 0 2 0 (([] : List ApiPart).length) none), (4, .d (eI (0 : Int)))]) (EW.cons (AW.refl _) (EW.cons (AW.slcn _ _ _) (EW.cons (AW.refl _) EW.nil)))) (wq rfl))) ?_))))
    intro n57
    rintro ⟨y47, y48⟩ w2_53 h3 hv3
    refine sq (sr (s1 (mv rfl) (s1 (mv rfl) (s1 (len rfl rfl rfl (len_lst un23)) (s1 (bi rfl rfl q_i64_lss) (sn (cB h3 rfl (fun h3 => ?_) (fun h3 => ?_))))))))
    · obtain ⟨v55, hv55, h3⟩ := ob h3; obtain ⟨hg56, h3⟩ := gd h3
      refine sk (sq (SC.blk (SC.region (s1 (mv rfl) (s1 (mv rfl) (s1 (mv rfl) (s1 (ial rfl rfl un23 ts3 (getI_some hv55).1 (map_get (getI_some hv55).2) rfl) (s1 (lod rfl (ld_rop ts3 ta3 rfl)) (s1 (bld rfl (bd76_0 v55)) ?_)))))))))
      refine s1 (bsn (k := 1) (ds := List.map eApiPart [(ApiPart.mk v55 false)]) (off := 0) (l' := [(ApiPart.mk v55 false)].length) rfl un40 ei76 rfl rfl (by rfl) rfl rfl rfl) (s1 (app rfl rfl rfl rfl bc40 (aF (f := eApiPart) (xs := y47) (k := 2) rfl un40 ei76 rfl (el_full (xs := [(ApiPart.mk v55 false)]) rfl) hg56 rfl)) (s1 (asg rfl) (SO.nil ?_)))
      change SC _ _ _ _ _
      have q := si h3; subst q
      exact SC.region (s1 (mv rfl) (s1 (bi rfl rfl q_i64_add) (s1 (asg rfl) (SO.nil (lf (wc [2] [2] (by kernel_rfl) rfl (by kernel_rfl)))))))
    · have q := si h3; subst q; have q : _ = _ := hv3; subst q; have q := si h1; subst q
      exact SC.exit ((wq rfl))
  · rintro y43 h0
    have q := si h0; subst q
    exact sr (s1 (mv rfl) (s1 (asg rfl) (sn (SC.ret (finR (Wk.trans (Wk.frz (i := 2) (x := .slc 0 2 0 y43.length none) rfl rfl (fF rfl rfl rfl)) (wc (e' := [(2, .d ((eL 2 eApiPart) y43))]) [] [] (by kernel_rfl) rfl (by kernel_rfl))) (lresT rfl lresN) rfl)))))

/-- granary/granaryref17.KeyMax -/
noncomputable def ref17_KeyMax (p0 : List ApiColumn) (p1 : List ApiPart) : Option Int :=
  Option.bind (α := Int)
    (Option.bind (α := Int)
      (loop (Y := Int × Int) (W := Int) (fun (y67, y68) =>
        bif (decide (y68 < (p1.length : Int))) then
          Option.bind (getI p1 y68) fun v77 =>
          Option.bind (getI p0 v77.Col) fun v78 =>
          Option.bind (ref17_wide v78 (2 : Int)) fun r79 =>
          some (Sum.inl ((w64 (y67 + r79)), (w64 (y68 + (1 : Int)))))
        else
          some (Sum.inr y67)) ((0 : Int), (0 : Int)))
      (fun e => some e))
    fun y61 =>
  some y61
theorem ref17_KeyMax_ok (p0 : List ApiColumn) (p1 : List ApiPart) (r : Int) (h0 : ref17_KeyMax p0 p1 = some r) : CallAt Tryd.prog 19 [.d ((eL 7 eApiColumn) p0), .d ((eL 2 eApiPart) p1)] [] (.d (eI r)) [] := by
  unfold ref17_KeyMax at h0
  refine fn0 [0, 1] Tryd.func19 rfl rfl rfl rfl rfl ?_
  refine sr (s1 (asg rfl) (sn (sr (s1 (asg rfl) (sn (SC.seqP h0 (fun y => ⟨mk 25 [(5, .d (eI y))], []⟩) ?_ ?_))))))
  · intro u1_62 h1
    obtain ⟨u2_76, h2, h1⟩ := ob h1
    refine sr (s1 (asg rfl) (sn (SC.blk (SC.loopB h2 (fun y => ⟨mk 25 [(0, .d ((eL 7 eApiColumn) p0)), (1, .d ((eL 2 eApiPart) p1)), (5, .d (eI y.1)), (6, .d (eI y.2))], []⟩) (wq rfl) ?_))))
    intro n81
    rintro ⟨y67, y68⟩ w2_75 h3 hv3
    refine sq (sr (s1 (mv rfl) (s1 (mv rfl) (s1 (len rfl rfl rfl (len_lst un40)) (s1 (bi rfl rfl q_i64_lss) (sn (cB h3 rfl (fun h3 => ?_) (fun h3 => ?_))))))))
    · obtain ⟨v77, hv77, h3⟩ := ob h3; obtain ⟨v78, hv78, h3⟩ := ob h3; obtain ⟨r79, hq80, h3⟩ := ob h3
      refine sk (sq (SC.blk (SC.region (s1 (mv rfl) (s1 (mv rfl) (s1 (mv rfl) (s1 (mv rfl) (s1 (ial rfl rfl un40 ts76 (getI_some hv77).1 (map_get (getI_some hv77).2) rfl) (s1 (fap rfl fo76_0 ts3 rfl) ?_)))))))))
      refine s1 (lod rfl (ld_rop ts3 ta3 rfl)) (s1 (ial rfl rfl un22 ts74 (getI_some hv78).1 (map_get (getI_some hv78).2) rfl) (s1 (lod (v := .d (eApiColumn v78)) rfl (ld_rop ts74 ta74 rfl)) (c0 (ref17_wide_ok v78 (2 : Int) _ hq80) wf rfl rfl rfl cb35 rfl (fun _ => rfl) (fun _ => rfl) (s1 (bi rfl rfl q_i64_add) (s1 (asg rfl) (SO.nil ?_))))))
      change SC _ _ _ _ _
      have q := si h3; subst q
      exact SC.region (s1 (mv rfl) (s1 (bi rfl rfl q_i64_add) (s1 (asg rfl) (SO.nil (lf (wq rfl))))))
    · have q := si h3; subst q; have q : _ = _ := hv3; subst q; have q := si h1; subst q
      exact SC.exit ((wq rfl))
  · rintro y61 h0
    have q := si h0; subst q
    exact sr (s1 (mv rfl) (s1 (asg rfl) (sn (SC.ret (finR (Wk.refl _) (lresT rfl lresN) rfl)))))

/-- granary/granaryref17.Cols -/
noncomputable def ref17_Cols (p0 : List ApiPart) : Option ((List Int)) :=
  Option.bind (α := (List Int))
    (Option.bind (α := (List Int))
      (loop (Y := (List Int) × Int) (W := (List Int)) (fun (y47, y48) =>
        bif (decide (y48 < (p0.length : Int))) then
          Option.bind (getI p0 y48) fun v55 =>
          bif decide ((y47.length + [v55.Col].length) * 8 ≤ room) then
          some (Sum.inl ((y47 ++ [v55.Col]), (w64 (y48 + (1 : Int)))))
          else none
        else
          some (Sum.inr y47)) (([] : List Int), (0 : Int)))
      (fun e => some e))
    fun y43 =>
  some y43
theorem ref17_Cols_ok (p0 : List ApiPart) (r : (List Int)) (h0 : ref17_Cols p0 = some r) : CallAt Tryd.prog 36 [.d ((eL 2 eApiPart) p0)] [] (.d ((eL 1 eI) r)) [] := by
  unfold ref17_Cols at h0
  refine fn0 [0] Tryd.func36 rfl rfl rfl rfl rfl ?_
  refine sr (s1 (asg (v := .d .nils) rfl) (sn (sr (s1 (asg (v := .d .nils) rfl) (sn (SC.seqP h0 (fun y => ⟨mk 20 [(3, .slc 0 1 0 y.length none)], [.row 1 (List.map eI y) true]⟩) ?_ ?_))))))
  · intro u1_44 h1
    obtain ⟨u2_54, h2, h1⟩ := ob h1
    refine sr (s1 (asg rfl) (sn (SC.blk (SC.loopB h2 (fun y => ⟨mk 20 [(0, .d ((eL 2 eApiPart) p0)), (3, .slc 0 1 0 y.1.length none), (4, .d (eI y.2))], [.row 1 (List.map eI y.1) true]⟩) (Wk.trans (Wk.pushE (σ' := [.row 1 (List.map eI ([] : List Int)) true]) (.row 1 [] true) (fun _ hh => by cases hh) rfl) (Wk.trans (Wk.env (e' := [(0, .d ((eL 2 eApiPart) p0)), (3, .slc 0 1 0 (([] : List Int).length) none), (4, .d (eI (0 : Int)))]) (EW.cons (AW.refl _) (EW.cons (AW.slcn _ _ _) (EW.cons (AW.refl _) EW.nil)))) (wq rfl))) ?_))))
    intro n57
    rintro ⟨y47, y48⟩ w2_53 h3 hv3
    refine sq (sr (s1 (mv rfl) (s1 (mv rfl) (s1 (len rfl rfl rfl (len_lst un40)) (s1 (bi rfl rfl q_i64_lss) (sn (cB h3 rfl (fun h3 => ?_) (fun h3 => ?_))))))))
    · obtain ⟨v55, hv55, h3⟩ := ob h3; obtain ⟨hg56, h3⟩ := gd h3
      refine sk (sq (SC.blk (SC.region (s1 (mv rfl) (s1 (mv rfl) (s1 (mv rfl) (s1 (ial rfl rfl un40 ts76 (getI_some hv55).1 (map_get (getI_some hv55).2) rfl) (s1 (fap rfl fo76_0 ts3 rfl) (s1 (lod rfl (ld_rop ts3 ta3 rfl)) ?_)))))))))
      refine s1 (bsn (k := 1) (ds := List.map eI [v55.Col]) (off := 0) (l' := [v55.Col].length) rfl un23 ei3 rfl rfl (by rfl) rfl rfl rfl) (s1 (app rfl rfl rfl rfl bc23 (aF (f := eI) (xs := y47) (k := 2) rfl un23 ei3 rfl (el_full (xs := [v55.Col]) rfl) hg56 rfl)) (s1 (asg rfl) (SO.nil ?_)))
      change SC _ _ _ _ _
      have q := si h3; subst q
      exact SC.region (s1 (mv rfl) (s1 (bi rfl rfl q_i64_add) (s1 (asg rfl) (SO.nil (lf (wc [2] [2] (by kernel_rfl) rfl (by kernel_rfl)))))))
    · have q := si h3; subst q; have q : _ = _ := hv3; subst q; have q := si h1; subst q
      exact SC.exit ((wq rfl))
  · rintro y43 h0
    have q := si h0; subst q
    exact sr (s1 (mv rfl) (s1 (asg rfl) (sn (SC.ret (finR (Wk.trans (Wk.frz (i := 2) (x := .slc 0 1 0 y43.length none) rfl rfl (fF rfl rfl rfl)) (wc (e' := [(2, .d ((eL 1 eI) y43))]) [] [] (by kernel_rfl) rfl (by kernel_rfl))) (lresT rfl lresN) rfl)))))

/-- granary/granaryref17.index -/
noncomputable def ref17_index (p0 : ApiTable) (p1 : ApiIndex) : Option Int :=
  Option.bind (α := Bool)
    (bif (decide ((p1.Parts.length : Int) < (1 : Int))) then
      some true
    else
      bif (decide ((p1.Parts.length : Int) > (4 : Int))) then
        some true
      else
        Option.bind (ref17_Cols p1.Parts) fun r145 =>
        Option.bind (ref17_places (p0.Cols.length : Int) r145) fun r147 =>
        bif (!r147) then
          some true
        else
          Option.bind (ref17_places (p0.Cols.length : Int) p1.Extra) fun r149 =>
          some (!r149))
    fun y143 =>
  bif y143 then
    some (1 : Int)
  else
    bindE (Y := Unit) (E := Int)
      (Option.bind (α := Unit ⊕ Int)
        (loop (Y := Int) (W := Unit ⊕ Int) (fun y229 =>
          bif (decide (y229 < (p1.Extra.length : Int))) then
            Option.bind (α := Bool)
              (Option.bind (ref17_Cols p1.Parts) fun r261 =>
              Option.bind (getI p1.Extra y229) fun v263 =>
              Option.bind (ref17_Has r261 v263) fun r264 =>
              bif r264 then
                some true
              else
                Option.bind (getI p1.Extra y229) fun v266 =>
                Option.bind (ref17_Has p0.Primary v266) fun r267 =>
                some r267)
              fun y259 =>
            bif y259 then
              some (Sum.inr (Sum.inr (1 : Int)))
            else
              some (Sum.inl (w64 (y229 + (1 : Int))))
          else
            some (Sum.inr (Sum.inl ()))) (0 : Int))
        (Sum.elim (fun e => some (Sum.inl e)) (fun e => some (Sum.inr e))))
      (fun _ =>
        Option.bind (ref17_KeyMax p0.Cols p1.Parts) fun r270 =>
        bif (decide (r270 > (128 : Int))) then
          some (7 : Int)
        else
          some (0 : Int))
      (fun e => some e)
theorem ref17_index_ok (p0 : ApiTable) (p1 : ApiIndex) (r : Int) (h0 : ref17_index p0 p1 = some r) : CallAt Tryd.prog 21 [.d (eApiTable p0), .d (eApiIndex p1)] [] (.d (eI r)) [] := by
  unfold ref17_index at h0
  refine fn0 [0, 1] Tryd.func21 rfl rfl rfl rfl rfl ?_
  refine sr (s1 (bxo (k := 0) rfl rfl rfl) (s1 (bxo (k := 1) rfl rfl rfl) (s1 (asg rfl) (sn (sr (s1 (far (k := 1) rfl fo26_1 ts22 rfl) (s1 (lod rfl (ld_box ts22 ta22 rfl rfl)) (s1 (len rfl rfl rfl (len_lst un22)) (s1 (asg rfl) ?_)))))))))
  refine sn (sq (SC.seqP h0 (fun y => ⟨mk 67 [(2, .ref 0 0 0), (3, .ref 1 0 0), (34, .d (eB y))], [.box (.d (eApiTable p0)), .box (.d (eApiIndex p1))]⟩) ?_ ?_))
  · intro u1_144 h1
    refine SC.region (s1 (far (k := 1) rfl fo42_1 ts40 rfl) (s1 (lod rfl (ld_box ts40 ta40 rfl rfl)) (s1 (len rfl rfl rfl (len_lst un40)) (s1 (bi rfl rfl q_i64_lss) (s1 (mv rfl) (sp h1 (fun h1 => ?_) (fun h1 => ?_)))))))
    · have q := si h1; subst q
      refine k1 (wb rfl rfl rfl) (k1 (wb rfl rfl rfl) (k1 (wb rfl rfl rfl) (k1 (wb rfl rfl rfl) (s1 (pkt rfl rfl) (s1 (mv rfl) (k1 (wb rfl rfl rfl) (k1 (wb rfl rfl rfl) (k1 (wb rfl rfl rfl) (k1 (wb rfl rfl rfl) ?_)))))))))
      refine k1 (wb rfl rfl rfl) (k1 (wb rfl rfl rfl) (s1 (pkt rfl rfl) (s1 (mv rfl) (k1 (wb rfl rfl rfl) (k1 (wb rfl rfl rfl) (k1 (wb rfl rfl rfl) (k1 (wb rfl rfl rfl) (k1 (wb rfl rfl rfl) (s1 (pkt rfl rfl) ?_)))))))))
      exact SO.nil ((wq rfl))
    · refine g1 (wb rfl rfl rfl) (far (k := 1) rfl fo42_1 ts40 rfl) (g1 (wb rfl rfl rfl) (lod rfl (ld_box ts40 ta40 rfl rfl)) (g1 (wb rfl rfl rfl) (len rfl rfl rfl (len_lst un40)) (g1 (wb rfl rfl rfl) (bi rfl rfl q_i64_gtr) (s1 (pkf rfl rfl) (s1 (mv rfl) (sp h1 (fun h1 => ?_) (fun h1 => ?_)))))))
      · have q := si h1; subst q
        refine k1 (wb rfl rfl rfl) (k1 (wb rfl rfl rfl) (k1 (wb rfl rfl rfl) (k1 (wb rfl rfl rfl) (k1 (wb rfl rfl rfl) (k1 (wb rfl rfl rfl) (s1 (pkt rfl rfl) (s1 (mv rfl) (k1 (wb rfl rfl rfl) (k1 (wb rfl rfl rfl) ?_)))))))))
        exact k1 (wb rfl rfl rfl) (k1 (wb rfl rfl rfl) (k1 (wb rfl rfl rfl) (s1 (pkt rfl rfl) (SO.nil ((wq rfl))))))
      · obtain ⟨r145, hq146, h1⟩ := ob h1; obtain ⟨r147, hq148, h1⟩ := ob h1
        refine g1 (wb rfl rfl rfl) (mv rfl) (g1 (wb rfl rfl rfl) (far (k := 1) rfl fo42_1 ts40 rfl) (g1 (wb rfl rfl rfl) (lod rfl (ld_box ts40 ta40 rfl rfl)) (c0 (ref17_Cols_ok p1.Parts _ hq146) (wb rfl rfl rfl) rfl rfl rfl cb36 rfl (fun _ => rfl) (fun _ => rfl) (c0 (ref17_places_ok (p0.Cols.length : Int) r145 _ hq148) (wb rfl rfl rfl) rfl rfl rfl cb17 rfl (fun _ => rfl) (fun _ => rfl) (g1 (wb rfl rfl rfl) (nt rfl) (s1 (pkf rfl rfl) (s1 (mv rfl) (sp h1 (fun h1 => ?_) (fun h1 => ?_)))))))))
        · have q := si h1; subst q
          exact k1 (wb rfl rfl rfl) (k1 (wb rfl rfl rfl) (k1 (wb rfl rfl rfl) (k1 (wb rfl rfl rfl) (k1 (wb rfl rfl rfl) (s1 (pkt rfl rfl) (SO.nil ((wq rfl))))))))
        · obtain ⟨r149, hq150, h1⟩ := ob h1; have q := si h1; subst q
          exact g1 (wb rfl rfl rfl) (mv rfl) (g1 (wb rfl rfl rfl) (far (k := 2) rfl fo42_2 ts23 rfl) (g1 (wb rfl rfl rfl) (lod rfl (ld_box ts23 ta23 rfl rfl)) (c0 (ref17_places_ok (p0.Cols.length : Int) p1.Extra _ hq150) (wb rfl rfl rfl) rfl rfl rfl cb17 rfl (fun _ => rfl) (fun _ => rfl) (g1 (wb rfl rfl rfl) (nt rfl) (s1 (pkf rfl rfl) (SO.nil ((wq rfl))))))))
  · rintro y143 h0
    refine cB h0 rfl (fun h0 => ?_) (fun h0 => ?_)
    · have q := si h0; subst q
      exact sr (s1 (asg rfl) (sn (SC.ret (finR (wc (e' := [(4, .d (eI (1 : Int)))]) [] [] (by kernel_rfl) rfl (by kernel_rfl)) (lresT rfl lresN) rfl))))
    · refine sk (SC.seqB h0 (fun y => ⟨mk 67 [(2, .ref 0 0 0), (3, .ref 1 0 0)], [.box (.d (eApiTable p0)), .box (.d (eApiIndex p1))]⟩) ?_ ?_)
      · intro u1_210 h1 h0
        obtain ⟨u2_250, h2, h1⟩ := ob h1
        refine sr (s1 (asg rfl) (sn (SC.blk (SC.loopB h2 (fun y => ⟨mk 67 [(2, .ref 0 0 0), (3, .ref 1 0 0), (6, .d (eI y))], [.box (.d (eApiTable p0)), .box (.d (eApiIndex p1))]⟩) (wq rfl) ?_))))
        intro n269
        rintro y229 w2_249 h3 hv3
        refine sq (sr (s1 (mv rfl) (s1 (far (k := 2) rfl fo42_2 ts23 rfl) (s1 (lod rfl (ld_box ts23 ta23 rfl rfl)) (s1 (len rfl rfl rfl (len_lst un23)) (s1 (bi rfl rfl q_i64_lss) (sn (cB h3 rfl (fun h3 => ?_) (fun h3 => ?_)))))))))
        · refine sk (sq (SC.blk (SC.seqP h3 (fun y => ⟨mk 67 [(2, .ref 0 0 0), (3, .ref 1 0 0), (6, .d (eI y229)), (60, .d (eB y))], [.box (.d (eApiTable p0)), .box (.d (eApiIndex p1))]⟩) ?_ ?_)))
          · intro u4_260 h4
            obtain ⟨r261, hq262, h4⟩ := ob h4; obtain ⟨v263, hv263, h4⟩ := ob h4; obtain ⟨r264, hq265, h4⟩ := ob h4
            refine SC.draws (by kernel_rfl) (t1 ([], false) (far (k := 1) rfl fo42_1 ts40 rfl) rfl (t1 ([1], false) (lod rfl (ld_box ts40 ta40 rfl rfl)) rfl (tc0 (ref17_Cols_ok p1.Parts _ hq262) wf rfl rfl rfl cb36 rfl (fun _ => rfl) (fun _ => rfl) (t1 ([], false) (far (k := 2) rfl fo42_2 ts23 rfl) rfl (t1 ([1], false) (lod rfl (ld_box ts23 ta23 rfl rfl)) rfl (t1 ([], false) (mv rfl) rfl (t1 ([], false) (ial rfl rfl un23 ts3 (getI_some hv263).1 (map_get (getI_some hv263).2) rfl) rfl (t1 ([], false) (lod rfl (ld_rop ts3 ta3 rfl)) rfl (tc0 (ref17_Has_ok r261 v263 _ hq265) wf rfl rfl rfl cb34 rfl (fun _ => rfl) (fun _ => rfl) ?_)))))))))
            refine t1 ([], false) (mv rfl) rfl (tp h4 (fun h4 => ?_) (fun h4 => ?_))
            · have q := si h4; subst q
              refine j1 (wb rfl rfl rfl) (j1 (wb rfl rfl rfl) (j1 (wb rfl rfl rfl) (j1 (wb rfl rfl rfl) (j1 (wb rfl rfl rfl) (j1 (wb rfl rfl rfl) (j1 (wb rfl rfl rfl) (j1 (wb rfl rfl rfl) (t1 ([], false) (pkt rfl rfl) rfl (ST.nil (And.intro (by decide +kernel) ?_))))))))))
              exact (wq rfl)
            · obtain ⟨v266, hv266, h4⟩ := ob h4; obtain ⟨r267, hq268, h4⟩ := ob h4; have q := si h4; subst q
              refine u1 ([], false) (wb rfl rfl rfl) (far (k := 2) rfl fo26_2 ts23 rfl) rfl (u1 ([0], false) (wb rfl rfl rfl) (lod rfl (ld_box ts23 ta23 rfl rfl)) rfl (u1 ([], false) (wb rfl rfl rfl) (far (k := 2) rfl fo42_2 ts23 rfl) rfl (u1 ([1], false) (wb rfl rfl rfl) (lod rfl (ld_box ts23 ta23 rfl rfl)) rfl (u1 ([], false) (wb rfl rfl rfl) (mv rfl) rfl (u1 ([], false) (wb rfl rfl rfl) (ial rfl rfl un23 ts3 (getI_some hv266).1 (map_get (getI_some hv266).2) rfl) rfl (u1 ([], false) (wb rfl rfl rfl) (lod rfl (ld_rop ts3 ta3 rfl)) rfl (tc0 (ref17_Has_ok p0.Primary v266 _ hq268) (wb rfl rfl rfl) rfl rfl rfl cb34 rfl (fun _ => rfl) (fun _ => rfl) (t1 ([], false) (pkf rfl rfl) rfl (ST.nil (And.intro (by decide +kernel) ?_))))))))))
              exact (wq rfl)
          · rintro y259 h3
            refine cB h3 rfl (fun h3 => ?_) (fun h3 => ?_)
            · have q := si h3; subst q; have q : _ = _ := hv3; subst q; have q := si h1; subst q; have q := si h0; subst q
              exact sr (s1 (asg rfl) (sn (SC.ret (finR (wc (e' := [(4, .d (eI (1 : Int)))]) [] [] (by kernel_rfl) rfl (by kernel_rfl)) (lresT rfl lresN) rfl))))
            · refine SC.skip ?_
              change SC _ _ _ _ _
              have q := si h3; subst q
              exact SC.region (s1 (mv rfl) (s1 (bi rfl rfl q_i64_add) (s1 (asg rfl) (SO.nil (lf (wq rfl))))))
        · have q := si h3; subst q; have q : _ = _ := hv3; subst q; have q := si h1; subst q
          exact SC.exit (lf (wq rfl))
      · intro _ h0
        obtain ⟨r270, hq271, h0⟩ := ob h0
        refine sq (sr (s1 (far (k := 1) rfl fo26_1 ts22 rfl) (s1 (lod rfl (ld_box ts22 ta22 rfl rfl)) (s1 (far (k := 1) rfl fo42_1 ts40 rfl) (s1 (lod rfl (ld_box ts40 ta40 rfl rfl)) (c0 (ref17_KeyMax_ok p0.Cols p1.Parts _ hq271) wf rfl rfl rfl cb19 rfl (fun _ => rfl) (fun _ => rfl) (s1 (bi rfl rfl q_i64_gtr) (sn (cB h0 rfl (fun h0 => ?_) (fun h0 => ?_))))))))))
        · have q := si h0; subst q
          exact sr (s1 (asg rfl) (sn (SC.ret (finR (wc (e' := [(4, .d (eI (7 : Int)))]) [] [] (by kernel_rfl) rfl (by kernel_rfl)) (lresT rfl lresN) rfl))))
        · have q := si h0; subst q
          exact sk (sr (s1 (asg rfl) (sn (SC.ret (finR (wc (e' := [(4, .d (eI (0 : Int)))]) [] [] (by kernel_rfl) rfl (by kernel_rfl)) (lresT rfl lresN) rfl)))))

/-- granary/granaryref17.Check -/
noncomputable def ref17_Check (p0 : ApiTable) : Option Int :=
  Option.bind (ref06_Name p0.Name) fun r443 =>
  bif (!r443) then
    some (1 : Int)
  else
    Option.bind (α := Bool)
      (bif (decide ((p0.Cols.length : Int) < (1 : Int))) then
        some true
      else
        some (decide ((p0.Cols.length : Int) > (24 : Int))))
      fun y445 =>
    bif y445 then
      some (7 : Int)
    else
      bindE (Y := Unit) (E := Int)
        (Option.bind (α := Unit ⊕ Int)
          (loop (Y := Int) (W := Unit ⊕ Int) (fun y537 =>
            bif (decide (y537 < (p0.Cols.length : Int))) then
              bindE (Y := Unit) (E := Int)
                (Option.bind (getI p0.Cols y537) fun v585 =>
                Option.bind (ref06_Column v585) fun r586 =>
                bif (r586 != (0 : Int)) then
                  some (Sum.inr r586)
                else
                  Option.bind (α := Unit ⊕ Int)
                    (loop (Y := Int) (W := Unit ⊕ Int) (fun y590 =>
                      bif (decide (y590 < y537)) then
                        Option.bind (getI p0.Cols y590) fun v596 =>
                        Option.bind (getI p0.Cols y537) fun v597 =>
                        bif (v596.Name == v597.Name) then
                          some (Sum.inr (Sum.inr (6 : Int)))
                        else
                          some (Sum.inl (w64 (y590 + (1 : Int))))
                      else
                        some (Sum.inr (Sum.inl ()))) (0 : Int))
                    (Sum.elim (fun e => some (Sum.inl e)) (fun e => some (Sum.inr e))))
                (fun _ =>
                  some (Sum.inl (w64 (y537 + (1 : Int)))))
                (fun e => some (Sum.inr (Sum.inr e)))
            else
              some (Sum.inr (Sum.inl ()))) (0 : Int))
          (Sum.elim (fun e => some (Sum.inl e)) (fun e => some (Sum.inr e))))
        (fun _ =>
          Option.bind (α := Bool)
            (bif (decide ((p0.Primary.length : Int) < (1 : Int))) then
              some true
            else
              bif (decide ((p0.Primary.length : Int) > (4 : Int))) then
                some true
              else
                Option.bind (ref17_places (p0.Cols.length : Int) p0.Primary) fun r604 =>
                some (!r604))
            fun y602 =>
          bif y602 then
            some (1 : Int)
          else
            bindE (Y := Unit) (E := Int)
              (Option.bind (α := Unit ⊕ Int)
                (loop (Y := Int) (W := Unit ⊕ Int) (fun y620 =>
                  bif (decide (y620 < (p0.Primary.length : Int))) then
                    Option.bind (getI p0.Primary y620) fun v626 =>
                    Option.bind (getI p0.Cols v626) fun v627 =>
                    bif v627.Nulls then
                      some (Sum.inr (Sum.inr (1 : Int)))
                    else
                      some (Sum.inl (w64 (y620 + (1 : Int))))
                  else
                    some (Sum.inr (Sum.inl ()))) (0 : Int))
                (Sum.elim (fun e => some (Sum.inl e)) (fun e => some (Sum.inr e))))
              (fun _ =>
                Option.bind (α := Bool)
                  (Option.bind (ref17_RowMax p0.Cols) fun r637 =>
                  bif (decide (r637 > (512 : Int))) then
                    some true
                  else
                    Option.bind (ref17_Up p0.Primary) fun r639 =>
                    Option.bind (ref17_KeyMax p0.Cols r639) fun r641 =>
                    bif (decide (r641 > (128 : Int))) then
                      some true
                    else
                      some (decide ((p0.Indexes.length : Int) > (6 : Int))))
                  fun y635 =>
                bif y635 then
                  some (7 : Int)
                else
                  bindE (Y := Unit) (E := Int)
                    (Option.bind (α := Unit ⊕ Int)
                      (loop (Y := Int) (W := Unit ⊕ Int) (fun y789 =>
                        bif (decide (y789 < (p0.Indexes.length : Int))) then
                          bindE (Y := Unit) (E := Int)
                            (Option.bind (getI p0.Indexes y789) fun v861 =>
                            Option.bind (ref06_Name v861.Name) fun r862 =>
                            bif (!r862) then
                              some (Sum.inr (1 : Int))
                            else
                              bindE (Y := Unit) (E := Int)
                                (Option.bind (α := Unit ⊕ Int)
                                  (loop (Y := Int) (W := Unit ⊕ Int) (fun y874 =>
                                    bif (decide (y874 < y789)) then
                                      Option.bind (getI p0.Indexes y874) fun v879 =>
                                      bif (v879.Name == v861.Name) then
                                        some (Sum.inr (Sum.inr (6 : Int)))
                                      else
                                        some (Sum.inl (w64 (y874 + (1 : Int))))
                                    else
                                      some (Sum.inr (Sum.inl ()))) (0 : Int))
                                  (Sum.elim (fun e => some (Sum.inl e)) (fun e => some (Sum.inr e))))
                                (fun _ =>
                                  Option.bind (ref17_index p0 v861) fun r881 =>
                                  bif (r881 != (0 : Int)) then
                                    some (Sum.inr r881)
                                  else
                                    some (Sum.inl ()))
                                (fun e => some (Sum.inr e)))
                            (fun _ =>
                              some (Sum.inl (w64 (y789 + (1 : Int)))))
                            (fun e => some (Sum.inr (Sum.inr e)))
                        else
                          some (Sum.inr (Sum.inl ()))) (0 : Int))
                      (Sum.elim (fun e => some (Sum.inl e)) (fun e => some (Sum.inr e))))
                    (fun _ =>
                      some (0 : Int))
                    (fun e => some e))
              (fun e => some e))
        (fun e => some e)
theorem ref17_Check_ok (p0 : ApiTable) (r : Int) (h0 : ref17_Check p0 = some r) : CallAt Tryd.prog 7 [.d (eApiTable p0)] [] (.d (eI r)) [] := by
  unfold ref17_Check at h0
  refine fn0 [0] Tryd.func7 rfl rfl rfl rfl rfl ?_
  obtain ⟨r443, hq444, h0⟩ := ob h0
  refine sr (s1 (bxo (k := 0) rfl rfl rfl) (s1 (asg rfl) (sn (sq (sr (s1 (far (k := 0) rfl fo26_0 ts9 rfl) (s1 (lod rfl (ld_box ts9 ta9 rfl rfl)) (c0 (ref06_Name_ok p0.Name _ hq444) wf rfl rfl rfl cb15 rfl (fun _ => rfl) (fun _ => rfl) (s1 (nt rfl) ?_)))))))))
  refine sn (cB h0 rfl (fun h0 => ?_) (fun h0 => ?_))
  · have q := si h0; subst q
    exact sr (s1 (asg rfl) (sn (SC.ret (finR (wc (e' := [(2, .d (eI (1 : Int)))]) [] [] (by kernel_rfl) rfl (by kernel_rfl)) (lresT rfl lresN) rfl))))
  · refine sk (sq (SC.seqP h0 (fun y => ⟨mk 150 [(1, .ref 0 0 0), (24, .d (eB y))], [.box (.d (eApiTable p0))]⟩) ?_ ?_))
    · intro u1_446 h1
      refine SC.region (s1 (far (k := 1) rfl fo26_1 ts22 rfl) (s1 (lod rfl (ld_box ts22 ta22 rfl rfl)) (s1 (len rfl rfl rfl (len_lst un22)) (s1 (bi rfl rfl q_i64_lss) (s1 (mv rfl) (sp h1 (fun h1 => ?_) (fun h1 => ?_)))))))
      · have q := si h1; subst q
        exact k1 (wb rfl rfl rfl) (k1 (wb rfl rfl rfl) (k1 (wb rfl rfl rfl) (k1 (wb rfl rfl rfl) (s1 (pkt rfl rfl) (SO.nil ((wq rfl)))))))
      · have q := si h1; subst q
        exact g1 (wb rfl rfl rfl) (far (k := 1) rfl fo26_1 ts22 rfl) (g1 (wb rfl rfl rfl) (lod rfl (ld_box ts22 ta22 rfl rfl)) (g1 (wb rfl rfl rfl) (len rfl rfl rfl (len_lst un22)) (g1 (wb rfl rfl rfl) (bi rfl rfl q_i64_gtr) (s1 (pkf rfl rfl) (SO.nil ((wq rfl)))))))
    · rintro y445 h0
      refine cB h0 rfl (fun h0 => ?_) (fun h0 => ?_)
      · have q := si h0; subst q
        exact sr (s1 (asg rfl) (sn (SC.ret (finR (wc (e' := [(2, .d (eI (7 : Int)))]) [] [] (by kernel_rfl) rfl (by kernel_rfl)) (lresT rfl lresN) rfl))))
      · refine sk (SC.seqB h0 (fun y => ⟨mk 150 [(1, .ref 0 0 0)], [.box (.d (eApiTable p0))]⟩) ?_ ?_)
        · intro u1_523 h1 h0
          obtain ⟨u2_569, h2, h1⟩ := ob h1
          refine sr (s1 (asg rfl) (sn (SC.blk (SC.loopB h2 (fun y => ⟨mk 150 [(1, .ref 0 0 0), (3, .d (eI y))], [.box (.d (eApiTable p0))]⟩) (wq rfl) ?_))))
          intro n599
          rintro y537 w2_568 h3 hv3
          refine sq (sr (s1 (mv rfl) (s1 (far (k := 1) rfl fo26_1 ts22 rfl) (s1 (lod rfl (ld_box ts22 ta22 rfl rfl)) (s1 (len rfl rfl rfl (len_lst un22)) (s1 (bi rfl rfl q_i64_lss) (sn (cB h3 rfl (fun h3 => ?_) (fun h3 => ?_)))))))))
          · refine sk (SC.seqB h3 (fun y => ⟨mk 150 [(1, .ref 0 0 0), (3, .d (eI y537))], [.box (.d (eApiTable p0))]⟩) ?_ ?_)
            · intro u4_584 h4 h3
              obtain ⟨v585, hv585, h4⟩ := ob h4; obtain ⟨r586, hq587, h4⟩ := ob h4
              refine SC.blk (sr (s1 (far (k := 1) rfl fo26_1 ts22 rfl) (s1 (lod rfl (ld_box ts22 ta22 rfl rfl)) (s1 (mv rfl) (s1 (ial rfl rfl un22 ts74 (getI_some hv585).1 (map_get (getI_some hv585).2) rfl) (s1 (lod (v := .d (eApiColumn v585)) rfl (ld_rop ts74 ta74 rfl)) (c0 (ref06_Column_ok v585 _ hq587) wf rfl rfl rfl cb16 rfl (fun _ => rfl) (fun _ => rfl) (s1 (asg rfl) (sn ?_)))))))))
              refine sq (sr (s1 (mv rfl) (s1 (bi rfl rfl q_i64_neq) (sn (cB h4 rfl (fun h4 => ?_) (fun h4 => ?_))))))
              · have q := si h4; subst q; have q := si h3; subst q; have q : _ = _ := hv3; subst q; have q := si h1; subst q; have q := si h0; subst q
                exact sr (s1 (mv rfl) (s1 (asg rfl) (sn (SC.ret (finR (wc (e' := [(2, .d (eI r586))]) [] [] (by kernel_rfl) rfl (by kernel_rfl)) (lresT rfl lresN) rfl)))))
              · obtain ⟨u5_595, h5, h4⟩ := ob h4
                refine sk (sr (s1 (asg rfl) (sn (SC.blk (SC.loopB h5 (fun y => ⟨mk 150 [(1, .ref 0 0 0), (3, .d (eI y537)), (5, .d (eI y))], [.box (.d (eApiTable p0))]⟩) (wq rfl) ?_)))))
                intro n598
                rintro y590 w5_594 h6 hv6
                refine sq (sr (s1 (mv rfl) (s1 (mv rfl) (s1 (bi rfl rfl q_i64_lss) (sn (cB h6 rfl (fun h6 => ?_) (fun h6 => ?_)))))))
                · obtain ⟨v596, hv596, h6⟩ := ob h6; obtain ⟨v597, hv597, h6⟩ := ob h6
                  refine sk (sq (SC.blk (sd (by kernel_rfl) (t1 ([], false) (far (k := 1) rfl fo26_1 ts22 rfl) rfl (t1 ([0], false) (lod rfl (ld_box ts22 ta22 rfl rfl)) rfl (t1 ([], false) (mv rfl) rfl (t1 ([], false) (ial rfl rfl un22 ts74 (getI_some hv596).1 (map_get (getI_some hv596).2) rfl) rfl (t1 ([], false) (fap rfl fo74_0 ts9 rfl) rfl (t1 ([], false) (lod rfl (ld_rop ts9 ta9 rfl)) rfl ?_)))))))))
                  refine t1 ([], false) (far (k := 1) rfl fo26_1 ts22 rfl) rfl (t1 ([0], false) (lod rfl (ld_box ts22 ta22 rfl rfl)) rfl (t1 ([], false) (mv rfl) rfl (t1 ([], false) (ial rfl rfl un22 ts74 (getI_some hv597).1 (map_get (getI_some hv597).2) rfl) rfl (t1 ([], false) (fap rfl fo74_0 ts9 rfl) rfl (t1 ([], false) (lod rfl (ld_rop ts9 ta9 rfl)) rfl (t1 ([], false) (bi rfl rfl q_str_eql) rfl (tn (by decide +kernel) (cB h6 rfl (fun h6 => ?_) (fun h6 => ?_)))))))))
                  · have q := si h6; subst q; have q : _ = _ := hv6; subst q; have q := si h4; subst q; have q := si h3; subst q; have q : _ = _ := hv3; subst q; have q := si h1; subst q; have q := si h0; subst q
                    exact sr (s1 (asg rfl) (sn (SC.ret (finR (wc (e' := [(2, .d (eI (6 : Int)))]) [] [] (by kernel_rfl) rfl (by kernel_rfl)) (lresT rfl lresN) rfl))))
                  · refine SC.skip ?_
                    change SC _ _ _ _ _
                    have q := si h6; subst q
                    exact SC.region (s1 (mv rfl) (s1 (bi rfl rfl q_i64_add) (s1 (asg rfl) (SO.nil (lf (wq rfl))))))
                · have q := si h6; subst q; have q : _ = _ := hv6; subst q; have q := si h4; subst q
                  exact SC.exit (lf (wq rfl))
            · intro _ h3
              have q := si h3; subst q
              exact SC.region (s1 (mv rfl) (s1 (bi rfl rfl q_i64_add) (s1 (asg rfl) (SO.nil (lf (wq rfl))))))
          · have q := si h3; subst q; have q : _ = _ := hv3; subst q; have q := si h1; subst q
            exact SC.exit (lf (wq rfl))
        · intro _ h0
          refine sq (SC.seqP h0 (fun y => ⟨mk 150 [(1, .ref 0 0 0), (77, .d (eB y))], [.box (.d (eApiTable p0))]⟩) ?_ ?_)
          · intro u1_603 h1
            refine SC.region (s1 (far (k := 2) rfl fo26_2 ts23 rfl) (s1 (lod rfl (ld_box ts23 ta23 rfl rfl)) (s1 (len rfl rfl rfl (len_lst un23)) (s1 (bi rfl rfl q_i64_lss) (s1 (mv rfl) (sp h1 (fun h1 => ?_) (fun h1 => ?_)))))))
            · have q := si h1; subst q
              refine k1 (wb rfl rfl rfl) (k1 (wb rfl rfl rfl) (k1 (wb rfl rfl rfl) (k1 (wb rfl rfl rfl) (s1 (pkt rfl rfl) (s1 (mv rfl) (k1 (wb rfl rfl rfl) (k1 (wb rfl rfl rfl) (k1 (wb rfl rfl rfl) (k1 (wb rfl rfl rfl) ?_)))))))))
              exact k1 (wb rfl rfl rfl) (k1 (wb rfl rfl rfl) (k1 (wb rfl rfl rfl) (s1 (pkt rfl rfl) (SO.nil ((wq rfl))))))
            · refine g1 (wb rfl rfl rfl) (far (k := 2) rfl fo26_2 ts23 rfl) (g1 (wb rfl rfl rfl) (lod rfl (ld_box ts23 ta23 rfl rfl)) (g1 (wb rfl rfl rfl) (len rfl rfl rfl (len_lst un23)) (g1 (wb rfl rfl rfl) (bi rfl rfl q_i64_gtr) (s1 (pkf rfl rfl) (s1 (mv rfl) (sp h1 (fun h1 => ?_) (fun h1 => ?_)))))))
              · have q := si h1; subst q
                exact k1 (wb rfl rfl rfl) (k1 (wb rfl rfl rfl) (k1 (wb rfl rfl rfl) (k1 (wb rfl rfl rfl) (k1 (wb rfl rfl rfl) (k1 (wb rfl rfl rfl) (k1 (wb rfl rfl rfl) (s1 (pkt rfl rfl) (SO.nil ((wq rfl))))))))))
              · obtain ⟨r604, hq605, h1⟩ := ob h1; have q := si h1; subst q
                exact g1 (wb rfl rfl rfl) (far (k := 1) rfl fo26_1 ts22 rfl) (g1 (wb rfl rfl rfl) (lod rfl (ld_box ts22 ta22 rfl rfl)) (g1 (wb rfl rfl rfl) (len rfl rfl rfl (len_lst un22)) (g1 (wb rfl rfl rfl) (far (k := 2) rfl fo26_2 ts23 rfl) (g1 (wb rfl rfl rfl) (lod rfl (ld_box ts23 ta23 rfl rfl)) (c0 (ref17_places_ok (p0.Cols.length : Int) p0.Primary _ hq605) (wb rfl rfl rfl) rfl rfl rfl cb17 rfl (fun _ => rfl) (fun _ => rfl) (g1 (wb rfl rfl rfl) (nt rfl) (s1 (pkf rfl rfl) (SO.nil ((wq rfl))))))))))
          · rintro y602 h0
            refine cB h0 rfl (fun h0 => ?_) (fun h0 => ?_)
            · have q := si h0; subst q
              exact sr (s1 (asg rfl) (sn (SC.ret (finR (wc (e' := [(2, .d (eI (1 : Int)))]) [] [] (by kernel_rfl) rfl (by kernel_rfl)) (lresT rfl lresN) rfl))))
            · refine sk (SC.seqB h0 (fun y => ⟨mk 150 [(1, .ref 0 0 0)], [.box (.d (eApiTable p0))]⟩) ?_ ?_)
              · intro u1_617 h1 h0
                obtain ⟨u2_625, h2, h1⟩ := ob h1
                refine sr (s1 (asg rfl) (sn (SC.blk (SC.loopB h2 (fun y => ⟨mk 150 [(1, .ref 0 0 0), (6, .d (eI y))], [.box (.d (eApiTable p0))]⟩) (wq rfl) ?_))))
                intro n628
                rintro y620 w2_624 h3 hv3
                refine sq (sr (s1 (mv rfl) (s1 (far (k := 2) rfl fo26_2 ts23 rfl) (s1 (lod rfl (ld_box ts23 ta23 rfl rfl)) (s1 (len rfl rfl rfl (len_lst un23)) (s1 (bi rfl rfl q_i64_lss) (sn (cB h3 rfl (fun h3 => ?_) (fun h3 => ?_)))))))))
                · obtain ⟨v626, hv626, h3⟩ := ob h3; obtain ⟨v627, hv627, h3⟩ := ob h3
                  refine sk (sq (SC.blk (sd (by kernel_rfl) (t1 ([], false) (far (k := 1) rfl fo26_1 ts22 rfl) rfl (t1 ([0], false) (lod rfl (ld_box ts22 ta22 rfl rfl)) rfl (t1 ([], false) (far (k := 2) rfl fo26_2 ts23 rfl) rfl (t1 ([0], false) (lod rfl (ld_box ts23 ta23 rfl rfl)) rfl (t1 ([], false) (mv rfl) rfl (t1 ([], false) (ial rfl rfl un23 ts3 (getI_some hv626).1 (map_get (getI_some hv626).2) rfl) rfl ?_)))))))))
                  refine t1 ([], false) (lod rfl (ld_rop ts3 ta3 rfl)) rfl (t1 ([], false) (ial rfl rfl un22 ts74 (getI_some hv627).1 (map_get (getI_some hv627).2) rfl) rfl (t1 ([], false) (fap rfl fo74_3 ts4 rfl) rfl (t1 ([], false) (lod rfl (ld_rop ts4 ta4 rfl)) rfl (tn (by decide +kernel) (cB h3 rfl (fun h3 => ?_) (fun h3 => ?_))))))
                  · have q := si h3; subst q; have q : _ = _ := hv3; subst q; have q := si h1; subst q; have q := si h0; subst q
                    exact sr (s1 (asg rfl) (sn (SC.ret (finR (wc (e' := [(2, .d (eI (1 : Int)))]) [] [] (by kernel_rfl) rfl (by kernel_rfl)) (lresT rfl lresN) rfl))))
                  · refine SC.skip ?_
                    change SC _ _ _ _ _
                    have q := si h3; subst q
                    exact SC.region (s1 (mv rfl) (s1 (bi rfl rfl q_i64_add) (s1 (asg rfl) (SO.nil (lf (wq rfl))))))
                · have q := si h3; subst q; have q : _ = _ := hv3; subst q; have q := si h1; subst q
                  exact SC.exit (lf (wq rfl))
              · intro _ h0
                refine sq (SC.seqP h0 (fun y => ⟨mk 150 [(1, .ref 0 0 0), (113, .d (eB y))], [.box (.d (eApiTable p0))]⟩) ?_ ?_)
                · intro u1_636 h1
                  obtain ⟨r637, hq638, h1⟩ := ob h1
                  refine SC.draws (by kernel_rfl) (t1 ([], false) (far (k := 1) rfl fo26_1 ts22 rfl) rfl (t1 ([0], false) (lod rfl (ld_box ts22 ta22 rfl rfl)) rfl (tc0 (ref17_RowMax_ok p0.Cols _ hq638) wf rfl rfl rfl cb18 rfl (fun _ => rfl) (fun _ => rfl) (t1 ([], false) (bi rfl rfl q_i64_gtr) rfl (t1 ([], false) (mv rfl) rfl (tp h1 (fun h1 => ?_) (fun h1 => ?_)))))))
                  · have q := si h1; subst q
                    refine j1 (wb rfl rfl rfl) (j1 (wb rfl rfl rfl) (j1 (wb rfl rfl rfl) (j1 (wb rfl rfl rfl) (j1 (wb rfl rfl rfl) (j1 (wb rfl rfl rfl) (j1 (wb rfl rfl rfl) (t1 ([], false) (pkt rfl rfl) rfl (t1 ([], false) (mv rfl) rfl (j1 (wb rfl rfl rfl) ?_)))))))))
                    refine j1 (wb rfl rfl rfl) (j1 (wb rfl rfl rfl) (j1 (wb rfl rfl rfl) (t1 ([], false) (pkt rfl rfl) rfl (ST.nil (And.intro (by decide +kernel) ?_)))))
                    exact (wq rfl)
                  · obtain ⟨r639, hq640, h1⟩ := ob h1; obtain ⟨r641, hq642, h1⟩ := ob h1
                    refine u1 ([], false) (wb rfl rfl rfl) (far (k := 1) rfl fo26_1 ts22 rfl) rfl (u1 ([0], false) (wb rfl rfl rfl) (lod rfl (ld_box ts22 ta22 rfl rfl)) rfl (u1 ([], false) (wb rfl rfl rfl) (far (k := 2) rfl fo26_2 ts23 rfl) rfl (u1 ([0], false) (wb rfl rfl rfl) (lod rfl (ld_box ts23 ta23 rfl rfl)) rfl (tc0 (ref17_Up_ok p0.Primary _ hq640) (wb rfl rfl rfl) rfl rfl rfl cb20 rfl (fun _ => rfl) (fun _ => rfl) (tc0 (ref17_KeyMax_ok p0.Cols r639 _ hq642) (wb rfl rfl rfl) rfl rfl rfl cb19 rfl (fun _ => rfl) (fun _ => rfl) (u1 ([], false) (wb rfl rfl rfl) (bi rfl rfl q_i64_gtr) rfl (t1 ([], false) (pkf rfl rfl) rfl (t1 ([], false) (mv rfl) rfl (tp h1 (fun h1 => ?_) (fun h1 => ?_))))))))))
                    · have q := si h1; subst q
                      refine j1 (wb rfl rfl rfl) (j1 (wb rfl rfl rfl) (j1 (wb rfl rfl rfl) (j1 (wb rfl rfl rfl) (t1 ([], false) (pkt rfl rfl) rfl (ST.nil (And.intro (by decide +kernel) ?_))))))
                      exact (wq rfl)
                    · have q := si h1; subst q
                      refine u1 ([], false) (wb rfl rfl rfl) (far (k := 3) rfl fo26_3 ts24 rfl) rfl (u1 ([0], false) (wb rfl rfl rfl) (lod rfl (ld_box ts24 ta24 rfl rfl)) rfl (u1 ([], false) (wb rfl rfl rfl) (len rfl rfl rfl (len_lst un24)) rfl (u1 ([], false) (wb rfl rfl rfl) (bi rfl rfl q_i64_gtr) rfl (t1 ([], false) (pkf rfl rfl) rfl (ST.nil (And.intro (by decide +kernel) ?_))))))
                      exact (wq rfl)
                · rintro y635 h0
                  refine cB h0 rfl (fun h0 => ?_) (fun h0 => ?_)
                  · have q := si h0; subst q
                    exact sr (s1 (asg rfl) (sn (SC.ret (finR (wc (e' := [(2, .d (eI (7 : Int)))]) [] [] (by kernel_rfl) rfl (by kernel_rfl)) (lresT rfl lresN) rfl))))
                  · refine sk (SC.seqB h0 (fun y => ⟨mk 150 [], []⟩) ?_ ?_)
                    · intro u1_763 h1 h0
                      obtain ⟨u2_837, h2, h1⟩ := ob h1
                      refine sr (s1 (asg rfl) (sn (SC.blk (SC.loopB h2 (fun y => ⟨mk 150 [(1, .ref 0 0 0), (7, .d (eI y))], [.box (.d (eApiTable p0))]⟩) (wq rfl) ?_))))
                      intro n883
                      rintro y789 w2_836 h3 hv3
                      refine sq (sr (s1 (mv rfl) (s1 (far (k := 3) rfl fo26_3 ts24 rfl) (s1 (lod rfl (ld_box ts24 ta24 rfl rfl)) (s1 (len rfl rfl rfl (len_lst un24)) (s1 (bi rfl rfl q_i64_lss) (sn (cB h3 rfl (fun h3 => ?_) (fun h3 => ?_)))))))))
                      · refine sk (SC.seqB h3 (fun y => ⟨mk 150 [(1, .ref 0 0 0), (7, .d (eI y789))], [.box (.d (eApiTable p0))]⟩) ?_ ?_)
                        · intro u4_860 h4 h3
                          obtain ⟨v861, hv861, h4⟩ := ob h4; obtain ⟨r862, hq863, h4⟩ := ob h4
                          refine SC.blk (sr (s1 (far (k := 3) rfl fo26_3 ts24 rfl) (s1 (lod rfl (ld_box ts24 ta24 rfl rfl)) (s1 (mv rfl) (s1 (ial rfl rfl un24 ts42 (getI_some hv861).1 (map_get (getI_some hv861).2) rfl) (s1 (lod (v := .d (eApiIndex v861)) rfl (ld_rop ts42 ta42 rfl)) (s1 (alo (k := 1) zo42 rfl) (s0 (sto rfl rfl (sB (d' := .d (eApiIndex v861)) ts42 rfl rfl rfl rfl rfl rfl rfl)) (sn ?_)))))))))
                          refine sq (sr (s1 (far (k := 0) rfl fo42_0 ts9 rfl) (s1 (lod rfl (ld_box ts9 ta9 rfl rfl)) (c0 (ref06_Name_ok v861.Name _ hq863) wf rfl rfl rfl cb15 rfl (fun _ => rfl) (fun _ => rfl) (s1 (nt rfl) (sn (cB h4 rfl (fun h4 => ?_) (fun h4 => ?_))))))))
                          · have q := si h4; subst q; have q := si h3; subst q; have q : _ = _ := hv3; subst q; have q := si h1; subst q; have q := si h0; subst q
                            exact sr (s1 (asg rfl) (sn (SC.ret (finR (wc (e' := [(2, .d (eI (1 : Int)))]) [] [] (by kernel_rfl) rfl (by kernel_rfl)) (lresT rfl lresN) rfl))))
                          · refine sk (SC.seqB h4 (fun y => ⟨mk 150 [(1, .ref 0 0 0), (7, .d (eI y789)), (8, .ref 1 0 0)], [.box (.d (eApiTable p0)), .box (.d (eApiIndex v861))]⟩) ?_ ?_)
                            · intro u5_872 h5 h4
                              obtain ⟨u6_878, h6, h5⟩ := ob h5
                              refine sr (s1 (asg rfl) (sn (SC.blk (SC.loopB h6 (fun y => ⟨mk 150 [(1, .ref 0 0 0), (7, .d (eI y789)), (8, .ref 1 0 0), (9, .d (eI y))], [.box (.d (eApiTable p0)), .box (.d (eApiIndex v861))]⟩) (wq rfl) ?_))))
                              intro n880
                              rintro y874 w6_877 h7 hv7
                              refine sq (sr (s1 (mv rfl) (s1 (mv rfl) (s1 (bi rfl rfl q_i64_lss) (sn (cB h7 rfl (fun h7 => ?_) (fun h7 => ?_)))))))
                              · obtain ⟨v879, hv879, h7⟩ := ob h7
                                refine sk (sq (SC.blk (sd (by kernel_rfl) (t1 ([], false) (far (k := 3) rfl fo26_3 ts24 rfl) rfl (t1 ([0], false) (lod rfl (ld_box ts24 ta24 rfl rfl)) rfl (t1 ([], false) (mv rfl) rfl (t1 ([], false) (ial rfl rfl un24 ts42 (getI_some hv879).1 (map_get (getI_some hv879).2) rfl) rfl (t1 ([], false) (fap rfl fo42_0 ts9 rfl) rfl (t1 ([], false) (lod rfl (ld_rop ts9 ta9 rfl)) rfl ?_)))))))))
                                refine t1 ([], false) (far (k := 0) rfl fo42_0 ts9 rfl) rfl (t1 ([1], false) (lod rfl (ld_box ts9 ta9 rfl rfl)) rfl (t1 ([], false) (bi rfl rfl q_str_eql) rfl (tn (by decide +kernel) (cB h7 rfl (fun h7 => ?_) (fun h7 => ?_)))))
                                · have q := si h7; subst q; have q : _ = _ := hv7; subst q; have q := si h5; subst q; have q := si h4; subst q; have q := si h3; subst q; have q : _ = _ := hv3; subst q; have q := si h1; subst q; have q := si h0; subst q
                                  exact sr (s1 (asg rfl) (sn (SC.ret (finR (wc (e' := [(2, .d (eI (6 : Int)))]) [] [] (by kernel_rfl) rfl (by kernel_rfl)) (lresT rfl lresN) rfl))))
                                · refine SC.skip ?_
                                  change SC _ _ _ _ _
                                  have q := si h7; subst q
                                  exact SC.region (s1 (mv rfl) (s1 (bi rfl rfl q_i64_add) (s1 (asg rfl) (SO.nil (lf (wq rfl))))))
                              · have q := si h7; subst q; have q : _ = _ := hv7; subst q; have q := si h5; subst q
                                exact SC.exit (lf (wq rfl))
                            · intro _ h4
                              obtain ⟨r881, hq882, h4⟩ := ob h4
                              refine sr (s1 (lod (v := .d (eApiTable p0)) rfl (ld_box ts26 ta26 rfl rfl)) (s1 (lod (v := .d (eApiIndex v861)) rfl (ld_box ts42 ta42 rfl rfl)) (c0 (ref17_index_ok p0 v861 _ hq882) wf rfl rfl rfl cb21 rfl (fun _ => rfl) (fun _ => rfl) (s1 (asg rfl) (sn (sr (s1 (mv rfl) (s1 (bi rfl rfl q_i64_neq) (sn ?_)))))))))
                              refine cB h4 rfl (fun h4 => ?_) (fun h4 => ?_)
                              · have q := si h4; subst q; have q := si h3; subst q; have q : _ = _ := hv3; subst q; have q := si h1; subst q; have q := si h0; subst q
                                exact sr (s1 (mv rfl) (s1 (asg rfl) (sn (SC.ret (finR (wc (e' := [(2, .d (eI r881))]) [] [] (by kernel_rfl) rfl (by kernel_rfl)) (lresT rfl lresN) rfl)))))
                              · have q := si h4; subst q
                                exact SC.skip (lf (wc [0] [0] (by kernel_rfl) rfl (by kernel_rfl)))
                        · intro _ h3
                          have q := si h3; subst q
                          exact SC.region (s1 (mv rfl) (s1 (bi rfl rfl q_i64_add) (s1 (asg rfl) (SO.nil (lf (wq rfl))))))
                      · have q := si h3; subst q; have q : _ = _ := hv3; subst q; have q := si h1; subst q
                        exact SC.exit (lf (wc [] [] (by kernel_rfl) rfl (by kernel_rfl)))
                    · intro _ h0
                      have q := si h0; subst q
                      exact sr (s1 (asg rfl) (sn (SC.ret (finR (Wk.refl _) (lresT rfl lresN) rfl))))

/-- granary/granaryref17.Copy -/
noncomputable def ref17_Copy (p0 : ApiTable) : Option ((List ApiIndex)) :=
  bif decide ((([] : List ApiColumn).length + p0.Cols.length) * 72 ≤ room) then
  bif decide ((([] : List Int).length + p0.Primary.length) * 8 ≤ room) then
  Option.bind (α := (List ApiIndex))
    (Option.bind (α := (List ApiIndex))
      (loop (Y := (List ApiIndex) × Int) (W := (List ApiIndex)) (fun (y71, y72) =>
        bif (decide (y72 < (p0.Indexes.length : Int))) then
          Option.bind (getI p0.Indexes y72) fun v81 =>
          bif decide ((([] : List ApiPart).length + v81.Parts.length) * 16 ≤ room) then
          bif decide ((([] : List Int).length + v81.Extra.length) * 8 ≤ room) then
          bif decide ((y71.length + [(ApiIndex.mk v81.Name (([] : List ApiPart) ++ v81.Parts) (([] : List Int) ++ v81.Extra) v81.Unique v81.Ready v81.Tree)].length) * 80 ≤ room) then
          some (Sum.inl ((y71 ++ [(ApiIndex.mk v81.Name (([] : List ApiPart) ++ v81.Parts) (([] : List Int) ++ v81.Extra) v81.Unique v81.Ready v81.Tree)]), (w64 (y72 + (1 : Int)))))
          else none
          else none
          else none
        else
          some (Sum.inr y71)) (([] : List ApiIndex), (0 : Int)))
      (fun e => some e))
    fun y65 =>
  some y65
  else none
  else none
theorem ref17_Copy_ok (p0 : ApiTable) (r : (List ApiIndex)) (h0 : ref17_Copy p0 = some r) : CallAt Tryd.prog 8 [.d (eApiTable p0)] [] (.agg [.d (eS p0.Name), .slc 1 7 0 ((([] : List ApiColumn) ++ p0.Cols).length) none, .slc 2 1 0 ((([] : List Int) ++ p0.Primary).length) none, .slc 3 6 0 r.length none, .d (eI p0.Tree)]) [.box (.agg [.d (eS p0.Name), .slc 1 7 0 ((([] : List ApiColumn) ++ p0.Cols).length) none, .slc 2 1 0 ((([] : List Int) ++ p0.Primary).length) none, .slc 3 6 0 r.length none, .d (eI p0.Tree)]), .row 7 (List.map eApiColumn (([] : List ApiColumn) ++ p0.Cols)) true, .row 1 (List.map eI (([] : List Int) ++ p0.Primary)) true, .row 6 (List.map eApiIndex r) true] := by
  unfold ref17_Copy at h0
  refine fn0 [0] Tryd.func8 rfl rfl rfl rfl rfl ?_
  obtain ⟨hg44, h0⟩ := gd h0; obtain ⟨hg45, h0⟩ := gd h0
  refine sr (s1 (bxo (k := 0) rfl rfl rfl) (s1 (alo (k := 1) zo26 rfl) (sn (sr (s1 (bsn (k := 2) (ds := List.map eApiColumn ([] : List ApiColumn)) (off := 0) (l' := ([] : List ApiColumn).length) rfl un22 ei74 rfl rfl rfl rfl rfl rfl) (s1 (far (k := 1) rfl fo26_1 ts22 rfl) (s1 (lod rfl (ld_box ts22 ta22 rfl rfl)) (s1 (app rfl rfl rfl rfl bc22 (aF (f := eApiColumn) (xs := ([] : List ApiColumn)) (k := 3) rfl un22 ei74 rfl el_lst hg44 rfl)) (s1 (far (k := 1) rfl fo26_1 ts22 rfl) ?_)))))))))
  refine s0 (sto rfl rfl (sB (d' := .agg [.d (eS p0.Name), .slc 3 7 0 ((([] : List ApiColumn) ++ p0.Cols).length) none, .d ((eL 1 eI) p0.Primary), .d ((eL 6 eApiIndex) p0.Indexes), .d (eI p0.Tree)]) ts22 rfl rfl rfl rfl rfl rfl rfl)) (sn (sr (s1 (bsn (k := 4) (ds := List.map eI ([] : List Int)) (off := 0) (l' := ([] : List Int).length) rfl un23 ei3 rfl rfl rfl rfl rfl rfl) (s1 (far (k := 2) rfl fo26_2 ts23 rfl) (s1 (lod rfl (ld_box ts23 ta23 rfl rfl)) (s1 (app rfl rfl rfl rfl bc23 (aF (f := eI) (xs := ([] : List Int)) (k := 5) rfl un23 ei3 rfl el_lst hg45 rfl)) (s1 (far (k := 2) rfl fo26_2 ts23 rfl) (s0 (sto rfl rfl (sB (d' := .agg [.d (eS p0.Name), .slc 3 7 0 ((([] : List ApiColumn) ++ p0.Cols).length) none, .slc 5 1 0 ((([] : List Int) ++ p0.Primary).length) none, .d ((eL 6 eApiIndex) p0.Indexes), .d (eI p0.Tree)]) ts23 rfl rfl rfl rfl rfl rfl rfl)) (sn ?_)))))))))
  refine sr (s1 (asg (v := .d .nils) rfl) (sn (SC.seqP h0 (fun y => ⟨mk 45 [(1, .ref 0 0 0), (2, .ref 1 0 0), (3, .slc 2 6 0 y.length none)], [.box (.agg [.d (eS p0.Name), .slc 3 7 0 ((([] : List ApiColumn) ++ p0.Cols).length) none, .slc 4 1 0 ((([] : List Int) ++ p0.Primary).length) none, .d ((eL 6 eApiIndex) p0.Indexes), .d (eI p0.Tree)]), .box (.d (.agg [(eS ([] : List UInt8)), .nils, .nils, .nils, (eI (0 : Int))])), .row 6 (List.map eApiIndex y) true, .row 7 (List.map eApiColumn (([] : List ApiColumn) ++ p0.Cols)) true, .row 1 (List.map eI (([] : List Int) ++ p0.Primary)) true]⟩) ?_ ?_)))
  · intro u1_66 h1
    obtain ⟨u2_80, h2, h1⟩ := ob h1
    refine sr (s1 (asg rfl) (sn (SC.blk (SC.loopB h2 (fun y => ⟨mk 45 [(1, .ref 0 0 0), (2, .ref 1 0 0), (3, .slc 2 6 0 y.1.length none), (4, .d (eI y.2))], [.box (.agg [.d (eS p0.Name), .slc 3 7 0 ((([] : List ApiColumn) ++ p0.Cols).length) none, .slc 4 1 0 ((([] : List Int) ++ p0.Primary).length) none, .d ((eL 6 eApiIndex) p0.Indexes), .d (eI p0.Tree)]), .box (.d (.agg [(eS ([] : List UInt8)), .nils, .nils, .nils, (eI (0 : Int))])), .row 6 (List.map eApiIndex y.1) true, .row 7 (List.map eApiColumn (([] : List ApiColumn) ++ p0.Cols)) true, .row 1 (List.map eI (([] : List Int) ++ p0.Primary)) true]⟩) (Wk.trans (Wk.pushE (σ' := [.box (.agg [.d (eS p0.Name), .slc 3 7 0 ((([] : List ApiColumn) ++ p0.Cols).length) none, .slc 5 1 0 ((([] : List Int) ++ p0.Primary).length) none, .d ((eL 6 eApiIndex) p0.Indexes), .d (eI p0.Tree)]), .box (.d (.agg [(eS ([] : List UInt8)), .nils, .nils, .nils, (eI (0 : Int))])), .dead, .row 7 (List.map eApiColumn (([] : List ApiColumn) ++ p0.Cols)) true, .dead, .row 1 (List.map eI (([] : List Int) ++ p0.Primary)) true, .row 6 (List.map eApiIndex ([] : List ApiIndex)) true]) (.row 6 [] true) (fun _ hh => by cases hh) rfl) (Wk.trans (Wk.env (e' := [(1, .ref 0 0 0), (2, .ref 1 0 0), (3, .slc 6 6 0 (([] : List ApiIndex).length) none), (4, .d (eI (0 : Int)))]) (EW.cons (AW.refl _) (EW.cons (AW.refl _) (EW.cons (AW.slcn _ _ _) (EW.cons (AW.refl _) EW.nil))))) (wc [0, 1, 6, 3, 5] [0, 1, 6] (by kernel_rfl) rfl (by kernel_rfl)))) ?_))))
    intro n85
    rintro ⟨y71, y72⟩ w2_79 h3 hv3
    refine sq (sr (s1 (mv rfl) (s1 (far (k := 3) rfl fo26_3 ts24 rfl) (s1 (lod rfl (ld_box ts24 ta24 rfl rfl)) (s1 (len rfl rfl rfl (len_lst un24)) (s1 (bi rfl rfl q_i64_lss) (sn (cB h3 rfl (fun h3 => ?_) (fun h3 => ?_)))))))))
    · obtain ⟨v81, hv81, h3⟩ := ob h3; obtain ⟨hg82, h3⟩ := gd h3; obtain ⟨hg83, h3⟩ := gd h3; obtain ⟨hg84, h3⟩ := gd h3
      refine sk (sq (SC.blk (sr (s1 (far (k := 3) rfl fo26_3 ts24 rfl) (s1 (lod rfl (ld_box ts24 ta24 rfl rfl)) (s1 (mv rfl) (s1 (ial rfl rfl un24 ts42 (getI_some hv81).1 (map_get (getI_some hv81).2) rfl) (s1 (lod (v := .d (eApiIndex v81)) rfl (ld_rop ts42 ta42 rfl)) (s1 (alo (k := 5) zo42 rfl) ?_)))))))))
      refine s0 (sto rfl rfl (sB (d' := .d (eApiIndex v81)) ts42 rfl rfl rfl rfl rfl rfl rfl)) (sn (sr (s1 (bsn (k := 6) (ds := List.map eApiPart ([] : List ApiPart)) (off := 0) (l' := ([] : List ApiPart).length) rfl un40 ei76 rfl rfl rfl rfl rfl rfl) (s1 (far (k := 1) rfl fo42_1 ts40 rfl) (s1 (lod rfl (ld_box ts40 ta40 rfl rfl)) (s1 (app rfl rfl rfl rfl bc40 (aF (f := eApiPart) (xs := ([] : List ApiPart)) (k := 7) rfl un40 ei76 rfl el_lst hg82 rfl)) (s1 (far (k := 1) rfl fo42_1 ts40 rfl) (s0 (sto rfl rfl (sB (d' := .agg [.d (eS v81.Name), .slc 7 2 0 ((([] : List ApiPart) ++ v81.Parts).length) none, .d ((eL 1 eI) v81.Extra), .d (eB v81.Unique), .d (eB v81.Ready), .d (eI v81.Tree)]) ts40 rfl rfl rfl rfl rfl rfl rfl)) (sn ?_)))))))))
      refine sr (s1 (bsn (k := 8) (ds := List.map eI ([] : List Int)) (off := 0) (l' := ([] : List Int).length) rfl un23 ei3 rfl rfl rfl rfl rfl rfl) (s1 (far (k := 2) rfl fo42_2 ts23 rfl) (s1 (lod rfl (ld_box ts23 ta23 rfl rfl)) (s1 (app rfl rfl rfl rfl bc23 (aF (f := eI) (xs := ([] : List Int)) (k := 9) rfl un23 ei3 rfl el_lst hg83 rfl)) (s1 (far (k := 2) rfl fo42_2 ts23 rfl) (s0 (sto rfl rfl (sB (d' := .agg [.d (eS v81.Name), .slc 7 2 0 ((([] : List ApiPart) ++ v81.Parts).length) none, .slc 9 1 0 ((([] : List Int) ++ v81.Extra).length) none, .d (eB v81.Unique), .d (eB v81.Ready), .d (eI v81.Tree)]) ts23 rfl rfl rfl rfl rfl rfl rfl)) (sn (SC.region (s1 (mv rfl) ?_)))))))))
      refine s1 (lod (v := .agg [.d (eS v81.Name), .slc 7 2 0 ((([] : List ApiPart) ++ v81.Parts).length) none, .slc 9 1 0 ((([] : List Int) ++ v81.Extra).length) none, .d (eB v81.Unique), .d (eB v81.Ready), .d (eI v81.Tree)]) rfl (ld_box ts42 ta42 rfl rfl)) (SO.wk (Wk.frzs (i := 39) (x := .agg [.d (eS v81.Name), .slc 7 2 0 ((([] : List ApiPart) ++ v81.Parts).length) none, .slc 9 1 0 ((([] : List Int) ++ v81.Extra).length) none, .d (eB v81.Unique), .d (eB v81.Ready), .d (eI v81.Tree)]) rfl rfl rfl (frzs_d rfl (frzs_slc (fF rfl rfl rfl) (frzs_slc (fF rfl rfl rfl) (frzs_d rfl (frzs_d rfl (frzs_d rfl frzs_nil))))))) (s1 (bsn (k := 10) (ds := List.map eApiIndex [(ApiIndex.mk v81.Name (([] : List ApiPart) ++ v81.Parts) (([] : List Int) ++ v81.Extra) v81.Unique v81.Ready v81.Tree)]) (off := 0) (l' := [(ApiIndex.mk v81.Name (([] : List ApiPart) ++ v81.Parts) (([] : List Int) ++ v81.Extra) v81.Unique v81.Ready v81.Tree)].length) rfl un24 ei42 rfl rfl (by rfl) rfl rfl rfl) (s1 (app rfl rfl rfl rfl bc24 (aF (f := eApiIndex) (xs := y71) (k := 11) rfl un24 ei42 rfl (el_full (xs := [(ApiIndex.mk v81.Name (([] : List ApiPart) ++ v81.Parts) (([] : List Int) ++ v81.Extra) v81.Unique v81.Ready v81.Tree)]) rfl) hg84 rfl)) (s1 (asg rfl) (SO.nil ?_)))))
      change SC _ _ _ _ _
      have q := si h3; subst q
      exact SC.region (s1 (mv rfl) (s1 (bi rfl rfl q_i64_add) (s1 (asg rfl) (SO.nil (lf (wc [0, 1, 11, 3, 4] [0, 1, 11] (by kernel_rfl) rfl (by kernel_rfl)))))))
    · have q := si h3; subst q; have q : _ = _ := hv3; subst q; have q := si h1; subst q
      exact SC.exit ((wq rfl))
  · rintro y65 h0
    have q := si h0; subst q
    refine sr (s1 (mv rfl) (s1 (far (k := 3) rfl fo26_3 ts24 rfl) (s0 (sto rfl rfl (sB (d' := .agg [.d (eS p0.Name), .slc 3 7 0 ((([] : List ApiColumn) ++ p0.Cols).length) none, .slc 4 1 0 ((([] : List Int) ++ p0.Primary).length) none, .slc 2 6 0 y65.length none, .d (eI p0.Tree)]) ts24 rfl rfl rfl rfl rfl rfl rfl)) (sn (sr (s1 (lod (v := .agg [.d (eS p0.Name), .slc 3 7 0 ((([] : List ApiColumn) ++ p0.Cols).length) none, .slc 4 1 0 ((([] : List Int) ++ p0.Primary).length) none, .slc 2 6 0 y65.length none, .d (eI p0.Tree)]) rfl (ld_box ts26 ta26 rfl rfl)) (s0 (sto rfl rfl (sB (d' := .agg [.d (eS p0.Name), .slc 3 7 0 ((([] : List ApiColumn) ++ p0.Cols).length) none, .slc 4 1 0 ((([] : List Int) ++ p0.Primary).length) none, .slc 2 6 0 y65.length none, .d (eI p0.Tree)]) ts26 rfl rfl rfl rfl rfl rfl rfl)) (sn (SC.ret ?_)))))))))
    exact finR (wc (e' := [(2, .ref 0 0 0)]) [1, 3, 4, 2] [1] (by kernel_rfl) rfl (by kernel_rfl)) (lresC rfl (ld_box ts26 ta26 rfl rfl) lresN) rfl
end Lv
